import Derived.Test.YtceemiodpccbhaaGreatQ33
set_option linter.unusedVariables false
set_option linter.unusedSimpArgs false

namespace Go.Proofs.YtceemiodpccbhaaGreat
open Go.RowKit

set_option maxHeartbeats 8000000
section
theorem mul_posP{x y:Int}(h:0<x*y):(0<x/\0<y)\/(x<0/\y<0):=by
  rcases Int.lt_trichotomy x 0 with g|g|g
  . rcases Int.lt_or_le y 0 with f | f
    . exact .inr ⟨g,f⟩
    . have:=Int.mul_nonpos_of_nonpos_of_nonneg (Int.le_of_lt g) f;omega
  . rw[g,Int.zero_mul] at h;omega
  . rcases Int.lt_or_le 0 y with f | f
    . exact .inl ⟨g,f⟩
    . have:=Int.mul_nonpos_of_nonneg_of_nonpos (Int.le_of_lt g) f;omega
theorem mul_negP{x y:Int}(h:x*y<0):(0<x/\y<0)\/(x<0/\0<y):=by
  have:=mul_posP (x:=x) (y := -y) (by rw[Int.mul_neg];omega)
  omega
theorem mono_lineV{x1 y1 x2 y2:Int}(nz:Bx0 x1 y1 x2 y2->¬x1*y2-x2*y1=0):Mono x1 y1 x2 y2 (if 0<x1*y2-x2*y1 then 1 else -1):=by
  refine⟨by split<;>simp,fun hb=>?_⟩
  have n:=nz hb
  have k1:=fun h=>mul_posP (x:=x1) (y:=y2) h
  have k2:=fun h=>mul_negP (x:=x1) (y:=y2) h
  have k3:=fun h=>mul_posP (x:=x2) (y:=y1) h
  have k4:=fun h=>mul_negP (x:=x2) (y:=y1) h
  have z1:x1=0->x1*y2=0:=fun h=>by rw[h,Int.zero_mul]
  have z2:x2=0->x2*y1=0:=fun h=>by rw[h,Int.zero_mul]
  have z3:y1=0->x2*y1=0:=fun h=>by rw[h,Int.mul_zero]
  have z4:y2=0->x1*y2=0:=fun h=>by rw[h,Int.mul_zero]
  generalize x1*y2=p at *
  generalize x2*y1=q at *
  by_cases hc:0<p-q
  . rw [if_pos hc]
    refine⟨fun h=>?_,fun h=>?_,fun h=>?_,fun h=>?_⟩
    . have:=z1 h;have:=k4 (by omega);omega
    . have:=z2 h;have:=k1 (by omega);omega
    . have:=z3 h;have:=k1 (by omega);omega
    . have:=z4 h;have:=k4 (by omega);omega
  . rw [if_neg hc]
    refine⟨fun h=>?_,fun h=>?_,fun h=>?_,fun h=>?_⟩
    . have:=z1 h;have:=k3 (by omega);omega
    . have:=z2 h;have:=k2 (by omega);omega
    . have:=z3 h;have:=k2 (by omega);omega
    . have:=z4 h;have:=k3 (by omega);omega
def sideE(e:Ed)(px py:Int):Int:=if e.k=1 then (if 0<(e.ax-px)*(e.by'-py)-(e.bx-px)*(e.ay-py) then 1 else -1) else if (px-e.cx)*(px-e.cx)+(py-e.cy)*(py-e.cy)<radZ e*radZ e then e.ux*e.vy-e.uy*e.vx else -(e.ux*e.vy-e.uy*e.vx)
theorem mono_line{e:Ed}{px py:Int}(hk:e.k=1)(ho:e.ok=true)(h:onE e px py=false):Mono (e.ax-px) (e.ay-py) (e.bx-px) (e.by'-py) (sideE e px py)/\rayZ e px py=rayM (e.ax-px) (e.ay-py) (e.bx-px) (e.by'-py) (sideE e px py):=by
  have nz:Bx0 (e.ax-px) (e.ay-py) (e.bx-px) (e.by'-py)->¬(e.ax-px)*(e.by'-py)-(e.bx-px)*(e.ay-py)=0:=fun hb hc=>by
    unfold Bx0 at hb
    have:onE e px py=true:=onE_line_mk hk ho (by unfold Btw;omega) (by unfold Btw;omega) (by grind)
    rw[h] at this;cases this
  unfold sideE
  rw[if_pos hk]
  refine⟨mono_lineV nz,?_⟩
  have u1:(px-e.ax)*(e.by'-e.ay)<(py-e.ay)*(e.bx-e.ax) <-> 0<(e.ax-px)*(e.by'-py)-(e.bx-px)*(e.ay-py):=by
    have:(py-e.ay)*(e.bx-e.ax)-(px-e.ax)*(e.by'-e.ay)=(e.ax-px)*(e.by'-py)-(e.bx-px)*(e.ay-py):=by grind
    omega
  have u2:(px-e.bx)*(e.ay-e.by')<(py-e.by')*(e.ax-e.bx) <-> (e.ax-px)*(e.by'-py)-(e.bx-px)*(e.ay-py)<0:=by
    have:(py-e.by')*(e.ax-e.bx)-(px-e.bx)*(e.ay-e.by') = -((e.ax-px)*(e.by'-py)-(e.bx-px)*(e.ay-py)):=by grind
    omega
  unfold rayZ rayM beyZ beyL
  rw[if_pos hk]
  unfold Bx0 at nz
  generalize (e.ax-px)*(e.by'-py)-(e.bx-px)*(e.ay-py)=c at *
  by_cases h1:px<min e.ax e.bx
  . simp only [if_pos h1, and_true]
    have g1:0<min (e.ax-px) (e.bx-px):=by omega
    simp only[g1,true_or,and_true]
    (repeat' split)<;>omega
  . rw [if_neg h1]
    by_cases h2:px >= max e.ax e.bx
    . rw [if_pos h2]
      have g1:¬0<min (e.ax-px) (e.bx-px):=by omega
      have g2:¬0<max (e.ax-px) (e.bx-px):=by omega
      simp[g1,g2]
    . rw [if_neg h2]
      have g1:¬0<min (e.ax-px) (e.bx-px):=by omega
      have g2:0<max (e.ax-px) (e.bx-px):=by omega
      simp only[g1,g2,false_or,true_and]
      by_cases up:e.ay>e.by'
      . rw [if_pos up]
        simp only[decide_eq_true_eq,u2]
        by_cases hc:0<c
        . simp only[if_pos hc];(repeat' split)<;>omega
        . simp only[if_neg hc];(repeat' split)<;>omega
      . rw [if_neg up]
        simp only[decide_eq_true_eq,u1]
        by_cases hc:0<c
        . simp only[if_pos hc];(repeat' split)<;>omega
        . simp only[if_neg hc];(repeat' split)<;>omega
theorem bite3{p q:Prop}[Decidable p][Decidable q]{b:Bool}:(if p then true else if q then false else b)=true <-> (p\/(¬p/\¬q/\b=true)):=by
  by_cases hp:p<;>by_cases hq:q<;>simp[hp,hq]
theorem bite2{p:Prop}[Decidable p]{a b:Bool}:(if p then a else b)=true <-> ((p/\a=true)\/(¬p/\b=true)):=by
  by_cases hp:p<;>simp[hp]
def ArcV(X Y r x1 y1 x2 y2 τ:Int):Prop :=
  (x1=X+r/\y1=Y/\x2=X/\(y2=Y+r/\τ=1\/y2=Y-r/\τ = -1))\/(x1=X-r/\y1=Y/\x2=X/\(y2=Y-r/\τ=1\/y2=Y+r/\τ = -1)) \/
  (x1=X/\y1=Y+r/\y2=Y/\(x2=X-r/\τ=1\/x2=X+r/\τ = -1))\/(x1=X/\y1=Y-r/\y2=Y/\(x2=X+r/\τ=1\/x2=X-r/\τ = -1))
theorem mono_arcV{X Y r x1 y1 x2 y2 τ V W R:Int}(r0:0<r)(hV : -r<X->X<r->V<R)(hW : -r<Y->Y<r->W<R)(pV:¬X=0->0<V)(pW:¬Y=0->0<W)(zV:X=0->V=0)(zW:Y=0->W=0)(rV:X=r\/X = -r->V=R)(rW:Y=r\/Y = -r->W=R)
    (h:ArcV X Y r x1 y1 x2 y2 τ) (nz:Bx0 x1 y1 x2 y2->¬V+W=R):Mono x1 y1 x2 y2 (if V+W<R then τ else -τ) /\
    (if y1<=0/\0<y2/\(0<min x1 x2\/(¬0<min x1 x2/\¬max x1 x2<=0/\((2*X<x1+x2/\V+W<R)\/(¬2*X<x1+x2/\R<V+W/\0<X)))) then (1:Int) else if y2<=0/\0<y1/\(0<min x1 x2\/(¬0<min x1 x2/\¬max x1 x2<=0/\((2*X<x1+x2/\V+W<R)\/(¬2*X<x1+x2/\R<V+W/\0<X)))) then -1 else 0)=rayM x1 y1 x2 y2 (if V+W<R then τ else -τ):=by
  unfold Mono Bx0 rayM at *
  unfold ArcV at h
  rcases h with⟨rfl,rfl,rfl,h⟩|⟨rfl,rfl,rfl,h⟩|⟨rfl,rfl,rfl,h⟩|⟨rfl,rfl,rfl,h⟩<;>rcases h with⟨rfl,rfl⟩|⟨rfl,rfl⟩<;>by_cases hw:V+W<R <;>
    simp only[hw,if_true,if_false,not_true_eq_false,not_false_eq_true,show - -(1:Int)=1 from rfl,show (0:Int)<1 by decide,show ¬(1:Int)<0 by decide,show (-1:Int)<0 by decide,show ¬(0:Int) < -1 by decide,show ¬(1:Int) = -1 by decide,show ¬(-1:Int)=1 by decide,and_true,and_false,or_false,false_or,true_or,or_true,true_and,if_false] <;>
    refine⟨fun hb=>⟨fun g=>?_,fun g=>?_,fun g=>?_,fun g=>?_⟩,?_⟩
  all_goals first
    | (have:=nz hb;omega)
    | ((repeat' split)<;>omega)
theorem mono_arc{e:Ed}{px py:Int}(hk:¬e.k=1)(ho:e.ok=true)(h:onE e px py=false):Mono (e.ax-px) (e.ay-py) (e.bx-px) (e.by'-py) (sideE e px py)/\rayZ e px py=rayM (e.ax-px) (e.ay-py) (e.bx-px) (e.by'-py) (sideE e px py):=by
  obtain⟨r0,hu,hv,a1,a2,a3,a4⟩:=arc_axes ho hk
  obtain⟨r,R⟩:∃r,radZ e=r:=⟨_,rfl⟩
  obtain⟨X,hX⟩:∃X,e.cx-px=X:=⟨_,rfl⟩
  obtain⟨Y,hY⟩:∃Y,e.cy-py=Y:=⟨_,rfl⟩
  rw[R] at r0 a1 a2 a3 a4
  have X2:(px-e.cx)*(px-e.cx)=X*X:=by rw[<- hX];grind
  have Y2:(py-e.cy)*(py-e.cy)=Y*Y:=by rw[<- hY];grind
  have m0:r*0=0:=by omega
  have m1:r*1=r:=by omega
  have m2:r * -1 = -r:=by omega
  have n0 : -(0:Int)=0:=rfl
  have n1 : -(-1:Int)=1:=rfl
  have t1:∀t:Int,-r<t->t<r->t*t<r*r:=fun t g1 g2=>by
    rcases Int.le_total 0 t with f|f
    . have:=Int.mul_lt_mul_of_pos_right g2 r0;have:=Int.mul_le_mul_of_nonneg_left (Int.le_of_lt g2) f;omega
    . have k1 := Int.mul_lt_mul_of_pos_right (show -t < r by omega) r0
      have k2:=Int.mul_le_mul_of_nonneg_left (show -t<=r by omega) (show 0 <= -t by omega)
      rw[Int.neg_mul_neg] at k2;omega
  have t2:∀t:Int,¬t=0->0<t*t:=fun t g=>by
    have:=sqz_nn t
    have:¬t*t=0:=fun f=>by rcases Int.mul_eq_zero.1 f with g'|g'<;>exact g g'
    omega
  have x3:∀t:Int,t=0->t*t=0:=fun t h=>by rw[h];rfl
  have x4:∀t:Int,(t=r\/t = -r)->t*t=r*r:=fun t h=>by rcases h with h|h<;>rw[h];rw[Int.neg_mul_neg]
  have hA:∃τ,ArcV X Y r (e.ax-px) (e.ay-py) (e.bx-px) (e.by'-py) τ/\(e.ax-e.cx)*(e.ax-e.cx)+(e.ay-e.cy)*(e.ay-e.cy)=r*r/\e.ux*e.vy-e.uy*e.vx=τ:=by
    unfold ArcV
    rcases hu with⟨u1,u2⟩|⟨u1,u2⟩|⟨u1,u2⟩|⟨u1,u2⟩<;>rcases hv with⟨k0,v1,v2⟩|⟨k0,v1,v2⟩ <;>
      (rw [u1] at a1 v2; rw [u2] at a2 v1; rw [v1] at a3; rw [v2] at a4
       simp only[m0,m1,m2,n0,n1] at a1 a2 a3 a4
       first
        | exact⟨1,by omega,by rw[a1,a2];grind,by rw[u1,u2,v1,v2];decide⟩
        | exact⟨-1,by omega,by rw[a1,a2];grind,by rw[u1,u2,v1,v2];decide⟩)
  obtain⟨τ,hA,hr,hτ⟩:=hA
  have nz:Bx0 (e.ax-px) (e.ay-py) (e.bx-px) (e.by'-py)->¬X*X+Y*Y=r*r:=fun hb hc=>by
    unfold Bx0 at hb
    unfold onE powerI at h
    rw[ho,if_neg hk,X2,Y2,hr,inB_iff.2 ⟨by unfold Btw;omega,by unfold Btw;omega⟩] at h
    simp at h
    omega
  obtain⟨k1,k2⟩:=mono_arcV r0 (t1 X) (t1 Y) (t2 X) (t2 Y) (x3 X) (x3 Y) (x4 X) (x4 Y) hA nz
  have hs:sideE e px py=if X*X+Y*Y<r*r then τ else -τ:=by unfold sideE;rw[if_neg hk,X2,Y2,R,hτ]
  rw[hs]
  refine⟨k1,?_⟩
  rw[<- k2]
  unfold rayZ beyZ beyA
  rw[if_neg hk,R,X2,Y2]
  simp only[bite3,bite2,Bool.and_eq_true,decide_eq_true_eq]
  have c1:e.ay<=py <-> e.ay-py<=0:=by omega
  have c2:py<e.by' <-> 0<e.by'-py:=by omega
  have c3:e.by'<=py <-> e.by'-py<=0:=by omega
  have c4:py<e.ay <-> 0<e.ay-py:=by omega
  have c5:px<min e.ax e.bx <-> 0<min (e.ax-px) (e.bx-px):=by omega
  have c6:px >= max e.ax e.bx <-> max (e.ax-px) (e.bx-px)<=0:=by omega
  have c7:e.ax+e.bx>2*e.cx <-> 2*X<e.ax-px+(e.bx-px):=by omega
  have c8:px-e.cx<0 <-> 0<X:=by omega
  have c9:X*X+Y*Y>r*r <-> r*r<X*X+Y*Y:=Iff.rfl
  simp only[c1,c2,c3,c4,c5,c6,c7,c8,c9,and_true,Bool.false_eq_true,and_false,false_or]
theorem mono_e{e:Ed}{px py:Int}(ho:e.ok=true)(h:onE e px py=false):Mono (e.ax-px) (e.ay-py) (e.bx-px) (e.by'-py) (sideE e px py)/\rayZ e px py=rayM (e.ax-px) (e.ay-py) (e.bx-px) (e.by'-py) (sideE e px py):=by
  by_cases hk:e.k=1
  . exact mono_line hk ho h
  . exact mono_arc hk ho h
end

section
theorem ray_out{x1 y1 x2 y2:Int}(h:¬Bx0 x1 y1 x2 y2)(s t:Int):rayM x1 y1 x2 y2 s=rayM x1 y1 x2 y2 t:=by
 unfold Bx0 at h
 unfold rayM
 (repeat' split)<;>omega
section
variable {a b c d x y:Int} {e e':Ed}
theorem bx_iso(h:IsoOk a b c d){x1 y1 x2 y2:Int}:Bx0 (a*x1+b*y1) (c*x1+d*y1) (a*x2+b*y2) (c*x2+d*y2) <-> Bx0 x1 y1 x2 y2:=by
 unfold Bx0
 rcases h with⟨rfl,rfl,rfl|rfl,rfl|rfl⟩|⟨rfl,rfl,rfl|rfl,rfl|rfl⟩<;>omega
theorem side_mv(h:Mvd a b c d x y e e'){px py:Int}(off:onE e px py=false)(hb:Bx0 (e.ax-px) (e.ay-py) (e.bx-px) (e.by'-py)):sideE e' (a*px+b*py+x) (c*px+d*py+y)=(a*d-b*c)*sideE e px py:=by
 have hd:=det_iso h.iso
 unfold sideE
 by_cases hk:e.k=1
 ·have nz:¬(e.ax-px)*(e.by'-py)-(e.bx-px)*(e.ay-py)=0:=fun hc=>by
   unfold Bx0 at hb
   have:onE e px py=true:=onE_line_mk hk h.ok (by unfold Btw;omega) (by unfold Btw;omega) (by grind)
   rw[off] at this;cases this
  rw[if_pos hk,if_pos (h.k.2 hk),h.ax,h.ay,h.bx,h.by',sub_iso,sub_iso,sub_iso,sub_iso]
  have:=crs_iso (a:=a) (b:=b) (c:=c) (d:=d) (e.ax-px) (e.ay-py) (e.bx-px) (e.by'-py)
  have e1:(a*(e.ax-px)+b*(e.ay-py))*(c*(e.bx-px)+d*(e.by'-py))-(a*(e.bx-px)+b*(e.by'-py))*(c*(e.ax-px)+d*(e.ay-py))=(a*d-b*c)*((e.ax-px)*(e.by'-py)-(e.bx-px)*(e.ay-py)):=by grind
  rw[e1]
  generalize (e.ax-px)*(e.by'-py)-(e.bx-px)*(e.ay-py)=k at *
  rcases hd with g|g<;>rw[g]<;>(repeat' split)<;>omega
 ·have hk' : ¬ e'.k = 1 := fun g => hk (h.k.1 g)
  obtain⟨u1,u2,v1,v2⟩:=h.axes hk
  rw[if_neg hk,if_neg hk',h.rad hk,h.cx hk,h.cy hk,sub_iso,sub_iso,dot_iso h.iso,u1,u2,v1,v2]
  have e1:(a*e.ux+b*e.uy)*(c*e.vx+d*e.vy)-(c*e.ux+d*e.uy)*(a*e.vx+b*e.vy)=(a*d-b*c)*(e.ux*e.vy-e.uy*e.vx):=crs_iso ..
  rw[e1]
  split
  ·rfl
  ·rw[Int.mul_neg]
theorem ray_mv(h:Mvd a b c d x y e e'){px py:Int}(off:onE e px py=false):rayZ e' (a*px+b*py+x) (c*px+d*py+y)=(a*d-b*c)*rayZ e px py+phI a b c d (e.ax-px) (e.ay-py)-phI a b c d (e.bx-px) (e.by'-py):=by
 obtain⟨M,R⟩:=mono_e h.ok off
 have off':onE e' (a*px+b*py+x) (c*px+d*py+y)=false:=by rw[h.on];exact off
 obtain⟨_,R'⟩:=mono_e h.ok' off'
 have n1:¬(e.ax-px=0/\e.ay-py=0):=fun ⟨g1,g2⟩=>by
  have:=end_a h.ok
  rw[show e.ax=px by omega,show e.ay=py by omega,off] at this;cases this
 have n2:¬(e.bx-px=0/\e.by'-py=0):=fun ⟨g1,g2⟩=>by
  have:=end_b h.ok
  rw[show e.bx=px by omega,show e.by'=py by omega,off] at this;cases this
 have key:=ray_iso h.iso M n1 n2
 rw[R,<- key,R',h.ax,h.ay,h.bx,h.by',sub_iso,sub_iso,sub_iso,sub_iso]
 by_cases hb:Bx0 (e.ax-px) (e.ay-py) (e.bx-px) (e.by'-py)
 ·rw[side_mv h off hb]
 ·exact ray_out (fun g=>hb ((bx_iso h.iso).1 g)) _ _
theorem wnd_mv{E E':Nat->Ed}{px py:Int}:∀ {n:Nat},(∀i,i<=n->Mvd a b c d x y (E i) (E' i))->(∀i,i<=n->onE (E i) px py=false)->(∀i,i+1<=n->(E (i+1)).ax=(E i).bx/\(E (i+1)).ay=(E i).by') ->
  wnd E' (a*px+b*py+x) (c*px+d*py+y) (n+1)=(a*d-b*c)*wnd E px py (n+1)+phI a b c d ((E 0).ax-px) ((E 0).ay-py)-phI a b c d ((E n).bx-px) ((E n).by'-py)
 | 0,hM,off,_=>by
  unfold wnd wnd
  rw[ray_mv (hM 0 (Nat.le_refl _)) (off 0 (Nat.le_refl _)),Int.mul_add,Int.mul_zero]
  omega
 | n+1,hM,off,ch=>by
  have ih:=wnd_mv (n:=n) (fun i hi=>hM i (by omega)) (fun i hi=>off i (by omega)) (fun i hi=>ch i (by omega))
  obtain⟨c1,c2⟩:=ch n (Nat.le_refl _)
  have r:=ray_mv (hM (n+1) (Nat.le_refl _)) (off (n+1) (Nat.le_refl _))
  rw[c1,c2] at r
  show wnd E' _ _ (n+1)+rayZ (E' (n+1)) _ _=(a*d-b*c)*(wnd E px py (n+1)+rayZ (E (n+1)) px py)+_-_
  rw[ih,r,Int.mul_add]
  omega
theorem near_on{px py r:Int}(r0:0<=r)(h:onE e px py=true):nearC e px py r=true:=by
 have rr:=Int.mul_nonneg r0 r0
 unfold nearC
 by_cases h1:frZ px py e.ax e.ay<=r*r
 ·rw[if_pos h1]
 rw[if_neg h1]
 by_cases h2:frZ px py e.bx e.by'<=r*r
 ·rw[if_pos h2]
 rw[if_neg h2]
 by_cases hk:e.k=1
 ·rw [if_pos hk]
  obtain⟨_,b1,b2,hl⟩:=onE_line hk h
  have m1:=btw_mul (btw_shift b1)
  have m2:=btw_mul (btw_shift b2)
  have hz:∀u v:Int,u*u+v*v<=0->u=0/\v=0:=fun u v g=>by
   have:=sqz_nn u;have:=sqz_nn v
   constructor
   ·rcases Int.mul_eq_zero.1 (show u*u=0 by omega) with f|f<;>exact f
   ·rcases Int.mul_eq_zero.1 (show v*v=0 by omega) with f|f<;>exact f
  have sq:∀u v t:Int,u*v=t->0<=t->0<=t:=fun _ _ _ _ h=>h
  have l1:(px-e.ax)*(px-e.ax)<=(px-e.ax)*(e.bx-e.ax):=by have:=m1.2.2;rw[Int.mul_sub] at this;omega
  have l2:(py-e.ay)*(py-e.ay)<=(py-e.ay)*(e.by'-e.ay):=by have:=m2.2.2;rw[Int.mul_sub] at this;omega
  have al0:¬alZ e px py<=0:=fun g=>by
   unfold alZ at g
   unfold frZ at h1
   omega
  have al1:¬alZ e px py >= loZ e:=fun g=>by
   unfold alZ loZ at g
   unfold frZ at h2
   have q1:(px-e.bx)*(px-e.bx)=(px-e.ax)*(px-e.ax)-2*((px-e.ax)*(e.bx-e.ax))+(e.bx-e.ax)*(e.bx-e.ax):=by grind
   have q2:(py-e.by')*(py-e.by')=(py-e.ay)*(py-e.ay)-2*((py-e.ay)*(e.by'-e.ay))+(e.by'-e.ay)*(e.by'-e.ay):=by grind
   omega
  have cr0:crZ e px py=0:=by unfold crZ;omega
  rw[if_neg al0,if_neg al1,cr0]
  have lo:=sqI_nn (e.bx-e.ax) (e.by'-e.ay)
  have:loZ e=sqI (e.bx-e.ax) (e.by'-e.ay):=rfl
  have:=Int.mul_nonneg rr (show 0<=loZ e by omega)
  exact decide_eq_true (by omega)
 ·rw [if_neg hk]
  obtain⟨ho,hr,w1,w2⟩:=onE_arc hk h
  obtain⟨r0',hu,hv,a1,a2,a3,a4⟩:=arc_axes ho hk
  have R0:=rad_pos ho hk
  have hw:wiZ e px py >= 0:=by
   unfold wiZ
   obtain⟨R,hR⟩:∃R,radZ e=R:=⟨_,rfl⟩
   rw[hR] at a1 a2 a3 a4 r0'
   have f1:e.ax-e.cx=R*e.ux:=by omega
   have f2:e.ay-e.cy=R*e.uy:=by omega
   have f3:e.bx-e.cx=R*e.vx:=by omega
   have f4:e.by'-e.cy=R*e.vy:=by omega
   rw[f1,f2,f3,f4]
   have W1:=Int.mul_nonneg (Int.le_of_lt r0') w1
   have W2:=Int.mul_nonneg (Int.le_of_lt r0') w2
   rcases hv with⟨k0,v1,v2⟩|⟨k0,v1,v2⟩
   ·rw [k0, if_neg (by decide), v1, v2]
    rw[v1,v2] at W2
    have s1:R*e.ux*(py-e.cy)-R*e.uy*(px-e.cx)=R*((px-e.cx) * -e.uy+(py-e.cy)*e.ux):=by grind
    have s2:(px-e.cx)*(R*e.ux)-(py-e.cy)*(R * -e.uy)=R*((px-e.cx)*e.ux+(py-e.cy)*e.uy):=by grind
    omega
   ·rw [k0, if_pos rfl, v1, v2]
    rw[v1,v2] at W2
    have s1:R*e.uy*(py-e.cy)-R * -e.ux*(px-e.cx)=R*((px-e.cx)*e.ux+(py-e.cy)*e.uy):=by grind
    have s2:(px-e.cx)*(R*e.uy)-(py-e.cy)*(R*e.ux)=R*((px-e.cx)*e.uy+(py-e.cy) * -e.ux):=by grind
    omega
  have hf:frZ px py e.cx e.cy=radZ e*radZ e:=hr
  have k1:=sq_upR (Int.le_of_lt R0) (show radZ e<=radZ e+r by omega)
  have k2:=sq_upR (show 0<=max (radZ e-r) 0 by omega) (show max (radZ e-r) 0<=radZ e by omega)
  rw[if_pos hw,hf,if_pos k1]
  exact decide_eq_true k2
where sq_upR {a b:Int} (h0:0<=a) (h:a<=b):a*a<=b*b:=Int.mul_le_mul h h h0 (by omega)
theorem wi_inQ(e:Ed)(px py:Int):wiZ e px py >= 0 <-> ((px-e.cx=0/\py-e.cy=0)\/inQ e (px-e.cx) (py-e.cy)=true):=by
 unfold wiZ inQ wiB
 simp only[Bool.and_eq_true,Bool.not_eq_true',Bool.and_eq_false_iff,beq_eq_false_iff_ne]
 by_cases hz:px-e.cx=0/\py-e.cy=0
 ·rw [hz.1, hz.2]
  simp
 ·by_cases k : e.k = 3
  ·simp only[if_pos k,Bool.and_eq_true,decide_eq_true_eq];omega
  ·simp only[if_neg k,Bool.and_eq_true,decide_eq_true_eq];omega
theorem near_mv(h:Mvd a b c d x y e e')(px py r:Int):nearC e' (a*px+b*py+x) (c*px+d*py+y) r=nearC e px py r:=by
 have f:∀u v:Int,frZ (a*px+b*py+x) (c*px+d*py+y) (a*u+b*v+x) (c*u+d*v+y)=frZ px py u v:=fun u v=>by
  unfold frZ;rw[sub_iso,sub_iso,dot_iso h.iso]
 unfold nearC
 rw[h.ax,h.ay,h.bx,h.by',f,f]
 by_cases hk:e.k=1
 ·have e1 : alZ e' (a * px + b * py + x) (c * px + d * py + y) = alZ e px py := by unfold alZ; rw [h.ax, h.ay, h.bx, h.by', sub_iso, sub_iso, sub_iso, sub_iso, dot_iso h.iso]
  have e2:loZ e'=loZ e:=by unfold loZ;rw[h.ax,h.ay,h.bx,h.by',sub_iso,sub_iso,dot_iso h.iso]
  have e3:crZ e' (a*px+b*py+x) (c*px+d*py+y)=(a*d-b*c)*crZ e px py:=by
   unfold crZ;rw[h.ax,h.ay,h.bx,h.by',sub_iso,sub_iso,sub_iso,sub_iso]
   exact crs_iso ..
  have e4:crZ e' (a*px+b*py+x) (c*px+d*py+y)*crZ e' (a*px+b*py+x) (c*px+d*py+y)=crZ e px py*crZ e px py:=by
   rw[e3]
   rcases det_iso h.iso with g|g<;>rw[g]<;>grind
  rw[if_pos hk,if_pos (h.k.2 hk),e1,e2,e4]
 ·have e1:(wiZ e' (a*px+b*py+x) (c*px+d*py+y) >= 0)=(wiZ e px py >= 0):=by
   apply propext
   rw[wi_inQ,wi_inQ,h.cx hk,h.cy hk,sub_iso,sub_iso,h.inQ hk]
   have:(a*(px-e.cx)+b*(py-e.cy)=0/\c*(px-e.cx)+d*(py-e.cy)=0) <-> (px-e.cx=0/\py-e.cy=0):=by
    rcases h.iso with⟨rfl,rfl,rfl|rfl,rfl|rfl⟩|⟨rfl,rfl,rfl|rfl,rfl|rfl⟩<;>omega
   rw[this]
  rw[if_neg hk,if_neg (fun g=>hk (h.k.1 g)),h.cx hk,h.cy hk,f,h.rad hk]
  simp only[e1]
end
end
theorem allB_cg{p q:Nat->Bool}:∀ {n:Nat},(∀k,k<n->p k=q k)->allB p n=allB q n
 | 0,_=>rfl
 | n+1,h=>by
  unfold allB
  rw[allB_cg fun k hk=>h k (by omega),h n (Nat.lt_succ_self n)]
theorem box_mv{a b c d x y:Int}{E E':Nat->Ed}(hi:IsoOk a b c d):∀ {m:Nat},(∀i,i<=m->Mvd a b c d x y (E i) (E' i)) ->
  x0N E' m=(if b=0 then (if a=1 then x0N E m else -x1N E m) else if b=1 then y0N E m else -y1N E m)+x/\x1N E' m=(if b=0 then (if a=1 then x1N E m else -x0N E m) else if b=1 then y1N E m else -y0N E m)+x /\
  y0N E' m=(if c=0 then (if d=1 then y0N E m else -y1N E m) else if c=1 then x0N E m else -x1N E m)+y/\y1N E' m=(if c=0 then (if d=1 then y1N E m else -y0N E m) else if c=1 then x1N E m else -x0N E m)+y
 | 0,hM=>by
  have h:=hM 0 (Nat.le_refl _)
  unfold x0N x1N y0N y1N
  rw[h.ax,h.ay,h.bx,h.by']
  rcases hi with⟨rfl,rfl,rfl|rfl,rfl|rfl⟩|⟨rfl,rfl,rfl|rfl,rfl|rfl⟩<;>simp<;>omega
 | m+1,hM=>by
  obtain⟨k1,k2,k3,k4⟩:=box_mv hi (m:=m) fun i hm=>hM i (by omega)
  have h:=hM (m+1) (Nat.le_refl _)
  unfold x0N x1N y0N y1N
  rw[h.ax,h.ay,h.bx,h.by',k1,k2,k3,k4]
  rcases hi with⟨rfl,rfl,rfl|rfl,rfl|rfl⟩|⟨rfl,rfl,rfl|rfl,rfl|rfl⟩<;>simp<;>omega
theorem inBx_eq{s:Sh}(h:OkS s)(px py:Int):inBx s px py=(decide (x0N s.e (s.n-1)-s.r<=px)&&decide (px<=x1N s.e (s.n-1)+s.r)&&(decide (y0N s.e (s.n-1)-s.r<=py)&&decide (py<=y1N s.e (s.n-1)+s.r))):=by
 have hn:1<=s.n:=by have:=h.n0;unfold fewS at this;split at this<;>omega
 obtain⟨h1,h2,h3,h4⟩:=bx_bd (e:=s.e) (m:=s.n-1) fun k hk=>h.ok k (by omega)
 have hr:=h.r.1
 unfold inBx inB bX0 bY0 bX1 bY1
 rw[if_neg (by omega),if_neg (by omega),if_neg (by omega),if_neg (by omega),wrap_in (by unfold I64;omega),wrap_in (by unfold I64;omega),wrap_in (by unfold I64;omega),wrap_in (by unfold I64;omega)]
 rw[Bool.eq_iff_iff]
 simp only[Bool.and_eq_true,decide_eq_true_eq]
 omega
theorem moved2(x y t:Int)(m:Bool)(ht:0<=t/\t<=3):∃a b c d,IsoOk a b c d/\(∀px py,applyP x y t m px py=(a*px+b*py+x,c*px+d*py+y))/\∀e:Ed,e.ok=true->(moveE e x y t m).ok=true->Mvd a b c d x y e (moveE e x y t m):=by
 obtain⟨a,b,c,d,hi,h⟩:=applyP_iso x y t m ht
 refine⟨a,b,c,d,hi,h,fun e h1 h2=>⟨hi,h1,h2,?_,?_,?_,?_,?_,?_,?_⟩⟩
 ·show (if m then (fam e.k).k else e.k) = 1 <-> _
  cases m
  ·exact Iff.rfl
  ·exact rev_k1 h1
 ·show (applyP x y t m e.ax e.ay).1=_;rw[h]
 ·show (applyP x y t m e.ax e.ay).2=_;rw[h]
 ·show (applyP x y t m e.bx e.by').1=_;rw[h]
 ·show (applyP x y t m e.bx e.by').2=_;rw[h]
 ·intro hk
  show (if e.k=1 then e.cx else (applyP x y t m e.cx e.cy).1)=_
  rw[if_neg hk,h]
 ·intro hk
  show (if e.k=1 then e.cy else (applyP x y t m e.cx e.cy).2)=_
  rw[if_neg hk,h]
theorem insS_ok{s:Sh}(h:OkS s)(px py:Int):insS s px py=if inBx s px py=false then false else if allB (farB s px py) s.n=false then true else decide (s.k=2)&&decide (wnd s.e px py s.n≠0):=by
 unfold insS
 rw[if_neg (by simpa using h.chk)]
theorem ins_mv{s:Sh}{x y t:Int}{m:Bool}(hs:OkS s)(hs':OkS (movS s x y t m))(px py:Int):insS (movS s x y t m) (applyP x y (modZ t 4) m px py).1 (applyP x y (modZ t 4) m px py).2=insS s px py:=by
 obtain⟨a,b,c,d,hi,hp,hE⟩:=moved2 x y (modZ t 4) m (by have:=modZ_bd t (m:=4) (by omega);omega)
 have hn:1<=s.n:=by have:=hs.n0;unfold fewS at this;split at this<;>omega
 have hM:∀i,i<s.n->Mvd a b c d x y (s.e i) ((movS s x y t m).e i):=fun i hi'=>hE _ (hs.ok i hi') (hs'.ok i hi')
 rw[hp]
 rw[insS_ok hs',insS_ok hs]
 have hb:inBx (movS s x y t m) (a*px+b*py+x) (c*px+d*py+y)=inBx s px py:=by
  rw[inBx_eq hs',inBx_eq hs]
  obtain⟨k1,k2,k3,k4⟩:=box_mv hi (E:=s.e) (E':=(movS s x y t m).e) (m:=s.n-1) fun i h=>hM i (by omega)
  show (decide (x0N (movS s x y t m).e (s.n-1)-s.r<=_)&&decide (_<=x1N (movS s x y t m).e (s.n-1)+s.r)&&(decide (y0N (movS s x y t m).e (s.n-1)-s.r<=_)&&decide (_<=y1N (movS s x y t m).e (s.n-1)+s.r)))=_
  rw[k1,k2,k3,k4,Bool.eq_iff_iff]
  simp only[Bool.and_eq_true,decide_eq_true_eq]
  rcases hi with⟨rfl,rfl,rfl|rfl,rfl|rfl⟩|⟨rfl,rfl,rfl|rfl,rfl|rfl⟩<;>simp<;>omega
 have hf:allB (farB (movS s x y t m) (a*px+b*py+x) (c*px+d*py+y)) (movS s x y t m).n=allB (farB s px py) s.n:=by
  show allB _ s.n=_
  exact allB_cg fun k hk=>by unfold farB;rw[near_mv (hM k hk)];rfl
 simp only[hb,hf]
 cases h1:inBx s px py with
 | false=>rfl
 | true =>
  cases h2:allB (farB s px py) s.n with
  | false=>rfl
  | true =>
   simp only[Bool.true_eq_false,if_false]
   show (decide (s.k=2)&&_)=_
   by_cases hk:s.k=2
   ·have off:∀i,i<=s.n-1->onE (s.e i) px py=false:=fun i h=>by
     have:=allB_t.1 h2 i (by omega)
     unfold farB at this
     cases hg:onE (s.e i) px py with
     | false=>rfl
     | true=>rw[near_on hs.r.1.1 hg] at this;cases this
    have w:=wnd_mv (E:=s.e) (E':=(movS s x y t m).e) (px:=px) (py:=py) (n:=s.n-1) (fun i h=>hM i (by omega)) off (fun i h=>hs.ch i (by omega))
    obtain⟨c1,c2⟩:=hs.cl hk
    rw[show s.n-1+1=s.n by omega,c1,c2] at w
    have w':wnd (movS s x y t m).e (a*px+b*py+x) (c*px+d*py+y) (movS s x y t m).n=(a*d-b*c)*wnd s.e px py s.n:=by
     show wnd _ _ _ s.n=_
     rw[w];omega
    rw[w',decide_eq_true hk]
    congr 1
    have:=det_iso hi
    rcases this with g|g<;>rw[g]<;>refine decide_eq_decide.2 ?_<;>omega
   ·rw[decide_eq_false hk];rfl

section
theorem gap_least{c:Nat->Pr}{f:Nat->Q4}:∀k,0<k->(∀i,i<k->(f i).ok/\(c i).d=(f i).rt)->∃i,i<k/\gapK c k=(c i).gp/\∀j,j<k->cmpQ (f i) (f j)<=0
 | 0,h,_=>absurd h (Nat.lt_irrefl _)
 | k+1,_,H=>by
  have okk:=(H k (by omega)).1
  by_cases hk:k=0
  ·subst hk
   refine⟨0,by omega,by unfold gapK;simp,fun j hj=>?_⟩
   rw[show j=0 by omega,cmpQ_self okk];exact Int.le_refl 0
  obtain⟨i,hi,e,hl⟩:=gap_least k (by omega) fun i hi=>H i (by omega)
  have oki:=(H i (by omega)).1
  have hc:cmpRt (c k).d (gapK c k).d=cmpQ (f k) (f i):=by
   rw[e,(H k (by omega)).2,show ((c i).gp).d=(c i).d from rfl,(H i (by omega)).2,cmpQ_rt okk oki]
  unfold gapK
  rw[hc]
  split
  ·rename_i h
   have h':cmpQ (f k) (f i)<0:=by simpa[hk] using h
   refine⟨k,by omega,rfl,fun j hj=>?_⟩
   rcases Nat.lt_or_ge j k with g|g
   ·exact cmpQ_trans okk oki (H j (by omega)).1 (Int.le_of_lt h') (hl j g)
   ·rw[show j=k by omega,cmpQ_self okk];exact Int.le_refl 0
  ·rename_i h
   have h':¬cmpQ (f k) (f i)<0:=by simpa[hk] using h
   refine⟨i,by omega,e,fun j hj=>?_⟩
   rcases Nat.lt_or_ge j k with g|g
   ·exact hl j g
   ·rw[show j=k by omega,cmpQ_anti okk oki];omega
theorem sep_all{a b:Sh}(hb:0<b.n):allB (sep a b) (a.n*b.n)=true <-> ∀i,i<a.n->∀j,j<b.n->countE (a.e i) (b.e j)=0:=by
 rw[allB_t]
 constructor
 ·intro h i hi j hj
  have hk:i*b.n+j<a.n*b.n:=by
   have:=Nat.mul_le_mul_right b.n (show i+1<=a.n by omega)
   rw[Nat.succ_mul] at this
   omega
  have:=h _ hk
  unfold sep at this
  rw[Nat.mul_comm i,Nat.mul_add_div hb,Nat.mul_add_mod,Nat.div_eq_of_lt hj,Nat.mod_eq_of_lt hj] at this
  simpa using this
 ·intro h k hk
  unfold sep
  rw[h _ ((Nat.div_lt_iff_lt_mul hb).2 hk) _ (Nat.mod_lt _ hb)]
  rfl
theorem met_comm{a b:Sh}(ha:0<a.n)(hb:0<b.n):metB b a=metB a b:=by
 have e:allB (sep b a) (b.n*a.n)=allB (sep a b) (a.n*b.n):=by
  rw[Bool.eq_iff_iff,sep_all ha,sep_all hb]
  exact⟨fun h i hi j hj=>by rw[<- countE_comm];exact h j hj i hi,fun h i hi j hj=>by rw[<- countE_comm];exact h j hj i hi⟩
 unfold metB
 rw[e,Bool.or_comm (aroB b a)]
def pQ(a b:Sh)(i:Nat):Q4:=leastQ (candQ (a.e (i/b.n)) (b.e (i%b.n)))
theorem far_sep{a b:Sh}(h:metB a b=false):allB (sep a b) (a.n*b.n)=true:=by
 unfold metB at h
 simp only[Bool.or_eq_false_iff,Bool.not_eq_false'] at h
 exact h.2
theorem pQ_ok{a b:Sh}(ha:OkS a)(hb:OkS b)(hm:metB a b=false){i:Nat}(hi:i<a.n*b.n):(pQ a b i).ok/\(cnd a b i).d=(pQ a b i).rt:=by
 have hbn:=n_pos hb
 have i1:i/b.n<a.n:=(Nat.div_lt_iff_lt_mul hbn).2 hi
 have i2:i%b.n<b.n:=Nat.mod_lt _ hbn
 have oa:=ha.ok _ i1
 have ob:=hb.ok _ i2
 exact⟨candQ_ok oa ob _ (leastQ_mem (candQ_ne _ _)),edgesR_Q oa ob ((sep_all hbn).1 (far_sep hm) _ i1 _ i2)⟩
theorem core_l{a b:Sh}(ha:OkS a)(hb:OkS b)(hm:metB a b=false):∃i,i<a.n/\∃j,j<b.n/\CoreQ a b (leastQ (candQ (a.e i) (b.e j)))/\∀p,p<a.n->∀q,q<b.n->cmpQ (leastQ (candQ (a.e i) (b.e j))) (leastQ (candQ (a.e p) (b.e q)))<=0:=by
 have hbn:=n_pos hb
 have hn:0<a.n*b.n:=Nat.mul_pos (n_pos ha) hbn
 obtain⟨k,hk,hg,hl⟩:=gap_least (c:=cnd a b) (f:=pQ a b) (a.n*b.n) hn fun i hi=>pQ_ok ha hb hm hi
 have i1:k/b.n<a.n:=(Nat.div_lt_iff_lt_mul hbn).2 hk
 have i2:k%b.n<b.n:=Nat.mod_lt _ hbn
 have oa:=ha.ok _ i1
 have ob:=hb.ok _ i2
 have hc:=(sep_all hbn).1 (far_sep hm) _ i1 _ i2
 have hmem:=leastQ_mem (candQ_ne (a.e (k/b.n)) (b.e (k%b.n)))
 refine⟨_,i1,_,i2,⟨candQ_ok oa ob _ hmem,cand_a oa ob _ hmem,fun h=>(by rw[hm] at h;cases h),fun _=>⟨least_gt oa ob hc,by rw[hg];exact (pQ_ok ha hb hm hk).2,by rw[hg];rfl⟩⟩,fun p hp q hq=>?_⟩
 have hk2:p*b.n+q<a.n*b.n:=by
  have:=Nat.mul_le_mul_right b.n (show p+1<=a.n by omega)
  rw[Nat.succ_mul] at this
  omega
 have:=hl _ hk2
 unfold pQ at this
 rw[Nat.mul_comm p,Nat.mul_add_div hbn,Nat.mul_add_mod,Nat.div_eq_of_lt hq,Nat.mod_eq_of_lt hq] at this
 exact this
theorem comm_q{a b:Sh}(ha:OkS a)(hb:OkS b):∃z z',CoreQ a b z/\CoreQ b a z'/\cmpQ z z'=0:=by
 have hc:=met_comm (n_pos ha) (n_pos hb)
 cases hm:metB a b with
 | true =>
  have ok0:Bd30 (intQ 0).a:=by unfold Bd30 intQ;simp only;omega
  exact⟨intQ 0,intQ 0,⟨intQ_ok 0,ok0,fun _=>rfl,fun h=>(by rw[hm] at h;cases h)⟩,⟨intQ_ok 0,ok0,fun _=>rfl,fun h=>(by rw[hc,hm] at h;cases h)⟩,cmpQ_self (intQ_ok 0)⟩
 | false =>
  obtain⟨i,hi,j,hj,C,l⟩:=core_l ha hb hm
  obtain⟨j',hj',i',hi',C',l'⟩:=core_l hb ha (hc.trans hm)
  refine⟨_,_,C,C',?_⟩
  have pm:∀p q,p<a.n->q<b.n->cmpQ (leastQ (candQ (a.e p) (b.e q))) (leastQ (candQ (b.e q) (a.e p)))=0/\(leastQ (candQ (a.e p) (b.e q))).ok/\(leastQ (candQ (b.e q) (a.e p))).ok:=fun p q hp hq=>by
   have oa:=ha.ok _ hp
   have ob:=hb.ok _ hq
   exact⟨leastQ_perm (candQ_ne _ _) (candQ_ok oa ob) fun z=>candQ_comm _ _ z,candQ_ok oa ob _ (leastQ_mem (candQ_ne _ _)),candQ_ok ob oa _ (leastQ_mem (candQ_ne _ _))⟩
  obtain⟨e1,k1,k2⟩:=pm i' j' hi' hj'
  obtain⟨e2,k3,k4⟩:=pm i j hi hj
  have a1:=cmpQ_trans C.ok k1 C'.ok (l i' hi' j' hj') (by rw[e1];exact Int.le_refl 0)
  have a2:=cmpQ_trans C'.ok k4 C.ok (l' j hj i hi) (by rw[cmpQ_anti k3 k4,e2];exact Int.le_refl 0)
  rw[cmpQ_anti C.ok C'.ok] at a2
  omega
section
variable {a b:Sh} {x y t:Int} {m:Bool}
theorem aro_mv(ha:OkS a)(ha':OkS (movS a x y t m)):aroB (movS a x y t m) (movS b x y t m)=aroB a b:=by
 unfold aroB
 rw[show (movS a x y t m).k=a.k from rfl,show ((movS b x y t m).e 0).ax=(applyP x y (modZ t 4) m (b.e 0).ax (b.e 0).ay).1 from rfl,show ((movS b x y t m).e 0).ay=(applyP x y (modZ t 4) m (b.e 0).ax (b.e 0).ay).2 from rfl,ins_mv ha ha']
theorem met_mv(ha:OkS a)(hb:OkS b)(ha':OkS (movS a x y t m))(hb':OkS (movS b x y t m)):metB (movS a x y t m) (movS b x y t m)=metB a b:=by
 obtain⟨u,v,p,q,hi,hp,hE⟩:=moved2 x y (modZ t 4) m (by have:=modZ_bd t (m:=4) (by omega);omega)
 have e:allB (sep (movS a x y t m) (movS b x y t m)) (a.n*b.n)=allB (sep a b) (a.n*b.n):=allB_cg fun k hk=>by
  have hbn:=n_pos hb
  have i1:k/b.n<a.n:=(Nat.div_lt_iff_lt_mul hbn).2 hk
  have i2:k%b.n<b.n:=Nat.mod_lt _ hbn
  unfold sep
  show (countE (moveE (a.e (k/b.n)) x y (modZ t 4) m) (moveE (b.e (k%b.n)) x y (modZ t 4) m)==0)=_
  rw[(hE _ (ha.ok _ i1) (ha'.ok _ i1)).count (hE _ (hb.ok _ i2) (hb'.ok _ i2))]
 unfold metB
 rw[aro_mv ha ha',aro_mv hb hb']
 show (_ || !allB (sep (movS a x y t m) (movS b x y t m)) (a.n*b.n))=_
 rw[e]
theorem gap_mv{c c':Nat->Pr}:∀ {k:Nat},(∀i,i<k->(c' i).d=(c i).d)->(gapK c' k).d=(gapK c k).d/\(gapK c' k).m=(gapK c k).m
 | 0,_=>⟨rfl,rfl⟩
 | k+1,h=>by
  obtain⟨h1,h2⟩:=gap_mv (k:=k) fun i hi=>h i (by omega)
  unfold gapK
  rw[h k (by omega),h1]
  split
  ·exact⟨h k (by omega),rfl⟩
  ·exact⟨h1,h2⟩
theorem core_mv(ha:OkS a)(hb:OkS b)(ha':OkS (movS a x y t m))(hb':OkS (movS b x y t m)){z:Q4}(C:CoreQ a b z):CoreQ (movS a x y t m) (movS b x y t m) z:=by
 have hm:=met_mv ha hb ha' hb'
 refine⟨C.ok,C.bd,by rw[hm];exact C.met,fun h=>?_⟩
 rw[hm] at h
 obtain⟨c1,c2,c3⟩:=C.far h
 obtain⟨u,v,p,q,hi,hp,hE⟩:=moved2 x y (modZ t 4) m (by have:=modZ_bd t (m:=4) (by omega);omega)
 have hbn:=n_pos hb
 have key:∀i,i<a.n*b.n->(cnd (movS a x y t m) (movS b x y t m) i).d=(cnd a b i).d:=fun i hk=>by
  have i1:i/b.n<a.n:=(Nat.div_lt_iff_lt_mul hbn).2 hk
  have i2:i%b.n<b.n:=Nat.mod_lt _ hbn
  have M1:=hE _ (ha.ok _ i1) (ha'.ok _ i1)
  have M2:=hE _ (hb.ok _ i2) (hb'.ok _ i2)
  have e1:=(pQ_ok ha' hb' (hm.trans h) (i:=i) hk).2
  rw[e1,(pQ_ok ha hb h hk).2]
  unfold pQ
  show (leastQ (candQ (moveE (a.e (i/b.n)) x y (modZ t 4) m) (moveE (b.e (i%b.n)) x y (modZ t 4) m))).rt=_
  rw[M1.candQ M2]
 obtain⟨g1,g2⟩:=gap_mv (k:=a.n*b.n) key
 exact⟨c1,by show (gapK _ (a.n*b.n)).d=_;rw[g1];exact c2,by show (gapK _ (a.n*b.n)).m=_;rw[g2];exact c3⟩
theorem bord_ok(h:OkS a)(hk:a.k=2):OkS (bordS a):=by
 have hn:=n_pos h
 refine⟨.inl rfl,?_,h.n1,h.ok,h.ch,fun g=>(by cases g),⟨⟨Int.le_refl 0,show (0:Int)<=4194304 by decide⟩,fun _=>rfl⟩⟩
 unfold fewS bordS
 simp only
 split<;>simp_all<;>omega
theorem holds_mv(ha:OkS a)(hb:OkS b)(ha':OkS (movS a x y t m))(hb':OkS (movS b x y t m))(n:Int):holdsQ (movS a x y t m) (movS b x y t m) n=holdsQ a b n:=by
 have i1:insS (movS a x y t m) ((movS b x y t m).e 0).ax ((movS b x y t m).e 0).ay=insS a (b.e 0).ax (b.e 0).ay:=ins_mv ha ha' (b.e 0).ax (b.e 0).ay
 have i2:=aro_mv (b:=a) hb hb'
 by_cases hk:a.k=2
 ·have oB := bord_ok ha hk
  have oB':OkS (movS (bordS a) x y t m):=bord_ok ha' hk
  have e1:borderQ a b=ofQ (bordS a) b:=by unfold borderQ;rw[if_neg (by rintro (h|h);exact h hk;exact h ha.chk)]
  have e2:borderQ (movS a x y t m) (movS b x y t m)=ofQ (movS (bordS a) x y t m) (movS b x y t m):=by unfold borderQ;rw[if_neg (by rintro (h|h);exact h hk;exact h ha'.chk)];rfl
  obtain⟨z,C⟩:=core_q oB hb
  have D:=core_dist oB hb C
  have D':=core_dist oB' hb' (core_mv oB hb oB' hb' C)
  have g1:(borderQ (movS a x y t m) (movS b x y t m)).2=(borderQ a b).2:=by rw[e1,e2,D.eq.1,D'.eq.1]
  have g2:(borderQ (movS a x y t m) (movS b x y t m)).1.m=(borderQ a b).1.m:=by rw[e1,e2,D.eq.2.1,D'.eq.2.1,met_mv oB hb oB' hb']
  have g3:(borderQ (movS a x y t m) (movS b x y t m)).1.d=(borderQ a b).1.d:=by rw[e1,e2,D.eq.2.2,D'.eq.2.2];rfl
  unfold holdsQ cmpG
  rw[g1,g2,g3,i1,i2]
 ·have e1 : borderQ a b = (Gp.no, false) := by unfold borderQ; rw [if_pos (.inl hk)]
  have e2:borderQ (movS a x y t m) (movS b x y t m)=(Gp.no,false):=by unfold borderQ;rw[if_pos (.inl hk)]
  unfold holdsQ
  rw[e1,e2,if_pos (.inl rfl),if_pos (.inl rfl)]
end
structure TurnQ (a b c d:Sh):Prop where
 o1:(ofQ a b).2=true
 o2:(ofQ b a).2=true
 o3:(ofQ c d).2=true
 m1:(ofQ b a).1.m=(ofQ a b).1.m
 m2:(ofQ c d).1.m=(ofQ a b).1.m
 r:(ofQ a b).1.d.right=true
 c1:cmpRt (ofQ a b).1.d (ofQ b a).1.d=0
 c2:cmpRt (ofQ a b).1.d (ofQ c d).1.d=0
 h:holdsQ c d 1=holdsQ a b 1
theorem turn_q{a b:Sh}{x y t:Int}{m:Bool}(ha:OkS a)(hb:OkS b)(ha':OkS (movS a x y t m))(hb':OkS (movS b x y t m)):TurnQ a b (movS a x y t m) (movS b x y t m):=by
 obtain⟨z,z',C,C',hz⟩:=comm_q ha hb
 have D:=core_dist ha hb C
 have D':=core_dist hb ha C'
 have D2:=core_dist ha' hb' (core_mv ha hb ha' hb' C)
 have k:=shQ_ok C.ok (-a.r-b.r)
 refine⟨D.eq.1,D'.eq.1,D2.eq.1,by rw[D.eq.2.1,D'.eq.2.1,met_comm (n_pos ha) (n_pos hb)],by rw[D.eq.2.1,D2.eq.2.1,met_mv ha hb ha' hb'],by rw[D.eq.2.2];exact k.root.2.2,?_,?_,holds_mv ha hb ha' hb' 1⟩
 ·rw [D.eq.2.2, D'.eq.2.2, show -b.r - a.r = -a.r - b.r by omega, cmpQ_rt k (shQ_ok C'.ok _)]
  have:cmpQ (shQ z (-a.r-b.r)) (shQ z' (-a.r-b.r))=cmpQ z z':=by
   unfold cmpQ shQ
   simp only
   rw[show z.a+(-a.r-b.r)-(z'.a+(-a.r-b.r))=z.a-z'.a by omega]
  rw[this,hz]
 ·have e : (ofQ (movS a x y t m) (movS b x y t m)).1.d = (ofQ a b).1.d := by rw [D.eq.2.2, D2.eq.2.2]; rfl
  rw[e,D.eq.2.2,cmpQ_rt k k,cmpQ_self k]
end

set_option maxRecDepth 100000
section
attribute [local go_sem] Gives givesU
def KLt:List Con:=[cGapF,cRight,cCmp,cHolds]
def gtD(a b c d:Sh):Ds:=⟨[(7,.eq (blV true)),(8,.eq (fpV (shL a))),(9,.eq (fpV (shL b))),(11,.eq (fpV (shL c))),(12,.eq (fpV (shL d)))],[]⟩
theorem not_bT{b:Bool}(h:b=true):(!b)=false:=by rw[h];rfl
theorem eq_bT{x y:Bool}(h:y=x):(!(x==y))=false:=by rw[h];simp
theorem turns_tail{a b c d:Sh}(T:TurnQ a b c d){w V:World}(A:Act)(B8 B9 B11 B12:Nat)(hsz:A.tmps.size=nF 6)(hd:A.defers=[])(h7:A.tmps.getD 7 undef=.bool true)(h8:A.tmps.getD 8 undef=ptrA B8)(h9:A.tmps.getD 9 undef=ptrA B9)(h11:A.tmps.getD 11 undef=ptrA B11)(h12:A.tmps.getD 12 undef=ptrA B12)
  (f8:FpAt V B8 (shL a)) (f9:FpAt V B9 (shL b)) (f11:FpAt V B11 (shL c)) (f12:FpAt V B12 (shL d)) (hx:Ext w V) :
  (restS 5 (bodyF Tryz.prog 6)).wp Tryz.prog (bodyPost Tryz.prog Tryz.f6 fun e w'=>e=.returned (.bool true)/\Ext w w') A V:=by
 obtain⟨tm,df⟩:=A
 obtain rfl:df=[]:=hd
 have hJ:JJ V (mkS (nF 6) (gtD a b c d)) ⟨tm,[]⟩ V:=old_J (a:=⟨tm,[]⟩) hsz fun z hz=>by
  simp only[List.mem_cons,List.not_mem_nil,or_false] at hz
  rcases hz with rfl|rfl|rfl|rfl|rfl
  ·rw[h7];exact rv_v.2 ⟨rfl,rfl⟩
  ·rw[h8];exact f8.rv
  ·rw[h9];exact f9.rv
  ·rw[h11];exact f11.rv
  ·rw[h12];exact f12.rv
 refine tail_wp (X:=[]) (K:=KLt) (res:=.one (blV (decide (holdsQ a b 1=holdsQ c d 1)))) [false,false,false,false,false,true,true,true,true] [pEd a,pEd b,pEd b,pEd a,pEd c,pEd d,pF (not_bT T.o1),pF (not_bT T.o2),pF (not_bT T.o3),pF (eq_bT T.m1),pF (eq_bT T.m2),pT (rfl:true=true),pT T.r,pT (eq_tt T.c1),pT (eq_tt T.c2),pEd a,pEd b,pEd c,pEd d] (by kernel_rfl) Tryz.func6 hJ fun v w' hv hx'=>?_
 exact⟨by rw[(rv_v.1 hv).2,T.h];simp,Ext.step hx hx'⟩
theorem giv_all{a:Act}{o:Oper}{x y:Operand}{B:Nat}{W:World}{R:Value->World->Prop}{T ty:TypeId}(old vs:List Value)(hB:W.heap[B]? = some (.cells old.toArray T))(ho:o.op=.store ty x y)(hx:a.eval x=.pointer (some ⟨B,0,none⟩))(hy:(a.eval y).cells=vs.toArray)(hn:szT Tryz.prog ty=some vs.length)(hl:old.length=vs.length)(h1:∀v∈vs,v.oneCell'=true)
  (hR:∀W',OnlyB B W W'->W'.heap[B]? = some (.cells vs.toArray T)->R undef W'):Gives Tryz.prog o a W R:=by
 obtain⟨o1,o2⟩:=onlyB_setRow (cs':=(old.take 0++(vs++old.drop (0+vs.length))).toArray) hB
 refine gives_skip (ex_store (vs:=vs) (old:=old) ho hx hB hy hn rfl (by omega) h1) (hR _ o1 ?_)
 rw[o2]
 simp[hl]
end
end Go.Proofs.YtceemiodpccbhaaGreat
