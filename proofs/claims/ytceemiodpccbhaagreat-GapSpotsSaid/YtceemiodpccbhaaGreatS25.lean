import Derived.Test.YtceemiodpccbhaaGreatS24
set_option linter.unusedVariables false
set_option linter.unusedSimpArgs false

namespace Go.Proofs.YtceemiodpccbhaaGreat

section
open Go.RowKit
def Ed.ux (e:Ed):Int:=(e.ax - e.cx).tdiv (radZ e)
def Ed.uy (e:Ed):Int:=(e.ay - e.cy).tdiv (radZ e)
def Ed.vx (e:Ed):Int:=(e.bx - e.cx).tdiv (radZ e)
def Ed.vy (e:Ed):Int:=(e.by' - e.cy).tdiv (radZ e)
def Ed.pt (e:Ed):Bool:=e.ax==e.bx&&e.ay==e.by'
def laE (l e:Ed):LA where
 S:=(l.bx - l.ax)*(l.bx - l.ax)+(l.by' - l.ay)*(l.by' - l.ay)
 h:=(l.ax - e.cx)*(l.bx - l.ax)+(l.ay - e.cy)*(l.by' - l.ay)
 F:=(l.ax - e.cx)*(l.ax - e.cx)+(l.ay - e.cy)*(l.ay - e.cy)
 r:=radZ e
 u1:=(l.ax - e.cx)*e.ux+(l.ay - e.cy)*e.uy
 u2:=(l.bx - l.ax)*e.ux+(l.by' - l.ay)*e.uy
 v1:=(l.ax - e.cx)*e.vx+(l.ay - e.cy)*e.vy
 v2:=(l.bx - l.ax)*e.vx+(l.by' - l.ay)*e.vy
def aaE (e f:Ed):AA where
 S:=(f.cx - e.cx)*(f.cx - e.cx)+(f.cy - e.cy)*(f.cy - e.cy)
 r:=radZ e
 q:=radZ f
 du:=(f.cx - e.cx)*e.ux+(f.cy - e.cy)*e.uy
 dv:=(f.cx - e.cx)*e.vx+(f.cy - e.cy)*e.vy
 ds:=(f.cx - e.cx)*f.ux+(f.cy - e.cy)*f.uy
 dt:=(f.cx - e.cx)*f.vx+(f.cy - e.cy)*f.vy
 pu := -(f.cy - e.cy)*e.ux+(f.cx - e.cx)*e.uy
 pv := -(f.cy - e.cy)*e.vx+(f.cx - e.cx)*e.vy
 ps := -(f.cy - e.cy)*f.ux+(f.cx - e.cx)*f.uy
 pt := -(f.cy - e.cy)*f.vx+(f.cx - e.cx)*f.vy
def onZ (e:Ed) (x y:Int):Int:=if onE e x y then 1 else 0
def crossZ (l e:Ed):Int:=countZ (laE l e).delta (laE l e).list
def arcsZ (e f:Ed):Int :=
 if e.cx=f.cx/\e.cy=f.cy then sameZ (radZ e==radZ f) (e.ux==f.ux&&e.uy==f.uy) (e.ux==f.vx&&e.uy==f.vy) (e.vx==f.ux&&e.vy==f.uy) (e.vx==f.vx&&e.vy==f.vy)
 else countZ (aaE e f).delta (aaE e f).list
def countE (e f:Ed):Int :=
 if !(e.ok&&f.ok) then 0
 else if e.k=1 then
  if e.pt then onZ f e.ax e.ay
  else if f.k=1 then (if f.pt then onZ e f.ax f.ay else linesZ e.ax e.ay e.bx e.by' f.ax f.ay f.bx f.by')
  else crossZ e f
 else if f.k=1 then (if f.pt then onZ e f.ax f.ay else crossZ f e)
 else arcsZ e f
theorem countZ_bd (d:Int) (l:List (Int × Int)):0<=countZ d l/\countZ d l<=2:=by
 have h:=countL_bd d l (signL (decide (d < 0)) (digs d.natAbs).length)
 have hl:(signL (decide (d < 0)) (digs d.natAbs).length).length<=2:=by
  unfold signL
  split
  ·simp
  ·split<;>simp
 unfold countZ
 omega
theorem onZ_bd (e:Ed) (x y:Int):0<=onZ e x y/\onZ e x y<=1:=by unfold onZ;split<;>omega
theorem linesZ_bd (px py qx qy rx ry sx sy:Int) : -1<=linesZ px py qx qy rx ry sx sy/\linesZ px py qx qy rx ry sx sy<=1:=by
 unfold linesZ;(repeat' split)<;>omega
theorem tdiv_self {r:Int} (h:0 < r):r.tdiv r=1:=Int.tdiv_self (by omega)
theorem neg_tdiv_self {r:Int} (h:0 < r):(-r).tdiv r = -1:=by rw [Int.neg_tdiv,tdiv_self h]
theorem arc_axes {e:Ed} (h:e.ok=true) (hk:¬ e.k=1):0 < radZ e /\
  ((e.ux=1/\e.uy=0)\/(e.ux = -1/\e.uy=0)\/(e.ux=0/\e.uy=1)\/(e.ux=0/\e.uy = -1)) /\
  ((e.k=2/\e.vx = -e.uy/\e.vy=e.ux)\/(e.k=3/\e.vx=e.uy/\e.vy = -e.ux)) /\
  e.ax=e.cx+radZ e*e.ux/\e.ay=e.cy+radZ e*e.uy/\e.bx=e.cx+radZ e*e.vx/\e.by'=e.cy+radZ e*e.vy:=by
 have hr:=rad_pos h hk
 have hR:radZ e=max (max (e.ax - e.cx) (-(e.ax - e.cx))) (max (e.ay - e.cy) (-(e.ay - e.cy))):=by
  have hkb:(e.k==1)=false:=by simpa using hk
  unfold radZ
  rw [h,hkb]
  rfl
 have hq:(((e.ax - e.cx==0) != (e.ay - e.cy==0))=true)/\((e.k=2/\e.bx - e.cx = -(e.ay - e.cy)/\e.by' - e.cy=e.ax - e.cx)\/(e.k=3/\e.bx - e.cx=e.ay - e.cy/\e.by' - e.cy = -(e.ax - e.cx))):=by
  simp only [Ed.ok,Bool.and_eq_true,if_neg hk] at h
  have h2:=h.2
  split at h2
  ·rename_i hk2
   simp only [Ed.quarter,quarterB,Bool.and_eq_true,beq_iff_eq,rot] at h2
   exact ⟨h2.1,.inl ⟨hk2,h2.2.1,h2.2.2⟩⟩
  ·split at h2
   ·rename_i hk3
    simp only [Ed.quarter,quarterB,Bool.and_eq_true,beq_iff_eq,rot] at h2
    refine ⟨h2.1,.inr ⟨hk3,?_,?_⟩⟩
    ·have:=h2.2.1;omega
    ·have:=h2.2.2;omega
   ·cases h2
 obtain ⟨hx,hb⟩:=hq
 have hxy:(e.ax - e.cx=0/\¬ e.ay - e.cy=0)\/(¬ e.ax - e.cx=0/\e.ay - e.cy=0):=by
  by_cases h1:e.ax - e.cx=0
  ·by_cases h2 : e.ay - e.cy = 0
   ·simp [h1,h2] at hx
   ·exact .inl ⟨h1,h2⟩
  ·by_cases h2 : e.ay - e.cy = 0
   ·exact .inr ⟨h1,h2⟩
   ·have e1 : (e.ax - e.cx == 0) = false := by simpa using h1
    have e2:(e.ay - e.cy==0)=false:=by simpa using h2
    rw [e1,e2] at hx;cases hx
 obtain ⟨r,R⟩:∃ r,radZ e=r:=⟨_,rfl⟩
 unfold Ed.ux Ed.uy Ed.vx Ed.vy
 rw [R] at hr hR ⊢
 have t1:=tdiv_self hr
 have t2:=neg_tdiv_self hr
 have t0:(0:Int).tdiv r=0:=Int.zero_tdiv r
 refine ⟨hr,?_⟩
 have c4:(e.ax - e.cx=r/\e.ay - e.cy=0)\/(e.ax - e.cx = -r/\e.ay - e.cy=0)\/(e.ax - e.cx=0/\e.ay - e.cy=r)\/(e.ax - e.cx=0/\e.ay - e.cy = -r):=by omega
 have n1 : -(-r)=r:=by omega
 have n0 : -(0:Int)=0:=rfl
 have m0:r*0=0:=by omega
 have m1:r*1=r:=by omega
 have m2:r * -1 = -r:=by omega
 rcases c4 with ⟨a1,a2⟩ | ⟨a1,a2⟩ | ⟨a1,a2⟩ | ⟨a1,a2⟩<;>rcases hb with ⟨k,b1,b2⟩ | ⟨k,b1,b2⟩<;>rw [a1] at b2 ⊢<;>rw [a2] at b1 ⊢<;>(try rw [n1] at b1)<;>(try rw [n1] at b2)<;>(try rw [n0] at b1)<;>(try rw [n0] at b2)<;>rw [b1,b2]<;>simp only [t1,t2,t0,m0,m1,m2]<;>refine ⟨by simp,by simp [k],by omega,by omega,by omega,by omega⟩
theorem onE_self {e:Ed} (h:e.ok=true) (hk:e.k=1):onE e e.ax e.ay=true:=by
 unfold onE
 rw [h,if_pos hk]
 simp [inB,sideI]
 try omega
end

section
open Go.RowKit
def c640:Nat:=4294967296 ^ 20
def c2048:Nat:=4294967296 ^ 64
def ziV (z:Int) (B:Nat):V1:=⟨true,[.d (.zi z B)]⟩
section
variable {V W:World} {r:Nat->Nat} {k:Nat}
theorem rl_zi {z:Int} {B:Nat} {l:List It} {cs:List Value}:RepL V W r k (.d (.zi z B)::l) cs <-> z.natAbs<=B/\∃ n p m c,NR W n p m c (ofZ z)/\∃ d,cs=.bool n::.slice p m c::d/\RepL V W r k l d :=
 ⟨fun ⟨c,d,e,⟨⟨n,p,m,c',h1,h2⟩,hb⟩,h3⟩=>⟨hb,n,p,m,c',h2,d,by rw [e,h1];rfl,h3⟩,fun ⟨hb,n,p,m,c',h,d,e,h3⟩=>⟨[_,_],d,e,⟨⟨n,p,m,c',rfl,h⟩,hb⟩,h3⟩⟩
end
theorem gv_zi {z:Int} {B:Nat} {w:World} {e:Ending} {w':World} (hb:z.natAbs<=B) (h:RetN w (ofZ z) e w'):Gv (.one (ziV z B)) w e w':=by
 obtain ⟨n,p,l,c,rfl,h1,_,h2⟩:=h
 exact ⟨_,rfl,rv_t.2 ⟨_,rl_zi.2 ⟨hb,n,p,l,c,h1,[],rfl,rfl⟩,rfl⟩,h2⟩
theorem gv_zb {z:Int} {B:Nat} {w:World} {e:Ending} {w':World} (hb:z.natAbs<=B) (h:RetNum w (ofZ z,true) e w'):Gv (.tup [ziV z B,⟨false,[.b true]⟩]) w e w':=by
 obtain ⟨n,p,l,c,rfl,h1,_,h2⟩:=h
 exact ⟨_,rfl,⟨[_,_],rfl,rvs_cons.2 ⟨_,rv_t.2 ⟨_,rl_zi.2 ⟨hb,n,p,l,c,h1,[],rfl,rfl⟩,rfl⟩,_,rfl,rvs_cons.2 ⟨_,RepI.val (i:=.b true) rfl,_,rfl,rfl⟩⟩⟩,h2⟩
theorem small_c {z:Int} {B:Nat} (h:z.natAbs<=B) (hB:B < c2048):small z=true:=by
 unfold small
 rw [decide_eq_true_eq]
 exact Nat.lt_of_le_of_lt h hB
def zOfC (f:FuncId) (H:∀ (z:Int) (w:World),-9223372036854775808<=z->z<=9223372036854775807->Calls Tryz.prog f #[.int .i64 z] w (RetN w (ofZ z))):Con where
 f:=f
 g:=fun | [⟨false,[.i z B]⟩]=>some (.one (ziV z B),[]) | _=>none
 ok:=by
  intro args res ps h _
  split at h<;>cases h
  intro W vals hv
  simp only [rvs_cons,rvs_nil,rv_i] at hv
  obtain ⟨_,⟨⟨hb,h1,h2⟩,rfl⟩,_,rfl,rfl⟩:=hv
  exact (H _ W h1 h2).mono fun _ _ h=>gv_zi hb h
def toZi:List It->Option (Int × Nat)
 | [.d (.zi z B)]=>some (z,B)
 | [.d (.num ⟨false,[]⟩)]=>some (0,0)
 | _=>none
theorem toZi_rep {W:World} {l:List It} {z:Int} {B:Nat} {v:Value} (h:toZi l=some (z,B)) (hv:RepV W W (fun _=>0) 0 ⟨true,l⟩ v):z.natAbs<=B/\∃ n p m c,v=.agg #[.bool n,.slice p m c]/\NR W n p m c (ofZ z):=by
 unfold toZi at h
 split at h<;>cases h
 ·simp only [rv_t, rl_zi, rl_nil] at hv
  obtain ⟨_,⟨b1,n,p,l,c,h1,_,rfl,rfl⟩,rfl⟩:=hv
  exact ⟨b1,n,p,l,c,rfl,h1⟩
 ·simp only [rv_t, rl_num, rl_nil] at hv
  obtain ⟨_,⟨n,p,l,c,h1,_,rfl,rfl⟩,rfl⟩:=hv
  exact ⟨Nat.le_refl 0,n,p,l,c,rfl,(show ofZ 0=⟨false,[]⟩ by unfold ofZ;simp [digs_zero]) ▸ h1⟩
def zBinC (f:FuncId) (G:Nm->Nm->Nm × Bool) (O:Int->Int->Int) (Q:Nat->Nat->Nat) (q:Nat->Nat->Bool)
  (H:∀ (a b:Nm) (na nb:Bool) (pa pb:Option Addr) (la ca lb cb:Nat) (w:World),NR w na pa la ca a->NR w nb pb lb cb b->Calls Tryz.prog f #[.agg #[.bool na,.slice pa la ca],.agg #[.bool nb,.slice pb lb cb]] w (RetNum w (G a b)))
  (hO:∀ x y A B,q A B=true->x.natAbs<=A->y.natAbs<=B->(O x y).natAbs<=Q A B/\G (ofZ x) (ofZ y)=(ofZ (O x y),true)):Con where
 f:=f
 g:=fun | [⟨true,l⟩,⟨true,m⟩]=>(match toZi l,toZi m with | some (x,A),some (y,B)=>if q A B=true then some (.tup [ziV (O x y) (Q A B),⟨false,[.b true]⟩],[]) else none | _,_=>none) | _=>none
 ok:=by
  intro args res ps h hp
  split at h<;>try cases h
  split at h<;>try cases h
  split at h<;>cases h
  rename_i x A y B hx hy hb
  intro W vals hv
  obtain ⟨v1,g1,l1,rfl,hv1⟩:=rvs_cons.1 hv
  obtain ⟨v2,g2,l2,rfl,hv2⟩:=rvs_cons.1 hv1
  cases hv2
  obtain ⟨b1,_,_,_,_,rfl,h1⟩:=toZi_rep hx g1
  obtain ⟨b2,_,_,_,_,rfl,h2⟩:=toZi_rep hy g2
  obtain ⟨b3,e⟩:=hO x y A B hb b1 b2
  exact (H _ _ _ _ _ _ _ _ _ _ W h1 h2).mono fun _ _ h=>gv_zb b3 (e ▸ h)
theorem zmul_c (x y:Int) (A B:Nat) (h:decide (A < c2048/\B < c2048/\A*B < c2048)=true) (b1:x.natAbs<=A) (b2:y.natAbs<=B):(x*y).natAbs<=A*B/\mulP (ofZ x) (ofZ y)=(ofZ (x*y),true):=by
 obtain ⟨h1,h2,h3⟩:=of_decide_eq_true h
 have b3:(x*y).natAbs<=A*B:=by rw [Int.natAbs_mul];exact Nat.mul_le_mul b1 b2
 exact ⟨b3,mulP_small' (small_c b1 h1) (small_c b2 h2) (small_c b3 h3)⟩
theorem zsub_c (x y:Int) (A B:Nat) (h:decide (A+B < c2048)=true) (b1:x.natAbs<=A) (b2:y.natAbs<=B):(x - y).natAbs<=A+B/\subP (ofZ x) (ofZ y)=(ofZ (x - y),true):=by
 have h:=of_decide_eq_true h
 have b3:(x - y).natAbs<=A+B:=by omega
 exact ⟨b3,subP_small (small_c b1 (by omega)) (small_c b2 (by omega)) (small_c b3 h)⟩
def cZOf:Con:=zOfC 53 num_Of
def cZMul:Con:=zBinC 107 mulP (·*·) (·*·) (fun A B=>decide (A < c2048/\B < c2048/\A*B < c2048)) num_Mul zmul_c
def cZSub:Con:=zBinC 240 subP (· - ·) (·+·) (fun A B=>decide (A+B < c2048)) num_Sub zsub_c
def toSr:Nat->List It->Option (List (Int × Int))
 | 0,[]=>some []
 | n+1,.d (.zi x A)::.d (.zi y B)::l=>if A < c640/\B < c640 then (toSr n l).map ((x,y)::·) else none
 | _,_=>none
theorem toSr_rep {V:World}:∀ {n:Nat} {l:List It} {L:List (Int × Int)} {cs:List Value},toSr n l=some L->RepF V l cs->L.length=n/\cs.length=n*4/\(∀ (i:Nat) (x y:Int),L[i]? = some (x,y)->Gd x/\Gd y /\
  ∃ n1 p1 l1 c1 n2 p2 l2 c2,cs[i*4]? = some (.bool n1)/\cs[i*4+1]? = some (.slice p1 l1 c1)/\cs[i*4+2]? = some (.bool n2)/\cs[i*4+3]? = some (.slice p2 l2 c2)/\NR V n1 p1 l1 c1 (ofZ x)/\NR V n2 p2 l2 c2 (ofZ y))
 | n,l,L,cs,h,hr=>by
  unfold toSr at h
  split at h
  ·cases h
   cases hr
   exact ⟨rfl,rfl,fun i x y hi=>by simp at hi⟩
  ·rename_i n x A y B l
   split at h
   ·rename_i hb
    cases hq:toSr n l with
    | none=>simp [hq] at h
    | some M =>
     simp only [hq,Option.map_some,Option.some.injEq] at h
     subst h
     obtain ⟨c,d,e,⟨⟨n1,p1,l1,c1,rfl,h1⟩,b1⟩,c',d',e',⟨⟨n2,p2,l2,c2,rfl,h2⟩,b2⟩,h3⟩:=hr
     subst e' e
     obtain ⟨k1,k2,k3⟩:=toSr_rep hq h3
     refine ⟨by simp [k1],by simp [k2];omega,fun i u v hi=>?_⟩
     cases i with
     | zero =>
      simp only [List.getElem?_cons_zero,Option.some.injEq,Prod.mk.injEq] at hi
      obtain ⟨rfl,rfl⟩:=hi
      exact ⟨Nat.lt_of_le_of_lt b1 hb.1,Nat.lt_of_le_of_lt b2 hb.2,n1,p1,l1,c1,n2,p2,l2,c2,rfl,rfl,rfl,rfl,h1,h2⟩
     | succ i =>
      simp only [List.getElem?_cons_succ] at hi
      obtain ⟨g1,g2,m1,q1,j1,e1,m2,q2,j2,e2,f0,f1,f2,f3,f4⟩:=k3 i u v hi
      refine ⟨g1,g2,m1,q1,j1,e1,m2,q2,j2,e2,?_,?_,?_,?_,f4⟩
      all_goals rw [show (i+1)*4=i*4+4 by omega]
      ·exact f0
      ·exact f1
      ·exact f2
      ·exact f3
   ·cases h
  ·cases h
def cMCount:Con where
 f:=199
 g:=fun | [⟨true,[.d (.zi d D)]⟩,⟨false,[.fs o l n z]⟩]=>if (o=0/\z=4)/\(0 < n/\n<=1000)/\D < c640 then (toSr n l).map fun L=>(.one (inV (countZ d L) 2),[]) else none | _=>none
 ok:=by
  intro args res ps h hp
  split at h<;>try cases h
  rename_i d D o l n z
  split at h<;>try cases h
  rename_i hb
  obtain ⟨⟨rfl,rfl⟩,hn,hD⟩:=hb
  cases hL:toSr n l with
  | none=>simp [hL] at h
  | some L =>
   simp only [hL,Option.map_some,Option.some.injEq,Prod.mk.injEq] at h
   obtain ⟨rfl,rfl⟩:=h
   intro W vals hv
   simp only [rvs_cons,rvs_nil,rv_t,rl_zi,rl_nil] at hv
   obtain ⟨_,⟨_,⟨b1,n1,p1,l1,c1,h1,_,rfl,rfl⟩,rfl⟩,_,rfl,y,hy,_,rfl,rfl⟩:=hv
   obtain ⟨g,q,xs,T,e1,e2,e3,e4,e5,c,dd,e6,e7,e8⟩:=hy.scal
   obtain rfl:y=_:=by simpa using e1
   obtain ⟨k1,k2,k3⟩:=toSr_rep hL e7
   rw [List.drop_zero] at e6
   have hg:g < W.heap.size:=(Array.getElem?_eq_some_iff.1 e2).1
   have hc:∀ j v,c[j]? = some v->W.cell? ⟨g,j,none⟩=some v:=fun j v hj=>by
    rw [cell_of_row _ _ _ _ _ _ e2]
    have:xs.toList[j]? = some v:=by
     rw [e6,List.getElem?_append_left (List.getElem?_eq_some_iff.1 hj).1]
     exact hj
    simpa using this
   have hSR:SR W g q L:=⟨by omega,by unfold maxLen at e4;omega,hg,fun i x y hi=>by
    obtain ⟨_,_,n1,p1,l1,c1,n2,p2,l2,c2,f0,f1,f2,f3,f4⟩:=k3 i x y hi
    exact ⟨n1,p1,l1,c1,n2,p2,l2,c2,hc _ _ f0,hc _ _ f1,hc _ _ f2,hc _ _ f3,f4⟩⟩
   have hb:=countZ_bd d L
   have:=(meet_count d L n1 p1 l1 c1 g q W h1 hSR (Nat.lt_of_le_of_lt b1 hD) (fun i x y hi=>⟨(k3 i x y hi).1,(k3 i x y hi).2.1⟩) (by omega)).mono fun _ _ h=>gv_in (z:=countZ d L) (B:=2) ⟨by omega,by unfold I64;omega⟩ h
   rw [k1] at this
   exact this
theorem co_of {x:Int} {A:Nat} (h:x.natAbs<=A) (hA:A<=c26):Co x:=by unfold c26 at hA;unfold Co;omega
def cSide:Con where
 f:=194
 g:=fun | [⟨true,[.i ax A,.i ay B]⟩,⟨true,[.i bx C,.i b D]⟩,⟨true,[.i px E,.i py F]⟩]=>if (A<=c26/\B<=c26)/\(C<=c26/\D<=c26)/\(E<=c26/\F<=c26) then some (.one (inV (sideI ((bx - ax)*(py - ay) - (b - ay)*(px - ax))) 1),[]) else none | _=>none
 ok:=by
  intro args res ps h hp
  split at h<;>try cases h
  split at h<;>cases h
  rename_i ax A ay B bx C b D px E py F hb
  intro W vals hv
  simp only [rvs_cons,rvs_nil,rv_t,rl_i,rl_nil] at hv
  obtain ⟨_,⟨_,⟨⟨a1,_⟩,_,rfl,⟨a2,_⟩,_,rfl,rfl⟩,rfl⟩,_,rfl,_,⟨_,⟨⟨a3,_⟩,_,rfl,⟨a4,_⟩,_,rfl,rfl⟩,rfl⟩,_,rfl,_,⟨_,⟨⟨a5,_⟩,_,rfl,⟨a6,_⟩,_,rfl,rfl⟩,rfl⟩,_,rfl,rfl⟩:=hv
  have c1:=co_of a1 hb.1.1
  have c2:=co_of a2 hb.1.2
  have d1:=(co_of a3 hb.2.1.1).sub c1
  have d2:=(co_of a4 hb.2.1.2).sub c2
  have d3:=(co_of a5 hb.2.2.1).sub c1
  have d4:=(co_of a6 hb.2.2.2).sub c2
  have hs:=sideI_bd ((bx - ax)*(py - ay) - (b - ay)*(px - ax))
  exact (vec_Side ax ay bx b px py W d1.i64 d2.i64 d3.i64 d4.i64 (d1.mul64 d4) (d2.mul64 d3) (d1.cross d4 d2 d3)).mono fun _ _ h=>gv_in ⟨by omega,by unfold I64;omega⟩ h
end

section
open Go.RowKit
def cmpRt (a b:Rt):Int:=if a.right&&b.right then cmpR (a.add - b.add) a.s a.n.z a.d.z b.s b.n.z b.d.z else 0
def rv (a:Rt):Re:=lin (a.add*(val a.d.d:Int)) a.s (val a.n.d*val a.d.d)
def mul (z:Int) (x:Re):Re:=(Re.int z).mul x
def df (a b:Rt):Re:=(mul (val b.d.d:Int) (rv a)).add (mul (val a.d.d:Int) (rv b)).neg
theorem Rt.Ok.zs {a:Rt} (h:a.Ok):a.n.z=(val a.n.d:Int)/\a.d.z=(val a.d.d:Int):=⟨z_pos h.nn,z_pos h.dn⟩
theorem Sg.zero {x:Re} (h:∀ k,x.f k=0):Sg 0 x:=.inr (.inl ⟨rfl,nn_of fun k=>by rw [h];exact Rat.le_refl,nn_of fun k=>by show 0 <= -x.f k;rw [h];decide⟩)
end

section
open Go.RowKit
theorem sgn_mul {g:Int} (h:0 < g) (a:Int):sgn (g*a)=sgn a:=by
 rcases sgn_cases a with ⟨h1,h2⟩ | ⟨h1,h2⟩ | ⟨h1,h2⟩
 ·have := Int.mul_pos h h2
  rcases sgn_cases (g*a) with ⟨h3,h4⟩ | ⟨h3,h4⟩ | ⟨h3,h4⟩<;>omega
 ·rw [h2,Int.mul_zero]
 ·have := Int.mul_neg_of_pos_of_neg h h2
  rcases sgn_cases (g*a) with ⟨h3,h4⟩ | ⟨h3,h4⟩ | ⟨h3,h4⟩<;>omega
theorem cmpZ_sub (a b:Int):cmpZ a b=sgn (a - b):=by
 rcases cmpZ_case a b with ⟨h1,h2⟩ | ⟨h1,h2⟩ | ⟨h1,h2⟩<;>rcases sgn_cases (a - b) with ⟨h3,h4⟩ | ⟨h3,h4⟩ | ⟨h3,h4⟩<;>omega
theorem cmpZ_mul {g:Int} (h:0 < g) (a b:Int):cmpZ (g*a) (g*b)=cmpZ a b:=by
 rw [cmpZ_sub,cmpZ_sub,<- Int.mul_sub,sgn_mul h]
theorem sideZ_scale {g:Int} (h:0 < g) (a b c:Int):sideZ (g*a) b (g*g*c)=sideZ a b c:=by
 have h2:=Int.mul_pos h h
 unfold sideZ
 rw [sgn_mul h,sgn_mul h2]
 have e1:g*a*(g*a)=g*g*(a*a):=by grind
 have e2:b*b*(g*g*c)=g*g*(b*b*c):=by grind
 rw [e1,e2,cmpZ_mul h2]
theorem sideZ_bd (a b c:Int) : -1<=sideZ a b c/\sideZ a b c<=1:=by
 unfold sideZ
 split
 ·omega
 ·rcases sgn_cases a with ⟨h1,h2⟩ | ⟨h1,h2⟩ | ⟨h1,h2⟩<;>rcases cmpZ_case (a*a) (b*b*c) with ⟨h3,h4⟩ | ⟨h3,h4⟩ | ⟨h3,h4⟩<;>rw [h1,h3]<;>decide
theorem cmpR_whole (A s n d:Int):cmpR A s n d 0 0 1=sideZ (A*d) s (n*d):=by
 have:=sideZ_bd (A*d) s (n*d)
 unfold cmpR
 split
 ·omega
 ·rename_i h
  have:sideZ (A*d) s (n*d)=0:=by omega
  rw [this,Int.zero_mul]
theorem side_whole {f d n:Int} (hf:0<=f) (hd:0 < d) (hn:0<=n):sideZ (-f*d) 1 (n*d)=sgn (n - d*f*f):=by
 have s1:sgn 1=1:=rfl
 unfold sideZ
 rw [s1,Int.one_mul,Int.mul_comm n d,sgn_mul hd,Int.mul_comm (-f) d,sgn_mul hd]
 rcases sgn_cases n with ⟨h1,h2⟩ | ⟨h1,h2⟩ | ⟨h1,h2⟩
 ·rcases sgn_cases (-f) with ⟨h3, h4⟩ | ⟨h3, h4⟩ | ⟨h3, h4⟩
  ·omega
  ·obtain rfl : f = 0 := by omega
   rw [h1,h3,if_pos (by decide),Int.mul_zero,Int.sub_zero,h1]
   decide
  ·rw [h1, h3, if_neg (by decide)]
   have e:d * -f*(d * -f)=d*(d*f*f):=by grind
   rw [e,Int.mul_one,Int.one_mul,cmpZ_mul hd,cmpZ_sub]
   have e2:n - d*f*f = -(d*f*f - n):=by omega
   rw [e2]
   rcases sgn_cases (d*f*f - n) with ⟨h5,h6⟩ | ⟨h5,h6⟩ | ⟨h5,h6⟩<;>rcases sgn_cases (-(d*f*f - n)) with ⟨h7,h8⟩ | ⟨h7,h8⟩ | ⟨h7,h8⟩<;>omega
 ·subst h2
  rw [h1,Int.mul_zero,if_pos (Int.le_refl 0),Int.zero_sub]
  have e : -(d*f*f)=d*(f * -f):=by grind
  rw [e,sgn_mul hd]
  rcases sgn_cases (-f) with ⟨h3,h4⟩ | ⟨h3,h4⟩ | ⟨h3,h4⟩
  ·omega
  ·obtain rfl : f = 0 := by omega
   rfl
  ·rw [h3, sgn_mul (show 0 < f by omega), h3]
   decide
 ·omega
def rootOf (add s:Int) (n d:Nat):Rt:=if s=0\/n=0 then ⟨add,0,zero,ofZ 1⟩ else ⟨add,s,ofZ ((n / Nat.gcd n d:Nat):Int),ofZ ((d / Nat.gcd n d:Nat):Int)⟩
theorem small_nat {n k:Nat} (h:n < 4294967296 ^ k) (hk:k<=64):small (n:Int)=true:=small_of_lt (k:=k) (by rw [Int.natAbs_natCast];exact h) hk
theorem ofZ_len {n k:Nat} (h:n < 4294967296 ^ k):(ofZ (n:Int)).d.length<=k:=by
 simp only [ofZ,Int.natAbs_natCast]
 exact (digs_length_le _ _).2 h
theorem ofP_nat {add s:Int} {n d:Nat} (hs : -1<=s/\s<=1) (hn:n < 4294967296 ^ 8) (hd:d < 4294967296 ^ 8) (h0:0 < d):ofP add s (ofZ (n:Int)) (ofZ (d:Int))=(rootOf add s n d,true):=by
 have sn:=small_nat hn (by decide)
 have sd:=small_nat hd (by decide)
 have vn:val (ofZ (n:Int)).d=n:=by rw [val_ofZ];rfl
 have vd:val (ofZ (d:Int)).d=d:=by rw [val_ofZ];rfl
 have hb:ofBad s (ofZ (n:Int)) (ofZ (d:Int))=false:=ofBad_of hs.1 hs.2 (ofZ_right sn) (ofZ_right sd) neg_ofZ (by rw [ofZ_z];omega)
 unfold rootOf
 by_cases hz:s=0\/n=0
 ·rw [if_pos hz]
  unfold ofP
  rw [hb,if_neg (by simp),if_pos (by rw [ofZ_z];omega)]
 ·rw [if_neg hz, ofP_main neg_ofZ (by rw [ofZ_z]; omega) hb (by rw [ofZ_z]; omega), vn, vd, if_neg]
  have h1:=ofZ_len (Nat.lt_of_le_of_lt (Nat.div_le_self n (Nat.gcd n d)) hn)
  have h2:=ofZ_len (Nat.lt_of_le_of_lt (Nat.div_le_self d (Nat.gcd n d)) hd)
  omega
theorem whole_ok {add s:Int} {n d:Nat} (hs : -1<=s/\s<=1) (hn:n < 4294967296 ^ 8) (hd:d < 4294967296 ^ 8) (h0:0 < d):(rootOf add s n d).Ok/\(rootOf add s n d).right=true:=by
 have dg:∀ z,Dig (ofZ z).d:=fun z=>dig_digs _
 obtain ⟨h1,h2,_⟩:=ofP_ok (dg n) (dg d) (ofP_nat (add:=add) hs hn hd h0)
 exact ⟨h1,right_of h2 h1.nr h1.dr⟩
theorem cmp_int {add s x:Int} {n d:Nat} (h0:0 < d) (hs:s=0->n=0):cmpR ((rootOf add s n d).add - x) (rootOf add s n d).s (rootOf add s n d).n.z (rootOf add s n d).d.z 0 0 1=sideZ ((add - x)*d) s ((n:Int)*d):=by
 rw [cmpR_whole]
 unfold rootOf
 by_cases hz:s=0\/n=0
 ·have hn : n = 0 := by rcases hz with h | h; exact hs h; exact h
  rw [if_pos hz,hn]
  simp only
  rw [ofZ_z,zero_z]
  have e:∀ y t:Int,sideZ y t 0=sgn y:=fun y t=>by
   have:sgn 0=0:=rfl
   unfold sideZ
   rw [this,Int.mul_zero,Int.mul_zero,if_pos (Int.le_refl 0)]
   rcases sgn_cases y with ⟨h,_⟩ | ⟨h,_⟩ | ⟨h,_⟩<;>rw [h]<;>decide
  rw [Int.zero_mul,e,show ((0:Nat):Int)*(d:Int)=0 by simp,e,Int.mul_one,Int.mul_comm,sgn_mul (by omega)]
 ·rw [if_neg hz]
  simp only
  rw [ofZ_z,ofZ_z]
  have hg:0 < Nat.gcd n d:=Nat.gcd_pos_of_pos_right _ h0
  have e1:Nat.gcd n d*(n / Nat.gcd n d)=n:=Nat.mul_div_cancel' (Nat.gcd_dvd_left _ _)
  have e2:Nat.gcd n d*(d / Nat.gcd n d)=d:=Nat.mul_div_cancel' (Nat.gcd_dvd_right _ _)
  have e1':(n:Int)=(Nat.gcd n d:Int)*((n / Nat.gcd n d:Nat):Int):=by rw [<- Int.natCast_mul,e1]
  have e2':(d:Int)=(Nat.gcd n d:Int)*((d / Nat.gcd n d:Nat):Int):=by rw [<- Int.natCast_mul,e2]
  have hg2:(0:Int) < (Nat.gcd n d:Int):=by omega
  generalize (Nat.gcd n d:Int)=g at *
  generalize ((n / Nat.gcd n d:Nat):Int)=N at *
  generalize ((d / Nat.gcd n d:Nat):Int)=D at *
  rw [e1',e2',show (add - x)*(g*D)=g*((add - x)*D) by grind,show g*N*(g*D)=g*g*(N*D) by grind,sideZ_scale hg2]
end

set_option maxRecDepth 100000
section
open Go.RowKit
theorem addP_z {x y:Int} (hx:small x=true) (hy:small y=true) (hs:small (x+y)=true):addP (ofZ x) (ofZ y)=(ofZ (x+y),true):=by
 unfold addP fit
 rw [ofZ_right hx,ofZ_right hy,ofZ_z,ofZ_z,hs]
 rfl
theorem zadd_c (x y:Int) (A B:Nat) (h:decide (A+B < c2048)=true) (b1:x.natAbs<=A) (b2:y.natAbs<=B):(x+y).natAbs<=A+B/\addP (ofZ x) (ofZ y)=(ofZ (x+y),true):=by
 have h:=of_decide_eq_true h
 have b3:(x+y).natAbs<=A+B:=by omega
 exact ⟨b3,addP_z (small_c b1 (by omega)) (small_c b2 (by omega)) (small_c b3 h)⟩
theorem cmpZ_b (a b:Int):(cmpZ a b).natAbs<=1/\I64 (cmpZ a b):=by
 have:=cmpZ_bd a b
 exact ⟨by omega,by unfold I64;omega⟩
def zCmpC (f:FuncId) (H:∀ (a b:Nm) (n m:Bool) (p q:Option Addr) (l c k d:Nat) (w:World),NR w n p l c a->NR w m q k d b->Calls Tryz.prog f #[NmV n p l c,NmV m q k d] w fun e w'=>e=.returned (.int .i64 (cmpP a b))/\Ext w w'):Con where
 f:=f
 g:=fun | [⟨true,l⟩,⟨true,m⟩]=>(match toZi l,toZi m with | some (x,A),some (y,B)=>if A < c2048/\B < c2048 then some (.one (inV (cmpZ x y) 1),[]) else none | _,_=>none) | _=>none
 ok:=by
  intro args res ps h hp
  split at h<;>try cases h
  split at h<;>try cases h
  split at h<;>cases h
  rename_i x A y B hx hy hb
  intro W vals hv
  obtain ⟨v1,g1,l1,rfl,hv1⟩:=rvs_cons.1 hv
  obtain ⟨v2,g2,l2,rfl,hv2⟩:=rvs_cons.1 hv1
  cases hv2
  obtain ⟨b1,_,_,_,_,rfl,h1⟩:=toZi_rep hx g1
  obtain ⟨b2,_,_,_,_,rfl,h2⟩:=toZi_rep hy g2
  exact (H _ _ _ _ _ _ _ _ _ _ W h1 h2).mono fun _ _ h=>gv_in (cmpZ_b _ _) (cmpP_side (small_c b1 hb.1) (small_c b2 hb.2) ▸ h)
def d1ZRight:Con where
 f:=121
 g:=fun | [⟨true,[.d (.zi x A)]⟩]=>if A < c2048 then some (.one ⟨false,[.b true]⟩,[]) else none | _=>none
 ok:=by
  intro args res ps h hp
  split at h<;>try cases h
  split at h<;>cases h
  rename_i x A hb
  intro W vals hv
  simp only [rvs_cons,rvs_nil,rv_t,rl_zi,rl_nil] at hv
  obtain ⟨_,⟨_,⟨b1,n,p,l,c,h1,_,rfl,rfl⟩,rfl⟩,_,rfl,rfl⟩:=hv
  have e:(ofZ x).right=true:=ofZ_right (small_c b1 hb)
  exact (r01_Right _ _ _ _ _ W h1).mono fun _ _ h=>⟨_,h.1,RepI.val (i:=.b true) (by show [_]=[_];rw [e]),h.2⟩
def c672:Nat:=4294967296 ^ 21
theorem zi_up {V W:World} {r:Nat->Nat} {k:Nat} {z:Int} {A B:Nat} (h:A<=B):∀ v,RepV V W r k ⟨true,[.d (.zi z A)]⟩ v->RepV V W r k (ziV z B) v:=by
 intro v hv
 obtain ⟨_,hw,rfl⟩:=rv_t.1 hv
 obtain ⟨b1,h2⟩:=rl_zi.1 hw
 exact rv_t.2 ⟨_,rl_zi.2 ⟨Nat.le_trans b1 h,h2⟩,rfl⟩
def sideC (f:FuncId) (M:Nat) (H:∀ a b c:Int,a.natAbs<=M->b.natAbs<=M->c.natAbs<=M->0<=c->Fok Tryz.prog f [ziV a M,ziV b M,ziV c M] (.one (inV (sideZ a b c) lim))):Con where
 f:=f
 g:=fun | [⟨true,[.d (.zi x A)]⟩,⟨true,[.d (.zi y B)]⟩,⟨true,[.d (.zi d D)]⟩]=>if A<=M/\B<=M/\D<=M then some (.one (inV (sideZ x y d) 1),[0<=d]) else none | _=>none
 ok:=by
  intro args res ps h hp
  split at h<;>try cases h
  split at h<;>cases h
  rename_i x A y B d D hb
  intro W vals hv
  obtain ⟨v1,g1,l1,e1,hv1⟩:=rvs_cons.1 hv
  obtain ⟨v2,g2,l2,e2,hv2⟩:=rvs_cons.1 hv1
  obtain ⟨v3,g3,_⟩:=rvs_cons.1 hv2
  have bd:∀ {z:Int} {A:Nat} {v:Value},RepV W W (fun _=>0) 0 ⟨true,[.d (.zi z A)]⟩ v->z.natAbs<=A:=fun h=>by
   obtain ⟨_,hw,_⟩:=rv_t.1 h
   exact (rl_zi.1 hw).1
  have hs:=sideZ_bd x y d
  exact Fok.bd (H x y d (Nat.le_trans (bd g1) hb.1) (Nat.le_trans (bd g2) hb.2.1) (Nat.le_trans (bd g3) hb.2.2) hp.1) (by omega) W vals (rvs_1 (zi_up hb.1) (rvs_1 (zi_up hb.2.1) (rvs_1 (zi_up hb.2.2) fun _ h=>h)) _ hv)
end
end Go.Proofs.YtceemiodpccbhaaGreat
