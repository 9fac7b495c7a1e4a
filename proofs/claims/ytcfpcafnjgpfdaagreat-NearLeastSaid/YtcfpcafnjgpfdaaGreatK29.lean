import Derived.Test.YtcfpcafnjgpfdaaGreatK28
import Derived.Deep.LoopGhost
set_option linter.unusedVariables false
set_option linter.unusedSimpArgs false

namespace Go.Proofs.YtcfpcafnjgpfdaaGreat
open Go.RowKit

section
def IsoOk(a b c d:Int):Prop:=(b=0/\c=0/\(a=1\/a = -1)/\(d=1\/d = -1))\/(a=0/\d=0/\(b=1\/b = -1)/\(c=1\/c = -1))
theorem dot_iso{a b c d:Int}(h:IsoOk a b c d)(x y z w:Int):(a*x+b*y)*(a*z+b*w)+(c*x+d*y)*(c*z+d*w)=x*z+y*w:=by
 rcases h with⟨rfl,rfl,rfl|rfl,rfl|rfl⟩|⟨rfl,rfl,rfl|rfl,rfl|rfl⟩<;>grind
theorem crs_iso{a b c d:Int}(x y z w:Int):(a*x+b*y)*(c*z+d*w)-(c*x+d*y)*(a*z+b*w)=(a*d-b*c)*(x*w-y*z):=by grind
theorem det_iso{a b c d:Int}(h:IsoOk a b c d):a*d-b*c=1\/a*d-b*c = -1:=by
 rcases h with⟨rfl,rfl,rfl|rfl,rfl|rfl⟩|⟨rfl,rfl,rfl|rfl,rfl|rfl⟩<;>decide
theorem sub_iso(a b x y z w t:Int):a*x+b*y+t-(a*z+b*w+t)=a*(x-z)+b*(y-w):=by grind
structure Mvd (a b c d x y:Int) (e e':Ed):Prop where
 iso:IsoOk a b c d
 ok:e.ok=true
 ok':e'.ok=true
 k:e'.k=1 <-> e.k=1
 ax:e'.ax=a*e.ax+b*e.ay+x
 ay:e'.ay=c*e.ax+d*e.ay+y
 bx:e'.bx=a*e.bx+b*e.by'+x
 by':e'.by'=c*e.bx+d*e.by'+y
 cx:¬e.k=1->e'.cx=a*e.cx+b*e.cy+x
 cy:¬e.k=1->e'.cy=c*e.cx+d*e.cy+y
variable {a b c d x y:Int} {e e' f f':Ed}
theorem Mvd.rad(h:Mvd a b c d x y e e')(hk:¬e.k=1):radZ e'=radZ e:=by
 rw[rad_eq h.ok hk,rad_eq h.ok' (fun g=>hk (h.k.1 g)),h.ax,h.ay,h.cx hk,h.cy hk,sub_iso,sub_iso]
 rcases h.iso with⟨rfl,rfl,rfl|rfl,rfl|rfl⟩|⟨rfl,rfl,rfl|rfl,rfl|rfl⟩<;>omega
theorem tdiv_iso{a b c d:Int}(h:IsoOk a b c d)(x y r:Int):(a*x+b*y).tdiv r=a*x.tdiv r+b*y.tdiv r/\(c*x+d*y).tdiv r=c*x.tdiv r+d*y.tdiv r:=by
 rcases h with⟨rfl,rfl,rfl|rfl,rfl|rfl⟩|⟨rfl,rfl,rfl|rfl,rfl|rfl⟩<;>simp[Int.neg_tdiv,Int.neg_mul]
theorem Mvd.axes(h:Mvd a b c d x y e e')(hk:¬e.k=1):e'.ux=a*e.ux+b*e.uy/\e'.uy=c*e.ux+d*e.uy/\e'.vx=a*e.vx+b*e.vy/\e'.vy=c*e.vx+d*e.vy:=by
 unfold Ed.ux Ed.uy Ed.vx Ed.vy
 rw[h.rad hk,h.ax,h.ay,h.bx,h.by',h.cx hk,h.cy hk,sub_iso,sub_iso,sub_iso,sub_iso]
 exact⟨(tdiv_iso h.iso ..).1,(tdiv_iso h.iso ..).2,(tdiv_iso h.iso ..).1,(tdiv_iso h.iso ..).2⟩
theorem btw_iso{a b c d:Int}(h:IsoOk a b c d)(x y px py ax ay bx by':Int):(Btw (a*ax+b*ay+x) (a*px+b*py+x) (a*bx+b*by'+x)/\Btw (c*ax+d*ay+y) (c*px+d*py+y) (c*bx+d*by'+y)) <-> Btw ax px bx/\Btw ay py by':=by
 unfold Btw
 rcases h with⟨rfl,rfl,rfl|rfl,rfl|rfl⟩|⟨rfl,rfl,rfl|rfl,rfl|rfl⟩<;>omega
theorem Mvd.on(h:Mvd a b c d x y e e')(px py:Int):onE e' (a*px+b*py+x) (c*px+d*py+y)=onE e px py:=by
 unfold onE
 rw[h.ok,h.ok']
 have hb:inB (min e'.ax e'.bx) (min e'.ay e'.by') (max e'.ax e'.bx) (max e'.ay e'.by') (a*px+b*py+x) (c*px+d*py+y)=inB (min e.ax e.bx) (min e.ay e.by') (max e.ax e.bx) (max e.ay e.by') px py:=by
  rw[Bool.eq_iff_iff,inB_iff,inB_iff,h.ax,h.ay,h.bx,h.by']
  exact btw_iso h.iso ..
 rw[hb]
 by_cases hk:e.k=1
 ·rw [if_pos hk, if_pos (h.k.2 hk)]
  have:(sideI ((e'.bx-e'.ax)*(c*px+d*py+y-e'.ay)-(e'.by'-e'.ay)*(a*px+b*py+x-e'.ax))==0)=(sideI ((e.bx-e.ax)*(py-e.ay)-(e.by'-e.ay)*(px-e.ax))==0):=by
   rw[Bool.eq_iff_iff,sideI_0,sideI_0,h.ax,h.ay,h.bx,h.by',sub_iso,sub_iso,sub_iso,sub_iso,crs_iso]
   rcases det_iso h.iso with g|g<;>rw[g]<;>omega
  rw[this]
 ·rw [if_neg hk, if_neg (fun g => hk (h.k.1 g))]
  have:powerI (a*px+b*py+x-e'.cx) (c*px+d*py+y-e'.cy) (e'.ax-e'.cx) (e'.ay-e'.cy)=powerI (px-e.cx) (py-e.cy) (e.ax-e.cx) (e.ay-e.cy):=by
   unfold powerI
   rw[h.ax,h.ay,h.cx hk,h.cy hk,sub_iso,sub_iso,sub_iso,sub_iso,dot_iso h.iso,dot_iso h.iso]
  rw[this]
theorem eq_iso{a b c d:Int}(h:IsoOk a b c d)(x y z w:Int):(a*x+b*y=a*z+b*w/\c*x+d*y=c*z+d*w) <-> x=z/\y=w:=by
 rcases h with⟨rfl,rfl,rfl|rfl,rfl|rfl⟩|⟨rfl,rfl,rfl|rfl,rfl|rfl⟩<;>omega
theorem beq_iso{a b c d:Int}(h:IsoOk a b c d)(x y z w:Int):(a*x+b*y==a*z+b*w&&c*x+d*y==c*z+d*w)=(x==z&&y==w):=by
 rw[Bool.eq_iff_iff,Bool.and_eq_true,Bool.and_eq_true,beq_iff_eq,beq_iff_eq,beq_iff_eq,beq_iff_eq]
 exact eq_iso h ..
theorem Mvd.pt(h:Mvd a b c d x y e e'):e'.pt=e.pt:=by
 unfold Ed.pt
 rw[h.ax,h.ay,h.bx,h.by',<- beq_iso h.iso e.ax e.ay e.bx e.by',Bool.eq_iff_iff]
 simp only[Bool.and_eq_true,beq_iff_eq]
 omega
theorem Mvd.cross(h:Mvd a b c d x y e e')(g:Mvd a b c d x y f f')(hk:¬f.k=1):crossZ e' f'=crossZ e f:=by
 have:laE e' f'=laE e f:=by
  obtain⟨x1,x2,x3,x4⟩:=g.axes hk
  unfold laE
  rw[x1,x2,x3,x4,g.rad hk,h.ax,h.ay,h.bx,h.by',g.cx hk,g.cy hk]
  simp only[sub_iso,dot_iso h.iso]
 unfold crossZ
 rw[this]
end

section
theorem sgQ{x y:Q4}(hx:x.ok)(hy:y.ok):Sg (cmpQ x y) (df x.rt y.rt):=by
 obtain⟨_,k1,r1⟩:=hx.root
 obtain⟨_,k2,r2⟩:=hy.root
 rw[<- cmpQ_rt hx hy]
 unfold cmpRt
 rw[r1,r2]
 exact cmpRt_sg k1 k2
theorem cmpQ_anti{x y:Q4}(hx:x.ok)(hy:y.ok):cmpQ y x = -cmpQ x y:=by
 refine Sg.uniq (sgQ hy hx) (Sg.eq (sgQ hx hy).neg fun k=>?_)
 rw[neg_f,df_f,df_f]
 grind
theorem cmpQ_self{x:Q4}(hx:x.ok):cmpQ x x=0:=by have:=cmpQ_anti hx hx;omega
theorem cmpQ_trans{x y z:Q4}(hx:x.ok)(hy:y.ok)(hz:z.ok)(h1:cmpQ x y<=0)(h2:cmpQ y z<=0):cmpQ x z<=0 :=
 ((cmp_trans hx.root.2.1 hy.root.2.1 hz.root.2.1 (sgQ hx hy) (sgQ hy hz) (sgQ hx hz)).1 h1 h2).1
theorem fold_le:∀ {m:List Q4} {y:Q4},y.ok->(∀z∈m,z.ok)->(m.foldl (fun x y=>if cmpQ y x<0 then y else x) y).ok/\cmpQ (m.foldl (fun x y=>if cmpQ y x<0 then y else x) y) y<=0/\∀z∈m,cmpQ (m.foldl (fun x y=>if cmpQ y x<0 then y else x) y) z<=0
 | [],y,hy,_=>⟨hy,by rw[show List.foldl _ y []=y from rfl,cmpQ_self hy];exact Int.le_refl 0,nofun⟩
 | b::m,y,hy,hm=>by
  have hb:=hm b (List.mem_cons_self ..)
  have hm':∀z∈m,z.ok:=fun z hz=>hm z (List.mem_cons_of_mem _ hz)
  simp only[List.foldl_cons]
  split
  ·rename_i h
   obtain⟨k0,k1,k2⟩:=fold_le (y:=b) hb hm'
   refine⟨k0,cmpQ_trans k0 hb hy k1 (Int.le_of_lt h),fun z hz=>?_⟩
   rcases List.mem_cons.1 hz with rfl|hz
   ·exact k1
   ·exact k2 z hz
  ·rename_i h
   obtain⟨k0,k1,k2⟩:=fold_le (y:=y) hy hm'
   refine⟨k0,k1,fun z hz=>?_⟩
   rcases List.mem_cons.1 hz with rfl|hz
   ·exact cmpQ_trans k0 hy hb k1 (by rw[cmpQ_anti hb hy];omega)
   ·exact k2 z hz
theorem leastQ_le{m:List Q4}(h0:m ≠ [])(hm:∀z∈m,z.ok):(leastQ m).ok/\∀z∈m,cmpQ (leastQ m) z<=0:=by
 cases m with
 | nil=>exact absurd rfl h0
 | cons y m =>
  obtain⟨k0,k1,k2⟩:=fold_le (m:=m) (hm y (List.mem_cons_self ..)) fun z hz=>hm z (List.mem_cons_of_mem _ hz)
  refine⟨k0,fun z hz=>?_⟩
  rcases List.mem_cons.1 hz with rfl|hz
  ·exact k1
  ·exact k2 z hz
theorem arc_ends{e:Ed}(h:e.ok=true)(hk:¬e.k=1):(e.k=2/\e.bx-e.cx = -(e.ay-e.cy)/\e.by'-e.cy=e.ax-e.cx)\/(e.k=3/\e.bx-e.cx=e.ay-e.cy/\e.by'-e.cy = -(e.ax-e.cx)):=by
 have hk':=kind_of h
 unfold Ed.ok at h
 simp only[Bool.and_eq_true] at h
 obtain⟨_,h2⟩:=h
 rcases hk' with k|k|k
 ·exact absurd k hk
 ·rw [k] at h2
  simp only[show ¬(2:Int)=1 by decide,if_false,if_true,Ed.quarter,quarterB,Bool.and_eq_true,beq_iff_eq,rot] at h2
  exact .inl ⟨k,h2.2.1,h2.2.2⟩
 ·rw [k] at h2
  simp only[show ¬(3:Int)=1 by decide,show ¬(3:Int)=2 by decide,if_false,if_true,Ed.quarter,quarterB,Bool.and_eq_true,beq_iff_eq,rot] at h2
  refine .inr ⟨k,?_,?_⟩<;>omega
def dotA(e:Ed)(x y:Int):Int:=x*(e.ax-e.cx)+y*(e.ay-e.cy)
def dotB(e:Ed)(x y:Int):Int:=x*(e.bx-e.cx)+y*(e.by'-e.cy)
theorem inQ_dot{e:Ed}(h:e.ok=true)(hk:¬e.k=1)(x y:Int):inQ e x y=(!(x==0&&y==0)&&(decide (0<=dotA e x y)&&decide (0<=dotB e x y))):=by
 unfold inQ wiB dotA dotB
 rcases arc_ends h hk with⟨k,e1,e2⟩|⟨k,e1,e2⟩
 ·rw [if_neg (by omega), e1, e2]
  rw[show (e.ax-e.cx)*y-(e.ay-e.cy)*x=x * -(e.ay-e.cy)+y*(e.ax-e.cx) by grind,show x*(e.ax-e.cx)-y * -(e.ay-e.cy)=x*(e.ax-e.cx)+y*(e.ay-e.cy) by grind]
  congr 1
  exact Bool.and_comm _ _
 ·rw [if_pos k, e1, e2]
  rw[show (e.ay-e.cy)*y - -(e.ax-e.cx)*x=x*(e.ax-e.cx)+y*(e.ay-e.cy) by grind,show x*(e.ay-e.cy)-y*(e.ax-e.cx)=x*(e.ay-e.cy)+y * -(e.ax-e.cx) by grind]
theorem footQ_eq(l a:Ed):footQ l a=if tI l a.cx a.cy<=0\/qI l<=tI l a.cx a.cy\/cI l a.cx a.cy*cI l a.cx a.cy<=radZ a*radZ a*qI l\/inQ a (if 0<cI l a.cx a.cy then l.by'-l.ay else -(l.by'-l.ay)) (if 0<cI l a.cx a.cy then -(l.bx-l.ax) else l.bx-l.ax)=false then [] else [⟨-radZ a,1,cI l a.cx a.cy*cI l a.cx a.cy,qI l⟩]:=rfl
theorem centQ_comm(a b:Ed):centQ b a=centQ a b:=by
 unfold centQ
 simp only
 have e1:a.cx-b.cx = -(b.cx-a.cx):=by omega
 have e2:a.cy-b.cy = -(b.cy-a.cy):=by omega
 have e3:sqI (-(b.cx-a.cx)) (-(b.cy-a.cy))=sqI (b.cx-a.cx) (b.cy-a.cy):=by unfold sqI;rw[Int.neg_mul_neg,Int.neg_mul_neg]
 have e4:(radZ b+radZ a)*(radZ b+radZ a)=(radZ a+radZ b)*(radZ a+radZ b):=by grind
 have e5:(radZ b-radZ a)*(radZ b-radZ a)=(radZ a-radZ b)*(radZ a-radZ b):=by grind
 have e6 : -radZ b-radZ a = -radZ a-radZ b:=by omega
 rw[e1,e2,e3,e4,e5,e6,Int.neg_neg,Int.neg_neg]
 have hn:=sqI_nn (b.cx-a.cx) (b.cy-a.cy)
 generalize sqI (b.cx-a.cx) (b.cy-a.cy)=n at *
 rw[Bool.and_comm (inQ b (-(b.cx-a.cx)) (-(b.cy-a.cy))) (inQ a (b.cx-a.cx) (b.cy-a.cy)),Bool.and_comm (inQ b (-(b.cx-a.cx)) (-(b.cy-a.cy))) (inQ a (-(b.cx-a.cx)) (-(b.cy-a.cy))),Bool.and_comm (inQ b (b.cx-a.cx) (b.cy-a.cy)) (inQ a (b.cx-a.cx) (b.cy-a.cy))]
 by_cases h1:(radZ a+radZ b)*(radZ a+radZ b)<n
 ·rw[if_pos h1,if_pos h1]
 by_cases h2:(radZ a-radZ b)*(radZ a-radZ b)<=n
 ·rw[if_neg h1,if_neg h1,if_pos h2,if_pos h2]
 have h3:¬radZ a=radZ b:=fun h=>by rw[h] at h2;simp at h2;omega
 by_cases h4:radZ a<radZ b
 ·rw[if_neg h1,if_neg h1,if_neg h2,if_neg h2,if_pos h4,if_neg (show ¬radZ b<radZ a by omega)]
 ·rw[if_neg h1,if_neg h1,if_neg h2,if_neg h2,if_neg h4,if_pos (show radZ b<radZ a by omega)]
theorem innerQ_comm(a b:Ed):innerQ b a=innerQ a b:=by
 unfold innerQ
 by_cases h1:a.k=1<;>by_cases h2:b.k=1
 ·simp only[if_pos h1,if_pos h2]
 ·simp only[if_pos h1,if_neg h2]
 ·simp only[if_neg h1,if_pos h2]
 ·simp only[if_neg h1,if_neg h2];exact centQ_comm a b
theorem mem4{a b c d:Q4}{l:List Q4}{z:Q4}:z ∈ [a,b,c,d]++l <-> (z=a\/z=b\/z=c\/z=d)\/z∈l:=by simp[or_assoc]
theorem candQ_comm(a b:Ed)(z:Q4):z∈candQ a b <-> z∈candQ b a:=by
 unfold candQ
 rw[mem4,mem4,innerQ_comm]
 constructor<;>rintro ((h|h|h|h)|h)<;>simp[h]
variable {a b c d x y:Int} {e e' f f':Ed}
theorem sq_iso(h:IsoOk a b c d)(u v:Int):sqI (a*u+b*v) (c*u+d*v)=sqI u v:=dot_iso h u v u v
theorem zero_iso(h:IsoOk a b c d)(u v:Int):(a*u+b*v==0&&c*u+d*v==0)=(u==0&&v==0):=by
 rw[Bool.eq_iff_iff]
 simp only[Bool.and_eq_true,beq_iff_eq]
 have:=eq_iso h u v 0 0
 simp only[Int.mul_zero,Int.add_zero] at this
 exact this
theorem Mvd.inQ(h:Mvd a b c d x y e e')(hk:¬e.k=1)(u v:Int):inQ e' (a*u+b*v) (c*u+d*v)=inQ e u v:=by
 rw[inQ_dot h.ok hk,inQ_dot h.ok' (fun g=>hk (h.k.1 g)),zero_iso h.iso]
 unfold dotA dotB
 rw[h.ax,h.ay,h.bx,h.by',h.cx hk,h.cy hk,sub_iso,sub_iso,sub_iso,sub_iso,dot_iso h.iso,dot_iso h.iso]
theorem endQ_iso(h:IsoOk a b c d)(p q r s:Int):endQ (a*p+b*q+x) (c*p+d*q+y) (a*r+b*s+x) (c*r+d*s+y)=endQ p q r s:=by
 unfold endQ
 rw[sub_iso,sub_iso,sq_iso h]
theorem crs_sq(h:IsoOk a b c d)(p q r s:Int):((a*p+b*q)*(c*r+d*s)-(c*p+d*q)*(a*r+b*s))*((a*p+b*q)*(c*r+d*s)-(c*p+d*q)*(a*r+b*s))=(p*s-q*r)*(p*s-q*r):=by
 rw[crs_iso]
 rcases det_iso h with g|g<;>rw[g]
 ·rw[Int.one_mul]
 ·rw[Int.neg_one_mul,Int.neg_mul_neg]
theorem Mvd.lineQ(h:Mvd a b c d x y e e')(p q:Int):lineQ e' (a*p+b*q+x) (c*p+d*q+y)=lineQ e p q:=by
 unfold Go.Proofs.YtcfpcafnjgpfdaaGreat.lineQ
 simp only[h.ax,h.ay,h.bx,h.by',sub_iso,dot_iso h.iso,sq_iso h.iso,endQ_iso h.iso,crs_sq h.iso]
theorem Mvd.pointQ(h:Mvd a b c d x y e e')(p q:Int):pointQ e' (a*p+b*q+x) (c*p+d*q+y)=pointQ e p q:=by
 unfold Go.Proofs.YtcfpcafnjgpfdaaGreat.pointQ
 by_cases hk:e.k=1
 ·rw[if_pos hk,if_pos (h.k.2 hk),h.lineQ]
 ·rw [if_neg hk, if_neg (fun g => hk (h.k.1 g))]
  unfold arcQ
  simp only[h.ax,h.ay,h.bx,h.by',h.cx hk,h.cy hk,sub_iso,h.inQ hk,h.rad hk,sq_iso h.iso,endQ_iso h.iso]
theorem Mvd.footQ(h:Mvd a b c d x y e e')(g:Mvd a b c d x y f f')(hk:¬f.k=1):footQ e' f'=footQ e f:=by
 rw[footQ_eq,footQ_eq]
 have e1:tI e' f'.cx f'.cy=tI e f.cx f.cy:=by unfold tI;simp only[h.ax,h.ay,h.bx,h.by',g.cx hk,g.cy hk,sub_iso,dot_iso h.iso]
 have e2:cI e' f'.cx f'.cy=(a*d-b*c)*cI e f.cx f.cy:=by unfold cI;simp only[h.ax,h.ay,h.bx,h.by',g.cx hk,g.cy hk,sub_iso];exact crs_iso ..
 have e3:qI e'=qI e:=by unfold qI;simp only[h.ax,h.ay,h.bx,h.by',sub_iso,sq_iso h.iso]
 have e4:e'.by'-e'.ay=c*(e.bx-e.ax)+d*(e.by'-e.ay):=by rw[h.ay,h.by',sub_iso]
 have e5:e'.bx-e'.ax=a*(e.bx-e.ax)+b*(e.by'-e.ay):=by rw[h.ax,h.bx,sub_iso]
 have hq:0<=qI e:=sqI_nn _ _
 have e6:(a*d-b*c)*cI e f.cx f.cy*((a*d-b*c)*cI e f.cx f.cy)=cI e f.cx f.cy*cI e f.cx f.cy:=by
  rcases det_iso h.iso with g|g<;>rw[g]
  ·rw[Int.one_mul]
  ·rw[Int.neg_one_mul,Int.neg_mul_neg]
 rw[e1,e2,e3,e4,e5,e6,g.rad hk]
 by_cases h0:cI e f.cx f.cy=0
 ·have h1:cI e f.cx f.cy*cI e f.cx f.cy<=radZ f*radZ f*qI e:=by
   rw[h0,Int.zero_mul];exact Int.mul_nonneg (sqz_nn _) hq
  rw[if_pos (.inr (.inr (.inl h1))),if_pos (.inr (.inr (.inl h1)))]
 ·generalize e.bx - e.ax = u
  generalize e.by'-e.ay=v
  have key:∃n m:Int,(n=if 0<cI e f.cx f.cy then v else -v)/\(m=if 0<cI e f.cx f.cy then -u else u)/\(if 0<(a*d-b*c)*cI e f.cx f.cy then c*u+d*v else -(c*u+d*v))=a*n+b*m/\(if 0<(a*d-b*c)*cI e f.cx f.cy then -(a*u+b*v) else a*u+b*v)=c*n+d*m:=by
   refine⟨_,_,rfl,rfl,?_⟩
   generalize cI e f.cx f.cy=C at *
   rcases h.iso with⟨rfl,rfl,rfl|rfl,rfl|rfl⟩|⟨rfl,rfl,rfl|rfl,rfl|rfl⟩<;>by_cases hC:0<C<;>simp[hC,h0]<;>(try (constructor))<;>(try split)<;>omega
  obtain⟨n,m,hn,hm,k1,k2⟩:=key
  rw[k1,k2,g.inQ hk,<- hn,<- hm]
theorem Mvd.centQ(h:Mvd a b c d x y e e')(g:Mvd a b c d x y f f')(hk:¬e.k=1)(gk:¬f.k=1):centQ e' f'=centQ e f:=by
 have n1:∀u v:Int,-(a*u+b*v)=a * -u+b * -v:=fun u v=>by grind
 have n2:∀u v:Int,-(c*u+d*v)=c * -u+d * -v:=fun u v=>by grind
 unfold Go.Proofs.YtcfpcafnjgpfdaaGreat.centQ
 simp only[h.cx hk,h.cy hk,g.cx gk,g.cy gk,sub_iso,n1,n2,h.inQ hk,g.inQ gk,h.rad hk,g.rad gk,sq_iso h.iso]
theorem Mvd.candQ(h:Mvd a b c d x y e e')(g:Mvd a b c d x y f f'):candQ e' f'=candQ e f:=by
 have hi:innerQ e' f'=innerQ e f:=by
  unfold innerQ
  by_cases k1:e.k=1
  ·by_cases k2 : f.k = 1
   ·simp only[if_pos k1,if_pos k2,if_pos (h.k.2 k1),if_pos (g.k.2 k2)]
   ·simp only[if_pos k1,if_neg k2,if_pos (h.k.2 k1),if_neg (fun t=>k2 (g.k.1 t)),h.footQ g k2]
  ·by_cases k2 : f.k = 1
   ·simp only[if_neg k1,if_pos k2,if_neg (fun t=>k1 (h.k.1 t)),if_pos (g.k.2 k2),g.footQ h k1]
   ·simp only[if_neg k1,if_neg k2,if_neg (fun t=>k1 (h.k.1 t)),if_neg (fun t=>k2 (g.k.1 t)),h.centQ g k1 k2]
 unfold Go.Proofs.YtcfpcafnjgpfdaaGreat.candQ
 rw[hi,h.ax,h.ay,h.bx,h.by',g.ax,g.ay,g.bx,g.by',g.pointQ,g.pointQ,h.pointQ,h.pointQ]
end
def dMadeB:Con where
 f:=5
 g:=fun | [⟨false,[.ds L]⟩]=>some (.one (edV (mad6 L) 3 c26),[])|_=>none
 ok:=by
  intro args res ps h hp
  split at h<;>cases h
  rename_i L
  exact (dMade.ok [⟨false,[.ds L]⟩] _ _ rfl trivial).mono fun W x h=>ed_ok rfl (mad6_ok L) x h
def Sml(e:Ed):Prop:=(-1048576<=e.ax/\e.ax<=1048576)/\(-1048576<=e.ay/\e.ay<=1048576)/\(-1048576<=e.bx/\e.bx<=1048576)/\(-1048576<=e.by'/\e.by'<=1048576)/\(-1048576<=e.cx/\e.cx<=1048576)/\(-1048576<=e.cy/\e.cy<=1048576)
theorem rot_sm(t:Nat){r B:Int}(hr : -B<=r/\r<=B)(hB:0<=B):(-B<=(rot t (r,0)).1/\(rot t (r,0)).1<=B)/\(-B<=(rot t (r,0)).2/\(rot t (r,0)).2<=B):=by
 have H:∀(t:Nat) (p:Int×Int),((-B<=p.1/\p.1<=B)/\(-B<=p.2/\p.2<=B))->((-B<=(rot t p).1/\(rot t p).1<=B)/\(-B<=(rot t p).2/\(rot t p).2<=B)):=by
  intro t p hp
  induction t with
  | zero=>exact hp
  | succ t ih=>simp only[rot];omega
 exact H t (r,0) ⟨hr,by constructor<;>simp only<;>omega⟩
theorem arc_sm{cx cy r t k:Int}(hx : -1000<=cx/\cx<=1000)(hy : -1000<=cy/\cy<=1000)(hr : -1000<=r/\r<=1000):Sml (arc6 cx cy r t k):=by
 have A:∀t,(-1000<=(applyQ 0 0 t false r 0).1/\(applyQ 0 0 t false r 0).1<=1000)/\(-1000<=(applyQ 0 0 t false r 0).2/\(applyQ 0 0 t false r 0).2<=1000):=fun t=>by
  rw[aq_rot];exact rot_sm _ hr (by decide)
 have a1:=A t
 have a2:=A (t+if k=3 then 3 else 1)
 unfold Sml arc6
 simp only
 omega
theorem mad6_sm(L:List Int):Sml (mad6 L):=by
 have b1:=nV_bd L 1 (m:=201) (by omega)
 have b2:=nV_bd L 2 (m:=201) (by omega)
 have b3:=nV_bd L 3 (m:=201) (by omega)
 have b4:=nV_bd L 4 (m:=201) (by omega)
 have c3:=nV_bd L 3 (m:=41) (by omega)
 unfold mad6
 simp only
 split
 ·unfold Sml;simp only;omega
 split
 ·unfold Sml;simp only;omega
 split
 ·unfold Sml;simp only;omega
 split
 ·have d5 := nV_bd L 5 (m := 90) (by omega)
  exact arc_sm (by omega) (by omega) (by omega)
 ·have d3 := nV_bd L 3 (m := 5) (by omega)
  refine arc_sm (by omega) (by omega) ?_
  obtain⟨n,hn⟩:∃n:Nat,nV L 3 5=n:=⟨(nV L 3 5).toNat,by omega⟩
  rw[hn] at d3 ⊢
  obtain rfl|rfl|rfl|rfl|rfl:n=0\/n=1\/n=2\/n=3\/n=4:=by omega
  all_goals decide

set_option maxRecDepth 100000
section
noncomputable abbrev fOn:FuncId:=8
def onX(e:Ed)(k:Int):Int:=e.ax+((e.bx-e.ax)*k).tdiv 60
def onY(e:Ed)(k:Int):Int:=e.ay+((e.by'-e.ay)*k).tdiv 60
def eW(e:Ed):List It:=(edV e 3 c26).l
def ptW(x y:Int):List It:=[.i x c26,.i y c26]
def dE(e:Ed)(k:Int):Ds:=⟨[(1,.eq (fpW (eW e))),(4,.eq (inV k 61))],[]⟩
def dE5(e:Ed)(k:Int):Ds:=⟨[(1,.eq (fpW (eW e))),(5,.eq ⟨false,[.p 0 0]⟩)],[some ⟨25,ptW (onX e k) (onY e k)⟩]⟩
def dE6(e:Ed)(k:Int):Ds:=⟨[(5,.eq ⟨false,[.p 0 0]⟩),(51,.eq (blV (onE e (onX e k) (onY e k))))],[some ⟨25,ptW (onX e k) (onY e k)⟩]⟩
theorem tdiv60{x a k:Int}(hx:x.natAbs<=a.toNat)(h0:0<=a)(hk:0<=k/\k<=60):((x*k).tdiv 60).natAbs<=a.toNat:=by
 rw[Int.natAbs_tdiv,Int.natAbs_mul]
 have h1:k.natAbs<=60:=by omega
 have h2:x.natAbs*k.natAbs<=a.toNat*60:=Nat.mul_le_mul hx h1
 calc x.natAbs*k.natAbs/(60:Int).natAbs<=(a.toNat*60)/60:=Nat.div_le_div_right h2
  _=a.toNat:=by simp
theorem on_bd{e:Ed}(h:Sml e){k:Int}(hk:0<=k/\k<=60):(onX e k).natAbs<=c26/\(onY e k).natAbs<=c26:=by
 obtain⟨h1,h2,h3,h4,_,_⟩:=h
 have a:=tdiv60 (x:=e.bx-e.ax) (a:=2097152) (by omega) (by decide) hk
 have b:=tdiv60 (x:=e.by'-e.ay) (a:=2097152) (by omega) (by decide) hk
 unfold onX onY
 have:c26=67108864:=rfl
 omega
theorem jdf{V W:World}{s:St}{a:Act}{D:List Deferred}(h:JJ V s a W):JJ V s (dfA [] (dfA D a)) W:=by
 obtain⟨r,cm,⟨hM,_⟩,hT⟩:=h
 exact⟨r,cm,⟨hM,rfl⟩,hT⟩
theorem n60:(60:Int)≠0:=by decide
theorem on_r5(e:Ed)(k:Int)(he:e.ok=true)(hs:Sml e)(hk:0<=k/\k<=60){id5 id6:Nat}(a:Act)(W:World)(b1:Nat)(Q:Exit->Act->World->Prop)(hsz:a.tmps.size=116)(h1:a.tmps.getD 1 undef=ptrW b1)(h4:a.tmps.getD 4 undef=.int .i64 k)(f1:FqAt W b1 (eW e))
  (hQ:∀a' W' b5,a'.tmps.size=116->a'.defers=a.defers->(∀t,offT (opR fOn 5++opR fOn 6) t=true->a'.tmps.getD t undef=a.tmps.getD t undef)->Ext W W'->a'.tmps.getD 51 undef=.bool (onE e (onX e k) (onY e k))->a'.tmps.getD 5 undef=ptrW b5->FqAt W' b5 (ptW (onX e k) (onY e k))->Q .normal a' W') :
  (Code.region id5 (opR fOn 5).toArray false).wp Tryz.prog (fun x a' W'=>x=.normal/\(Code.region id6 (opR fOn 6).toArray false).wp Tryz.prog Q a' W') a W:=by
 obtain⟨c1,c2⟩:=on_bd hs hk
 refine regS_wp ?_
 refine runS_ok (X:=[]) (K:=[]) (n:=116) (d:=dE e k) (d':=dE5 e k) (q:=[]) [pP n60,pP n60,⟨fpW (eW e)=fpW (eW e),rfl⟩,⟨(⟨false,[.p 0 0]⟩:V1)=⟨false,[.p 0 0]⟩,rfl⟩,⟨onX e k=onX e k/\(onX e k).natAbs<=c26,rfl,c1⟩,⟨onY e k=onY e k/\(onY e k).natAbs<=c26,rfl,c2⟩] (by kernel_rfl) (old_J hsz fun z hz=>?_) fun a1 W1 hJ1 ho1=>⟨rfl,?_⟩
 ·simp only [dE, List.mem_cons, List.not_mem_nil, or_false] at hz
  rcases hz with rfl|rfl
  ·rw[h1];exact f1.rv
  ·rw[h4];exact rv_i.2 ⟨⟨by omega,by unfold I64;omega⟩,rfl⟩
 ·refine regS_wp ?_
  refine runS_ok (X:=[]) (K:=[cOn]) (n:=116) (d:=dE5 e k) (d':=dE6 e k) (q:=[]) [pP he,⟨(⟨false,[.p 0 0]⟩:V1)=⟨false,[.p 0 0]⟩,rfl⟩,⟨blV (onE e (onX e k) (onY e k))=blV (onE e (onX e k) (onY e k)),rfl⟩,⟨onX e k=onX e k,rfl⟩,⟨onY e k=onY e k,rfl⟩] (by kernel_rfl) (jdf hJ1) fun a2 W2 hJ2 ho2=>?_
  obtain⟨k1,k2,r,k3,k4⟩:=blkW hJ2
  refine hQ _ W2 (r 0) k2 rfl (fun t ht=>?_) k1 ?_ ?_ (k4 0 _ rfl (by kernel_rfl)).1
  ·obtain⟨o1,o2⟩:offT (opR fOn 5) t=true/\offT (opR fOn 6) t=true:=by
    unfold offT at ht ⊢
    rwa [List.all_append,Bool.and_eq_true] at ht
   exact (ho2 t o2).trans (ho1 t o1)
  ·exact (rv_v.1 (k3 51 (blV (onE e (onX e k) (onY e k))) (by kernel_rfl))).2
  ·exact (List.cons.inj (k3 5 ⟨false,[.p 0 0]⟩ (by kernel_rfl)).scal.2).1
end

set_option maxRecDepth 100000
section
theorem FqAt.lim{W:World}{b:Nat}{x y:Int}(h:FqAt W b ((ptW x y).map unO)):FqAt W b [.i x Go.Proofs.YtcfpcafnjgpfdaaGreat.lim,.i y Go.Proofs.YtcfpcafnjgpfdaaGreat.lim]:=by
 obtain⟨h0,c,d,T,h1,c1,d1,rfl,⟨k1,k2,k3⟩,c2,d2,rfl,⟨k4,k5,k6⟩,rfl⟩:=h
 exact⟨h0,_,d,T,h1,c1,_,rfl,⟨k1,lim64 k3⟩,c2,_,rfl,⟨k4,lim64 k6⟩,rfl⟩
def dA7(s:Nat)(x y:Int):Ds:=⟨[(s,.eq (fpW (ptW x y)))],[]⟩
def dB7(s:Nat)(x y:Int):Ds:=⟨[(s,.eq ⟨false,[.sl 0 1 2]⟩)],[some ⟨25,ptW x y⟩]⟩
theorem app_7(id:Nat)(x y:Int)(a:Act)(W:World)(B b5:Nat)(p:Option Addr)(n c:Nat)(L:List (Int×Int))(Q:Exit->Act->World->Prop)(hsz:a.tmps.size=116)(h3:a.tmps.getD 3 undef=.slice p n c)(h5:a.tmps.getD 5 undef=ptrW b5)(f5:FqAt W b5 (ptW x y))(hn:n<=1000)(hO:OwnP W B p n c L)(hB:B<=W.heap.size)
  (hQ:∀a' W1 W' g' c',a'.tmps.size=116->a'.defers=a.defers->(∀t,offT (opR fOn 7) t=true->a'.tmps.getD t undef=a.tmps.getD t undef)->Ext W W1->W1.grownBy W' (blkP p)->(blkP p=some g'\/g'=W1.heap.size)->a'.tmps.getD 3 undef=.slice (some ⟨g',0,none⟩) (n+1) c'->OwnP W' B (some ⟨g',0,none⟩) (n+1) c' (L++[(x,y)])->Q .normal a' W') :
  (Code.region id (opR fOn 7).toArray false).wp Tryz.prog Q a W:=by
 refine regS_wp ?_
 have es:opR fOn 7=opO fOn 7 0::([opO fOn 7 1,opO fOn 7 2]++[opO fOn 7 3,opO fOn 7 4]):=by kernel_rfl
 have q0:(opO fOn 7 0).dst=some 52:=by kernel_rfl
 have q3:(opO fOn 7 3).dst=some 55:=by kernel_rfl
 have q4:(opO fOn 7 4).dst=some 3:=by kernel_rfl
 have go:WpS Tryz.prog (opR fOn 7).toArray (fun a w=>Q .normal a w) (opO fOn 7 0::([opO fOn 7 1,opO fOn 7 2]++[opO fOn 7 3,opO fOn 7 4])) a W:=by
  have off:∀t,offT (opR fOn 7) t=true->t≠52/\t≠55/\t≠3/\offT [opO fOn 7 1,opO fOn 7 2] t=true:=fun t ht=>by
   rw[es] at ht
   unfold offT at ht ⊢
   simp only[List.all_cons,List.all_nil,List.all_append,Bool.and_eq_true,Bool.and_true,q0,q3,q4] at ht ⊢
   obtain⟨t0,t1,t3,t4⟩:=ht
   refine⟨?_,?_,?_,t1⟩<;>intro e<;>subst e<;>simp_all
  refine wpS_val (x:=.slice p n c) (W:=W) (by kernel_rfl) ?_ ?_
  ·have e : (opO fOn 7 0).op = .move (.tmp 3) := by kernel_rfl
   unfold execOp
   simp only[e]
   rw[show a.eval (.tmp 3)=a.tmps.getD 3 undef from rfl,h3]
   rfl
  rw[q0]
  refine wpS_app ?_
  refine runS_ok (X:=[]) (K:=[]) (n:=116) (d:=dA7 5 x y) (d':=dB7 54 x y) (q:=[]) [⟨(⟨false,[.sl 0 1 2]⟩:V1)=⟨false,[.sl 0 1 2]⟩,rfl⟩,⟨x=x,rfl⟩,⟨y=y,rfl⟩] (by kernel_rfl) (old_J (a:=a.put (some 52) (.slice p n c)) (by simp[Act.put,hsz]) fun z hz=>?_) fun a1 W1 hJ1 ho1=>?_
  ·simp only [dA7, List.mem_cons, List.not_mem_nil, or_false] at hz
   subst hz
   rw[show (a.put (some 52) (.slice p n c)).tmps.getD 5 undef=a.tmps.getD 5 undef from put_off (o:=opO fOn 7 0) (by kernel_rfl)]
   rw[h5];exact f5.rv
  ·obtain ⟨k1, k2, r, k3, k4⟩ := blkW hJ1
   obtain⟨cs,e1,e2,e3⟩:=k3 54 ⟨false,[.sl 0 1 2]⟩ (by kernel_rfl)
   obtain⟨c1,d1,rfl,⟨_,cc,xs,T,rfl,_⟩,rfl⟩:=e1
   have h54:a1.tmps.getD 54 undef=.slice (some ⟨r 0,0,none⟩) 1 cc:=e2
   have h52:a1.tmps.getD 52 undef=.slice p n c:=by
    rw[ho1 52 (by kernel_rfl)]
    simp[Act.put,hsz]
   refine wpS_appendP (.tmp 52) (.tmp 54) B p n c L (r 0) cc x y (by kernel_rfl) (by kernel_rfl) h52 h54 hn (hO.ext k1) (k4 0 _ rfl (by kernel_rfl)).1.lim (Nat.le_trans hB k1.size) fun g' c' W' o1 o2 o3=>?_
   rw[q3]
   refine wpS_val (x:=.slice (some ⟨g',0,none⟩) (n+1) c') (W:=W') (by kernel_rfl) ?_ ?_
   ·have e : (opO fOn 7 4).op = .assign (.tmp 55) := by kernel_rfl
    unfold execOp
    simp only[e]
    have e55:∀D v,((dfA D a1).put (some 55) v).eval (.tmp 55)=v:=fun D v=>by simp[Act.eval,Act.put,dfA,k2]
    rw[e55]
    rfl
   rw[q4]
   refine hQ _ W1 W' g' c' (by simp[Act.put,dfA,k2]) rfl (fun t ht=>?_) k1 o2 o3 (by simp[Act.put,dfA,k2]) o1
   obtain⟨t1,t2,t3,t4⟩:=off t ht
   have:=ho1 t t4
   simp[Act.put,dfA,Array.getElem?_setIfInBounds,Ne.symm t1,Ne.symm t2,Ne.symm t3] at this ⊢
   exact this
 rw[show WpS Tryz.prog (opR fOn 7).toArray (fun a w=>Q .normal a w) (opR fOn 7) a W=WpS Tryz.prog (opR fOn 7).toArray (fun a w=>Q .normal a w) (opO fOn 7 0::([opO fOn 7 1,opO fOn 7 2]++[opO fOn 7 3,opO fOn 7 4])) a W by rw[<- es]]
 exact go
theorem app_17(id:Nat)(x y:Int)(a:Act)(W:World)(B b5:Nat)(p:Option Addr)(n c:Nat)(L:List (Int×Int))(Q:Exit->Act->World->Prop)(hsz:a.tmps.size=116)(h3:a.tmps.getD 3 undef=.slice p n c)(h5:a.tmps.getD 10 undef=ptrW b5)(f5:FqAt W b5 (ptW x y))(hn:n<=1000)(hO:OwnP W B p n c L)(hB:B<=W.heap.size)
  (hQ:∀a' W1 W' g' c',a'.tmps.size=116->a'.defers=a.defers->(∀t,offT (opR fOn 17) t=true->a'.tmps.getD t undef=a.tmps.getD t undef)->Ext W W1->W1.grownBy W' (blkP p)->(blkP p=some g'\/g'=W1.heap.size)->a'.tmps.getD 3 undef=.slice (some ⟨g',0,none⟩) (n+1) c'->OwnP W' B (some ⟨g',0,none⟩) (n+1) c' (L++[(x,y)])->Q .normal a' W') :
  (Code.region id (opR fOn 17).toArray false).wp Tryz.prog Q a W:=by
 refine regS_wp ?_
 have es:opR fOn 17=opO fOn 17 0::([opO fOn 17 1,opO fOn 17 2]++[opO fOn 17 3,opO fOn 17 4]):=by kernel_rfl
 have q0:(opO fOn 17 0).dst=some 111:=by kernel_rfl
 have q3:(opO fOn 17 3).dst=some 114:=by kernel_rfl
 have q4:(opO fOn 17 4).dst=some 3:=by kernel_rfl
 have go:WpS Tryz.prog (opR fOn 17).toArray (fun a w=>Q .normal a w) (opO fOn 17 0::([opO fOn 17 1,opO fOn 17 2]++[opO fOn 17 3,opO fOn 17 4])) a W:=by
  have off:∀t,offT (opR fOn 17) t=true->t≠111/\t≠114/\t≠3/\offT [opO fOn 17 1,opO fOn 17 2] t=true:=fun t ht=>by
   rw[es] at ht
   unfold offT at ht ⊢
   simp only[List.all_cons,List.all_nil,List.all_append,Bool.and_eq_true,Bool.and_true,q0,q3,q4] at ht ⊢
   obtain⟨t0,t1,t3,t4⟩:=ht
   refine⟨?_,?_,?_,t1⟩<;>intro e<;>subst e<;>simp_all
  refine wpS_val (x:=.slice p n c) (W:=W) (by kernel_rfl) ?_ ?_
  ·have e : (opO fOn 17 0).op = .move (.tmp 3) := by kernel_rfl
   unfold execOp
   simp only[e]
   rw[show a.eval (.tmp 3)=a.tmps.getD 3 undef from rfl,h3]
   rfl
  rw[q0]
  refine wpS_app ?_
  refine runS_ok (X:=[]) (K:=[]) (n:=116) (d:=dA7 10 x y) (d':=dB7 113 x y) (q:=[]) [⟨(⟨false,[.sl 0 1 2]⟩:V1)=⟨false,[.sl 0 1 2]⟩,rfl⟩,⟨x=x,rfl⟩,⟨y=y,rfl⟩] (by kernel_rfl) (old_J (a:=a.put (some 111) (.slice p n c)) (by simp[Act.put,hsz]) fun z hz=>?_) fun a1 W1 hJ1 ho1=>?_
  ·simp only [dA7, List.mem_cons, List.not_mem_nil, or_false] at hz
   subst hz
   rw[show (a.put (some 111) (.slice p n c)).tmps.getD 10 undef=a.tmps.getD 10 undef from put_off (o:=opO fOn 17 0) (by kernel_rfl)]
   rw[h5];exact f5.rv
  ·obtain ⟨k1, k2, r, k3, k4⟩ := blkW hJ1
   obtain⟨cs,e1,e2,e3⟩:=k3 113 ⟨false,[.sl 0 1 2]⟩ (by kernel_rfl)
   obtain⟨c1,d1,rfl,⟨_,cc,xs,T,rfl,_⟩,rfl⟩:=e1
   have h54:a1.tmps.getD 113 undef=.slice (some ⟨r 0,0,none⟩) 1 cc:=e2
   have h52:a1.tmps.getD 111 undef=.slice p n c:=by
    rw[ho1 111 (by kernel_rfl)]
    simp[Act.put,hsz]
   refine wpS_appendP (.tmp 111) (.tmp 113) B p n c L (r 0) cc x y (by kernel_rfl) (by kernel_rfl) h52 h54 hn (hO.ext k1) (k4 0 _ rfl (by kernel_rfl)).1.lim (Nat.le_trans hB k1.size) fun g' c' W' o1 o2 o3=>?_
   rw[q3]
   refine wpS_val (x:=.slice (some ⟨g',0,none⟩) (n+1) c') (W:=W') (by kernel_rfl) ?_ ?_
   ·have e : (opO fOn 17 4).op = .assign (.tmp 114) := by kernel_rfl
    unfold execOp
    simp only[e]
    have e55:∀D v,((dfA D a1).put (some 114) v).eval (.tmp 114)=v:=fun D v=>by simp[Act.eval,Act.put,dfA,k2]
    rw[e55]
    rfl
   rw[q4]
   refine hQ _ W1 W' g' c' (by simp[Act.put,dfA,k2]) rfl (fun t ht=>?_) k1 o2 o3 (by simp[Act.put,dfA,k2]) o1
   obtain⟨t1,t2,t3,t4⟩:=off t ht
   have:=ho1 t t4
   simp[Act.put,dfA,Array.getElem?_setIfInBounds,Ne.symm t1,Ne.symm t2,Ne.symm t3] at this ⊢
   exact this
 rw[show WpS Tryz.prog (opR fOn 17).toArray (fun a w=>Q .normal a w) (opR fOn 17) a W=WpS Tryz.prog (opR fOn 17).toArray (fun a w=>Q .normal a w) (opO fOn 17 0::([opO fOn 17 1,opO fOn 17 2]++[opO fOn 17 3,opO fOn 17 4])) a W by rw[<- es]]
 exact go
end

set_option maxRecDepth 100000
section
def isI:It->Bool
 | .i _ _=>true
 | _=>false
theorem isI_rep{W W':World}:∀ {l:List It} {cs:List Value},l.all isI=true->RepF W l cs->RepF W' l cs
 | [],_,_,e=>e
 | i::l,_,h,⟨c,d,e,h1,h2⟩=>by
  simp only[List.all_cons,Bool.and_eq_true] at h
  refine⟨c,d,e,?_,isI_rep h.2 h2⟩
  cases i with
  | i z B=>exact h1
  | _=>cases h.1
def Held(a:Act)(W:World)(p:Option Addr)(H:List (Nat×Nat×List It)):Prop:=∀x∈H,a.tmps.getD x.1 undef=ptrW x.2.1/\FqAt W x.2.1 x.2.2/\blkP p≠some x.2.1/\x.2.2.all isI=true
structure InvP (e:Ed) (w0:World) (s C:Nat) (H:List (Nat×Nat×List It)) (U:List (Nat×Value)) (k:Nat) (a:Act) (W:World):Prop where
 sz:a.tmps.size=116
 df:a.defers=[]
 cnt:a.tmps.getD s undef=.int .i64 (k:Int)
 ext:Ext w0 W
 vals:∀x∈U,a.tmps.getD x.1 undef=x.2
 row:∃p n c L,a.tmps.getD 3 undef=.slice p n c/\OwnP W w0.heap.size p n c L/\n<=C+k/\2<=n/\(∀q∈L,onE e q.1 q.2=true)/\Held a W p H
theorem Held.step{a a':Act}{W W':World}{p:Option Addr}{H:List (Nat×Nat×List It)}(h:Held a W p H)(ht:∀x∈H,a'.tmps.getD x.1 undef=a.tmps.getD x.1 undef)(hx:Ext W W'):Held a' W' p H:=fun x hx'=>⟨(ht x hx').trans (h x hx').1,(h x hx').2.1.ext hx,(h x hx').2.2⟩
theorem Held.grow{a a':Act}{W W1 W':World}{p:Option Addr}{g':Nat}{H:List (Nat×Nat×List It)}(h:Held a W p H)(ht:∀x∈H,a'.tmps.getD x.1 undef=a.tmps.getD x.1 undef)(hx:Ext W W1)(hg:W1.grownBy W' (blkP p))(hb:blkP p=some g'\/g'=W1.heap.size):Held a' W' (some ⟨g',0,none⟩) H:=fun x hx'=>by
 obtain⟨h1,h2,h3,h7⟩:=h x hx'
 obtain⟨h4,c,d,T,h5,h6⟩:=h2.ext hx
 refine⟨(ht x hx').trans h1,⟨Nat.lt_of_lt_of_le h4 hg.size,c,d,T,?_,?_⟩,?_,h7⟩
 ·rw[hg.block _ h4 (fun q=>h3 q.symm)];exact h5
 ·exact isI_rep h7 h6
 ·intro q
  have q:g'=x.2.1:=by simpa[blkP] using q
  rcases hb with hb|hb
  ·exact h3 (by rw[hb,q])
  ·omega
theorem InvP.step{e:Ed}{w0:World}{s C:Nat}{H:List (Nat×Nat×List It)}{U:List (Nat×Value)}{k:Nat}{a a':Act}{W W':World}(h:InvP e w0 s C H U k a W)(off:Nat->Bool)(hs:a'.tmps.size=116)(hd:a'.defers=[])(ht:∀t,off t=true->a'.tmps.getD t undef=a.tmps.getD t undef)(h0:off s=true)(h3:off 3=true)(hH:∀x∈H,off x.1=true)(hU:∀x∈U,off x.1=true)(hx:Ext W W'):InvP e w0 s C H U k a' W':=by
 obtain⟨p,n,c,L,r1,r2,r3,r4,r5,r6⟩:=h.row
 exact⟨hs,hd,(ht s h0).trans h.cnt,Ext.step h.ext hx,fun x hx'=>(ht _ (hU x hx')).trans (h.vals x hx'),p,n,c,L,(ht 3 h3).trans r1,r2.ext hx,r3,r4,r5,r6.step (fun x hx'=>ht _ (hH x hx')) hx⟩
noncomputable def c1:Code:=.seq (.seq (.region 3 (opR fOn 3).toArray false) (.cond (.tmp 17) .skip (.exit 0))) (.seq (.block 1 (.seq (.region 5 (opR fOn 5).toArray false) (.seq (.region 6 (opR fOn 6).toArray false) (.cond (.tmp 51) (.region 7 (opR fOn 7).toArray false) .skip)))) (.region 4 (opR fOn 4).toArray false))
theorem on_r3(k:Nat)(hk:k<=61)(a:Act)(W:World)(Q:Exit->Act->World->Prop)(hsz:a.tmps.size=116)(h4:a.tmps.getD 4 undef=.int .i64 (k:Int))
  (hQ:∀a' W',a'.tmps.size=116->a'.defers=a.defers->(∀t,offT (opR fOn 3) t=true->a'.tmps.getD t undef=a.tmps.getD t undef)->Ext W W'->a'.tmps.getD 17 undef=.bool (decide ((k:Int)<=60))->Q .normal a' W'):(Code.region 3 (opR fOn 3).toArray false).wp Tryz.prog Q a W:=by
 refine regS_wp ?_
 refine runS_ok (X:=[]) (K:=[]) (n:=116) (d:=⟨[(4,.eq (inV (k:Int) 61))],[]⟩) (d':=⟨[(17,.eq (blV (decide ((k:Int)<=60))))],[]⟩) (q:=[]) [⟨blV (decide ((k:Int)<=60))=blV (decide ((k:Int)<=60)),rfl⟩] (by kernel_rfl) (old_J hsz fun z hz=>?_) fun a1 W1 hJ1 ho1=>?_
 ·simp only [List.mem_cons, List.not_mem_nil, or_false] at hz
  subst hz
  rw[h4];exact rv_i.2 ⟨⟨by omega,by unfold I64;omega⟩,rfl⟩
 ·obtain ⟨k1, k2, r, k3, k4⟩ := blkW hJ1
  exact hQ _ W1 k2 rfl ho1 k1 (rv_v.1 (k3 17 (blV (decide ((k:Int)<=60))) (by kernel_rfl))).2
theorem on_r4(k:Nat)(hk:k<=60)(a:Act)(W:World)(Q:Exit->Act->World->Prop)(hsz:a.tmps.size=116)(h4:a.tmps.getD 4 undef=.int .i64 (k:Int))
  (hQ:∀a' W',a'.tmps.size=116->a'.defers=a.defers->(∀t,offT (opR fOn 4) t=true->a'.tmps.getD t undef=a.tmps.getD t undef)->Ext W W'->a'.tmps.getD 4 undef=.int .i64 ((k+1:Nat):Int)->Q .normal a' W'):(Code.region 4 (opR fOn 4).toArray false).wp Tryz.prog Q a W:=by
 refine regS_wp ?_
 refine runS_ok (X:=[]) (K:=[]) (n:=116) (d:=⟨[(4,.eq (inV (k:Int) 61))],[]⟩) (d':=⟨[(4,.eq (inV ((k:Int)+1) 62))],[]⟩) (q:=[]) [⟨inV ((k:Int)+1) 62=inV ((k:Int)+1) 62,rfl⟩] (by kernel_rfl) (old_J hsz fun z hz=>?_) fun a1 W1 hJ1 ho1=>?_
 ·simp only [List.mem_cons, List.not_mem_nil, or_false] at hz
  subst hz
  rw[h4];exact rv_i.2 ⟨⟨by omega,by unfold I64;omega⟩,rfl⟩
 ·obtain ⟨k1, k2, r, k3, k4⟩ := blkW hJ1
  exact hQ _ W1 k2 rfl ho1 k1 (by rw[show (((k+1:Nat)):Int)=(k:Int)+1 by omega];exact (rv_i.1 (k3 4 (inV ((k:Int)+1) 62) (by kernel_rfl))).2)
theorem rnd_1(e:Ed)(he:e.ok=true)(hs:Sml e)(w0:World)(b1:Nat)(k:Nat)(hk:k<=61)(Q:Exit->Act->World->Prop)(a:Act)(W:World)(h:InvP e w0 4 2 [(1,b1,eW e)] [] k a W)
  (h1:k<=60->∀a' W',InvP e w0 4 2 [(1,b1,eW e)] [] (k+1) a' W'->Q .normal a' W') (h2:k=61->∀a' W',InvP e w0 4 2 [(1,b1,eW e)] [] 61 a' W'->Q (.exit 0) a' W'):c1.wp Tryz.prog Q a W:=by
 unfold c1
 refine wp_seq (wp_seq (on_r3 k hk a W _ h.sz h.cnt fun a1 W1 s1 d1 o1 x1 t17=>?_))
 have I1:InvP e w0 4 2 [(1,b1,eW e)] [] k a1 W1:=h.step (offT (opR fOn 3)) s1 (d1.trans h.df) o1 (by kernel_rfl) (by kernel_rfl) (fun x hx=>by rw[List.mem_singleton.1 hx];kernel_rfl) (fun x hx=>nomatch hx) x1
 by_cases hle:k<=60
 ·refine wp_cond_true (show a1.eval (.tmp 17) = .bool true by rw [show a1.eval (.tmp 17) = a1.tmps.getD 17 undef from rfl, t17]; simp; omega) (wp_skip ?_)
  refine wp_seq (wp_block (wp_seq ?_))
  obtain⟨p,n,c,L,r1,r2,r3,r4,r5,r6⟩:=I1.row
  obtain⟨q1,q2,q3,_⟩:=r6 _ (List.mem_singleton.2 rfl)
  have hO:=on_r5 e (k:Int) he hs (by omega) (id5:=5) (id6:=6) a1 W1 b1 (Exit.then ((Code.cond (.tmp 51) (.region 7 (opR fOn 7).toArray false) .skip).wp Tryz.prog (Exit.inBlock 1 (Exit.then ((Code.region 4 (opR fOn 4).toArray false).wp Tryz.prog Q) Q))) (Exit.inBlock 1 (Exit.then ((Code.region 4 (opR fOn 4).toArray false).wp Tryz.prog Q) Q))) I1.sz q1 I1.cnt q2 fun a2 W2 b5 s2 d2 o2 x2 t51 t5 f5=>?_
  ·refine wp_mono hO ?_
   rintro x a' W' ⟨rfl,hx⟩
   exact wp_seq hx
  ·have I2 : InvP e w0 4 2 [(1, b1, eW e)] [] k a2 W2 := I1.step (offT (opR fOn 5 ++ opR fOn 6)) s2 (d2.trans I1.df) o2 (by kernel_rfl) (by kernel_rfl) (fun x hx => by rw [List.mem_singleton.1 hx]; kernel_rfl) (fun x hx => nomatch hx) x2
   have fin:∀a3 W3,InvP e w0 4 3 [(1,b1,eW e)] [] k a3 W3->(Code.region 4 (opR fOn 4).toArray false).wp Tryz.prog Q a3 W3:=fun a3 W3 I3=>by
    refine on_r4 k hle a3 W3 Q I3.sz I3.cnt fun a4 W4 s4 d4 o4 x4 t4=>h1 hle a4 W4 ?_
    obtain⟨p,n,c,L,r1,r2,r3,r4,r5,r6⟩:=I3.row
    exact⟨s4,d4.trans I3.df,t4,Ext.step I3.ext x4,(fun x hx=>nomatch hx),p,n,c,L,(o4 3 (by kernel_rfl)).trans r1,r2.ext x4,by omega,r4,r5,r6.step (fun x hx=>by rw[List.mem_singleton.1 hx];exact o4 1 (by kernel_rfl)) x4⟩
   cases hb:onE e (onX e k) (onY e k) with
   | true =>
    refine wp_cond_true (show a2.eval (.tmp 51)=.bool true by rw[show a2.eval (.tmp 51)=a2.tmps.getD 51 undef from rfl,t51,hb]) ?_
    obtain⟨p,n,c,L,r1,r2,r3,r4,r5,r6⟩:=I2.row
    refine app_7 7 _ _ a2 W2 w0.heap.size b5 p n c L _ I2.sz r1 t5 f5 (by omega) r2 I2.ext.size fun a3 W3 W4 g' c' s3 d3 o3 x3 g3 b3 t3 w3=>?_
    refine fin a3 W4 ⟨s3,d3.trans I2.df,(o3 4 (by kernel_rfl)).trans I2.cnt,?_,(fun x hx=>nomatch hx),_,_,_,_,t3,w3,by omega,by omega,?_,r6.grow (fun x hx=>by rw[List.mem_singleton.1 hx];exact o3 1 (by kernel_rfl)) x3 g3 b3⟩
    ·have e3 := Ext.step I2.ext x3
     exact⟨g3.os.trans e3.os,g3.tape.trans e3.tape,g3.output.trans e3.output,Nat.le_trans e3.size g3.size,fun j hj=>(g3.block j (Nat.lt_of_lt_of_le hj e3.size) (fun q=>by have:=(r2.lt j q.symm).1;omega)).trans (e3.block j hj)⟩
    ·intro q hq
     rcases List.mem_append.1 hq with hq|hq
     ·exact r5 q hq
     ·rw[List.mem_singleton.1 hq];exact hb
   | false =>
    refine wp_cond_false (show a2.eval (.tmp 51)=.bool false by rw[show a2.eval (.tmp 51)=a2.tmps.getD 51 undef from rfl,t51,hb]) (wp_skip ?_)
    obtain⟨p,n,c,L,r1,r2,r3,r4,r5,r6⟩:=I2.row
    exact fin a2 W2 ⟨I2.sz,I2.df,I2.cnt,I2.ext,I2.vals,p,n,c,L,r1,r2,by omega,r4,r5,r6⟩
 ·refine wp_cond_false (show a1.eval (.tmp 17) = .bool false by rw [show a1.eval (.tmp 17) = a1.tmps.getD 17 undef from rfl, t17]; simp; omega) (wp_exit ?_)
  obtain rfl:k=61:=by omega
  exact h2 rfl a1 W1 I1
theorem loop_1(e:Ed)(he:e.ok=true)(hs:Sml e)(w0:World)(b1:Nat)(Q:Exit->Act->World->Prop)(a:Act)(W:World)(h:InvP e w0 4 2 [(1,b1,eW e)] [] 0 a W)
  (hQ:∀a' W',InvP e w0 4 2 [(1,b1,eW e)] [] 61 a' W'->Q (.exit 0) a' W'):(Code.loop c1).wp Tryz.prog Q a W:=by
 refine wp_loop_ghost (fun m a W=>∃k,k+m=61/\InvP e w0 4 2 [(1,b1,eW e)] [] k a W) 61 ⟨0,by omega,h⟩ ?_
 rintro m a W ⟨k,hk,I⟩
 refine rnd_1 e he hs w0 b1 k (by omega) _ a W I (fun hle a' W' I'=>⟨m-1,by omega,k+1,by omega,I'⟩) (fun hke a' W' I'=>hQ a' W' I')
end

set_option maxRecDepth 100000
section
def vA:List It:=[.i 3 24,.i 4 24,.i 4 24,.i 3 24,.i 5 24,.i 12 24,.i 12 24,.i 5 24,.i 8 24,.i 15 24,.i 15 24,.i 8 24,.i 7 24,.i 24 24,.i 24 24,.i 7 24]
def hA:List It:=[.i 5 25,.i 5 25,.i 13 25,.i 13 25,.i 17 25,.i 17 25,.i 25 25,.i 25 25]
def eqI(l:List Int):List Pf:=l.map fun z=>⟨z=z,rfl⟩
theorem on_r8(a:Act)(W:World)(Q:Exit->Act->World->Prop)(hsz:a.tmps.size=116)
  (hQ:∀a' W' b6,a'.tmps.size=116->a'.defers=a.defers->(∀t,offT (opR fOn 8) t=true->a'.tmps.getD t undef=a.tmps.getD t undef)->Ext W W'->a'.tmps.getD 6 undef=ptrW b6->FqAt W' b6 vA->W.heap.size<=b6->Q .normal a' W'):(Code.region 8 (opR fOn 8).toArray false).wp Tryz.prog Q a W:=by
 refine regS_wp ?_
 refine runS_ok (X:=[]) (K:=[]) (n:=116) (d:=⟨[],[]⟩) (d':=⟨[(6,.eq ⟨false,[.p 0 0]⟩)],[some ⟨67,vA⟩]⟩) (q:=[]) (⟨(⟨false,[.p 0 0]⟩:V1)=⟨false,[.p 0 0]⟩,rfl⟩::eqI [3,4,4,3,5,12,12,5,8,15,15,8,7,24,24,7]) (by kernel_rfl) (old_J hsz fun z hz=>nomatch hz) fun a1 W1 hJ1 ho1=>?_
 obtain⟨k1,k2,r,k3,k4⟩:=blkW hJ1
 exact hQ _ W1 (r 0) k2 rfl ho1 k1 (List.cons.inj (k3 6 ⟨false,[.p 0 0]⟩ (by kernel_rfl)).scal.2).1 (k4 0 _ rfl (by kernel_rfl)).1 (k4 0 _ rfl (by kernel_rfl)).2
theorem on_r9(a:Act)(W:World)(Q:Exit->Act->World->Prop)(hsz:a.tmps.size=116)
  (hQ:∀a' W' b7,a'.tmps.size=116->a'.defers=a.defers->(∀t,offT (opR fOn 9) t=true->a'.tmps.getD t undef=a.tmps.getD t undef)->Ext W W'->a'.tmps.getD 7 undef=ptrW b7->FqAt W' b7 hA->W.heap.size<=b7->Q .normal a' W'):(Code.region 9 (opR fOn 9).toArray false).wp Tryz.prog Q a W:=by
 refine regS_wp ?_
 refine runS_ok (X:=[]) (K:=[]) (n:=116) (d:=⟨[],[]⟩) (d':=⟨[(7,.eq ⟨false,[.p 0 0]⟩)],[some ⟨68,hA⟩]⟩) (q:=[]) (⟨(⟨false,[.p 0 0]⟩:V1)=⟨false,[.p 0 0]⟩,rfl⟩::eqI [5,5,13,13,17,17,25,25]) (by kernel_rfl) (old_J hsz fun z hz=>nomatch hz) fun a1 W1 hJ1 ho1=>?_
 obtain⟨k1,k2,r,k3,k4⟩:=blkW hJ1
 exact hQ _ W1 (r 0) k2 rfl ho1 k1 (List.cons.inj (k3 7 ⟨false,[.p 0 0]⟩ (by kernel_rfl)).scal.2).1 (k4 0 _ rfl (by kernel_rfl)).1 (k4 0 _ rfl (by kernel_rfl)).2
theorem on_r10(e:Ed)(he:e.ok=true)(a:Act)(W:World)(b1:Nat)(Q:Exit->Act->World->Prop)(hsz:a.tmps.size=116)(h1:a.tmps.getD 1 undef=ptrW b1)(f1:FqAt W b1 (eW e))
  (hQ:∀a' W',a'.tmps.size=116->a'.defers=a.defers->(∀t,offT (opR fOn 10) t=true->a'.tmps.getD t undef=a.tmps.getD t undef)->Ext W W'->a'.tmps.getD 8 undef=.int .i64 (radZ e)->Q .normal a' W'):(Code.region 10 (opR fOn 10).toArray false).wp Tryz.prog Q a W:=by
 refine regS_wp ?_
 refine runS_ok (X:=[]) (K:=[cRad]) (n:=116) (d:=⟨[(1,.eq (fpW (eW e)))],[]⟩) (d':=⟨[(8,.eq (inV (radZ e) 134217728))],[]⟩) (q:=[]) [pP he,⟨inV (radZ e) 134217728=inV (radZ e) 134217728,rfl⟩] (by kernel_rfl) (old_J hsz fun z hz=>?_) fun a1 W1 hJ1 ho1=>?_
 ·simp only [List.mem_cons, List.not_mem_nil, or_false] at hz
  subst hz
  rw[h1];exact f1.rv
 ·obtain ⟨k1, k2, r, k3, k4⟩ := blkW hJ1
  exact hQ _ W1 k2 rfl ho1 k1 (rv_i.1 (k3 8 (inV (radZ e) 134217728) (by kernel_rfl))).2
theorem on_r11(a:Act)(W:World)(Q:Exit->Act->World->Prop)(hsz:a.tmps.size=116)
  (hQ:∀a' W',a'.tmps.size=116->a'.defers=a.defers->(∀t,offT (opR fOn 11) t=true->a'.tmps.getD t undef=a.tmps.getD t undef)->Ext W W'->a'.tmps.getD 9 undef=.int .i64 ((0:Nat):Int)->Q .normal a' W'):(Code.region 11 (opR fOn 11).toArray false).wp Tryz.prog Q a W:=by
 refine regS_wp ?_
 refine runS_ok (X:=[]) (K:=[]) (n:=116) (d:=⟨[],[]⟩) (d':=⟨[(9,.le (inV 0 61))],[]⟩) (q:=[]) [⟨(0:Int)=0,rfl⟩] (by kernel_rfl) (old_J hsz fun z hz=>nomatch hz) fun a1 W1 hJ1 ho1=>?_
 obtain⟨k1,k2,r,k3,k4⟩:=blkW hJ1
 exact hQ _ W1 k2 rfl ho1 k1 (rv_i.1 (k3 9 (inV 0 61) (by kernel_rfl))).2
theorem on_r12(k:Nat)(hk:k<=32)(a:Act)(W:World)(Q:Exit->Act->World->Prop)(hsz:a.tmps.size=116)(h9:a.tmps.getD 9 undef=.int .i64 (k:Int))
  (hQ:∀a' W',a'.tmps.size=116->a'.defers=a.defers->(∀t,offT (opR fOn 12) t=true->a'.tmps.getD t undef=a.tmps.getD t undef)->Ext W W'->a'.tmps.getD 69 undef=.bool (decide ((k:Int)<32))->Q .normal a' W'):(Code.region 12 (opR fOn 12).toArray false).wp Tryz.prog Q a W:=by
 refine regS_wp ?_
 refine runS_ok (X:=[]) (K:=[]) (n:=116) (d:=⟨[(9,.eq (inV (k:Int) 61))],[]⟩) (d':=⟨[(69,.eq (blV (decide ((k:Int)<32))))],[]⟩) (q:=[]) [⟨blV (decide ((k:Int)<32))=blV (decide ((k:Int)<32)),rfl⟩] (by kernel_rfl) (old_J hsz fun z hz=>?_) fun a1 W1 hJ1 ho1=>?_
 ·simp only [List.mem_cons, List.not_mem_nil, or_false] at hz
  subst hz
  rw[h9];exact rv_i.2 ⟨⟨by omega,by unfold I64;omega⟩,rfl⟩
 ·obtain ⟨k1, k2, r, k3, k4⟩ := blkW hJ1
  exact hQ _ W1 k2 rfl ho1 k1 (rv_v.1 (k3 69 (blV (decide ((k:Int)<32))) (by kernel_rfl))).2
theorem on_r13(k:Nat)(hk:k<=60)(a:Act)(W:World)(Q:Exit->Act->World->Prop)(hsz:a.tmps.size=116)(h9:a.tmps.getD 9 undef=.int .i64 (k:Int))
  (hQ:∀a' W',a'.tmps.size=116->a'.defers=a.defers->(∀t,offT (opR fOn 13) t=true->a'.tmps.getD t undef=a.tmps.getD t undef)->Ext W W'->a'.tmps.getD 9 undef=.int .i64 ((k+1:Nat):Int)->Q .normal a' W'):(Code.region 13 (opR fOn 13).toArray false).wp Tryz.prog Q a W:=by
 refine regS_wp ?_
 refine runS_ok (X:=[]) (K:=[]) (n:=116) (d:=⟨[(9,.eq (inV (k:Int) 61))],[]⟩) (d':=⟨[(9,.eq (inV ((k:Int)+1) 62))],[]⟩) (q:=[]) [⟨inV ((k:Int)+1) 62=inV ((k:Int)+1) 62,rfl⟩] (by kernel_rfl) (old_J hsz fun z hz=>?_) fun a1 W1 hJ1 ho1=>?_
 ·simp only [List.mem_cons, List.not_mem_nil, or_false] at hz
  subst hz
  rw[h9];exact rv_i.2 ⟨⟨by omega,by unfold I64;omega⟩,rfl⟩
 ·obtain ⟨k1, k2, r, k3, k4⟩ := blkW hJ1
  exact hQ _ W1 k2 rfl ho1 k1 (by rw[show (((k+1:Nat)):Int)=(k:Int)+1 by omega];exact (rv_i.1 (k3 9 (inV ((k:Int)+1) 62) (by kernel_rfl))).2)
end
end Go.Proofs.YtcfpcafnjgpfdaaGreat
