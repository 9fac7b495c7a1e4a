import Derived.Test.YteajakbpmeebnaaGreatH22
import Derived.Stop.RegionWithIn
set_option linter.unusedVariables false
set_option linter.unusedSimpArgs false

namespace Go.Proofs.YteajakbpmeebnaaGreat
open Go.RowKit

set_option maxRecDepth 100000
section
def upZ(e:Ed):Int:=if e.ay<e.by' then 1 else -1
theorem rayZ_out{e:Ed}{px py:Int}(h:py<min e.ay e.by'\/py >= max e.ay e.by'\/px >= max e.ax e.bx):rayZ e px py=0:=by
 unfold rayZ
 have hb:px >= max e.ax e.bx->¬beyZ e px py=true:=fun h=>by unfold beyZ;rw[if_neg (by omega),if_pos h];decide
 rcases h with h|h|h
 ·rw[if_neg (by omega),if_neg (by omega)]
 ·rw[if_neg (by omega),if_neg (by omega)]
 ·rw[if_neg (fun g=>hb h g.2.2),if_neg (fun g=>hb h g.2.2)]
theorem rayZ_in{e:Ed}{px py:Int}(h1:¬py<min e.ay e.by')(h2:¬py >= max e.ay e.by'):rayZ e px py=if beyZ e px py=true then upZ e else 0:=by
 unfold rayZ upZ
 by_cases h:e.ay<e.by'
 ·rw [if_pos h]
  by_cases hb:beyZ e px py=true
  ·rw[if_pos ⟨by omega,by omega,hb⟩,if_pos hb]
  ·rw[if_neg (fun g=>hb g.2.2),if_neg (fun g=>hb g.2.2),if_neg hb]
 ·rw [if_neg h, if_neg (by omega)]
  by_cases hb:beyZ e px py=true
  ·rw[if_pos ⟨by omega,by omega,hb⟩,if_pos hb]
  ·rw[if_neg (fun g=>hb g.2.2),if_neg hb]
theorem bey_l{e:Ed}{px py:Int}(hk:e.k=1)(h1:¬px<min e.ax e.bx)(h2:¬px >= max e.ax e.bx)(h:e.ay≠e.by'):(beyZ e px py=true) <-> (if e.ay<e.by' then 0<(e.bx-e.ax)*(py-e.ay)-(e.by'-e.ay)*(px-e.ax) else (e.bx-e.ax)*(py-e.ay)-(e.by'-e.ay)*(px-e.ax)<0):=by
 unfold beyZ beyL
 rw[if_neg h1,if_neg h2,if_pos hk]
 by_cases g:e.ay<e.by'
 ·rw [if_neg (by omega), if_pos g, decide_eq_true_eq]
  have e1:(px-e.ax)*(e.by'-e.ay)=(e.by'-e.ay)*(px-e.ax):=Int.mul_comm ..
  have e2:(py-e.ay)*(e.bx-e.ax)=(e.bx-e.ax)*(py-e.ay):=Int.mul_comm ..
  omega
 ·rw [if_pos (by omega), if_neg g, decide_eq_true_eq]
  have e1:(py-e.by')*(e.ax-e.bx)-(px-e.bx)*(e.ay-e.by') = -((e.bx-e.ax)*(py-e.ay)-(e.by'-e.ay)*(px-e.ax)):=by grind
  omega
theorem cray_1(ax ay bx by' cx cy px py:Int)(ho:(Ed.mk 1 ax ay bx by' cx cy).ok=true):Fok Tryz.prog 35 [edV ⟨1,ax,ay,bx,by',cx,cy⟩ 3 c26,ptV px py b27] (.one (inV (rayZ ⟨1,ax,ay,bx,by',cx,cy⟩ px py) lim)):=by
 by_cases h1:py<min ay by'
 ·rw[rayZ_out (.inl h1)];exact fok [cOfE] [false,true] [pF (not_F ho),pT (lt_tt h1)] (by kernel_rfl)
 by_cases h2:py >= max ay by'
 ·rw[rayZ_out (.inr (.inl h2))];exact fok [cOfE] [false,false,true] [pF (not_F ho),pF (lt_ff h1),pT (ge_tt h2)] (by kernel_rfl)
 by_cases h3:px >= max ax bx
 ·rw[rayZ_out (.inr (.inr h3))];exact fok [cOfE] [false,false,false,true] [pF (not_F ho),pF (lt_ff h1),pF (ge_ff h2),pT (ge_tt h3)] (by kernel_rfl)
 rw[rayZ_in (e:=⟨1,ax,ay,bx,by',cx,cy⟩) h1 h2]
 have hne:ay≠by':=by omega
 by_cases h4:px<min ax bx
 ·rw [if_pos (show beyZ ⟨1, ax, ay, bx, by', cx, cy⟩ px py = true by unfold beyZ; rw [if_pos h4])]
  unfold upZ
  by_cases h5:ay<by'
  ·rw[if_pos h5];exact fok [cOfE] [false,false,false,false,true,true] [pF (not_F ho),pF (lt_ff h1),pF (ge_ff h2),pF (ge_ff h3),pT (lt_tt h4),pT (lt_tt h5)] (by kernel_rfl)
  ·rw[if_neg h5];exact fok [cOfE] [false,false,false,false,true,false,true] [pF (not_F ho),pF (lt_ff h1),pF (ge_ff h2),pF (ge_ff h3),pT (lt_tt h4),pF (lt_ff h5),pT (gt_T (show by'<ay by omega))] (by kernel_rfl)
 have hb:=bey_l (e:=⟨1,ax,ay,bx,by',cx,cy⟩) (px:=px) (py:=py) rfl h4 h3 hne
 unfold upZ
 by_cases h5:ay<by'
 ·simp only [if_pos h5] at hb ⊢
  by_cases h6:(bx-ax)*(py-ay)-(by'-ay)*(px-ax)>0
  ·rw[if_pos (hb.2 h6)];exact fok [cOfE] [false,false,false,false,false,true,true,true] [pF (not_F ho),pF (lt_ff h1),pF (ge_ff h2),pF (ge_ff h3),pF (lt_ff h4),pT (gt_T h6),pT (lt_tt h5),pT (lt_tt h5)] (by kernel_rfl)
  ·rw [if_neg (fun g => h6 (hb.1 g))]
   by_cases h7:(bx-ax)*(py-ay)-(by'-ay)*(px-ax)<0
   ·exact fok [cOfE] [false,false,false,false,false,false,true,true] [pF (not_F ho),pF (lt_ff h1),pF (ge_ff h2),pF (ge_ff h3),pF (lt_ff h4),pF (gt_F h6),pT (lt_tt h7),pT (lt_tt h5)] (by kernel_rfl)
   ·exact fok [cOfE] [false,false,false,false,false,false,false,true] [pF (not_F ho),pF (lt_ff h1),pF (ge_ff h2),pF (ge_ff h3),pF (lt_ff h4),pF (gt_F h6),pF (lt_ff h7),pT (lt_tt h5)] (by kernel_rfl)
 ·simp only [if_neg h5] at hb ⊢
  have h8:by'<ay:=by omega
  by_cases h6:(bx-ax)*(py-ay)-(by'-ay)*(px-ax)>0
  ·rw[if_neg (fun g=>by have:=hb.1 g;omega)];exact fok [cOfE] [false,false,false,false,false,true,false,true] [pF (not_F ho),pF (lt_ff h1),pF (ge_ff h2),pF (ge_ff h3),pF (lt_ff h4),pT (gt_T h6),pF (lt_ff h5),pT (gt_T h8)] (by kernel_rfl)
  ·by_cases h7 : (bx - ax) * (py - ay) - (by' - ay) * (px - ax) < 0
   ·rw[if_pos (hb.2 h7)];exact fok [cOfE] [false,false,false,false,false,false,true,false,true,false,true] [pF (not_F ho),pF (lt_ff h1),pF (ge_ff h2),pF (ge_ff h3),pF (lt_ff h4),pF (gt_F h6),pT (lt_tt h7),pF (lt_ff h5),pT (gt_T h8),pF (lt_ff h5),pT (gt_T h8)] (by kernel_rfl)
   ·rw[if_neg (fun g=>h7 (hb.1 g))];exact fok [cOfE] [false,false,false,false,false,false,false,false,true] [pF (not_F ho),pF (lt_ff h1),pF (ge_ff h2),pF (ge_ff h3),pF (lt_ff h4),pF (gt_F h6),pF (lt_ff h7),pF (lt_ff h5),pT (gt_T h8)] (by kernel_rfl)
theorem arc_ax{e:Ed}(h:e.ok=true)(hk:¬e.k=1):(e.ax=e.cx/\e.bx≠e.cx/\e.ay≠e.by')\/(e.ax≠e.cx/\e.bx=e.cx/\e.ay≠e.by'):=by
 have hk':=kind_of h
 unfold Ed.ok at h
 simp only[Bool.and_eq_true] at h
 obtain⟨_,h2⟩:=h
 rcases hk' with k|k|k
 ·exact absurd k hk
 ·rw [k] at h2
  simp only[show ¬(2:Int)=1 by decide,if_false,if_true,Ed.quarter,quarterB,Bool.and_eq_true,beq_iff_eq,rot,bne_iff_ne,ne_eq] at h2
  obtain⟨h1,h3,h4⟩:=h2
  by_cases g:e.ax-e.cx=0<;>by_cases f:e.ay-e.cy=0<;>first|omega|exact (h1 (by rw[g,f])).elim|exact (h1 (by rw[beq_eq_false_iff_ne.2 g,beq_eq_false_iff_ne.2 f])).elim
 ·rw [k] at h2
  simp only[show ¬(3:Int)=1 by decide,show ¬(3:Int)=2 by decide,if_false,if_true,Ed.quarter,quarterB,Bool.and_eq_true,beq_iff_eq,rot,bne_iff_ne,ne_eq] at h2
  obtain⟨h1,h3,h4⟩:=h2
  by_cases g:e.ax-e.cx=0<;>by_cases f:e.ay-e.cy=0<;>first|omega|exact (h1 (by rw[g,f])).elim|exact (h1 (by rw[beq_eq_false_iff_ne.2 g,beq_eq_false_iff_ne.2 f])).elim
def pwZ(e:Ed)(px py:Int):Int:=((px-e.cx)*(px-e.cx)+(py-e.cy)*(py-e.cy))-((e.ax-e.cx)*(e.ax-e.cx)+(e.ay-e.cy)*(e.ay-e.cy))
theorem bey_a{e:Ed}{px py:Int}(ho:e.ok=true)(hk:¬e.k=1)(h1:¬px<min e.ax e.bx)(h2:¬px >= max e.ax e.bx):(beyZ e px py=true) <-> (if e.ax>e.cx\/e.bx>e.cx then pwZ e px py<0 else pwZ e px py>0):=by
 have hx:=arc_ax ho hk
 have hr:=radZ_sq ho hk
 unfold beyZ beyA pwZ
 rw[if_neg h1,if_neg h2,if_neg hk,<- hr]
 by_cases g:e.ax>e.cx\/e.bx>e.cx
 ·rw [if_pos (by omega), if_pos g, decide_eq_true_eq]
  omega
 ·rw [if_neg (by omega), if_neg g, Bool.and_eq_true, decide_eq_true_eq, decide_eq_true_eq]
  omega
theorem cray_a(k ax ay bx by' cx cy px py:Int)(hk:k=2\/k=3)(ho:(Ed.mk k ax ay bx by' cx cy).ok=true):Fok Tryz.prog 35 [edV ⟨k,ax,ay,bx,by',cx,cy⟩ 3 c26,ptV px py b27] (.one (inV (rayZ ⟨k,ax,ay,bx,by',cx,cy⟩ px py) lim)):=by
 have hk1:¬k=1:=by omega
 by_cases h1:py<min ay by'
 ·rw[rayZ_out (.inl h1)];rcases hk with rfl|rfl<;>exact fok [cOfE] [false,true] [pF (not_F ho),pT (lt_tt h1)] (by kernel_rfl)
 by_cases h2:py >= max ay by'
 ·rw[rayZ_out (.inr (.inl h2))];rcases hk with rfl|rfl<;>exact fok [cOfE] [false,false,true] [pF (not_F ho),pF (lt_ff h1),pT (ge_tt h2)] (by kernel_rfl)
 by_cases h3:px >= max ax bx
 ·rw[rayZ_out (.inr (.inr h3))];rcases hk with rfl|rfl<;>exact fok [cOfE] [false,false,false,true] [pF (not_F ho),pF (lt_ff h1),pF (ge_ff h2),pT (ge_tt h3)] (by kernel_rfl)
 rw[rayZ_in (e:=⟨k,ax,ay,bx,by',cx,cy⟩) h1 h2]
 by_cases h4:px<min ax bx
 ·rw [if_pos (show beyZ ⟨k, ax, ay, bx, by', cx, cy⟩ px py = true by unfold beyZ; rw [if_pos h4])]
  unfold upZ
  by_cases h5:ay<by'
  ·rw[if_pos h5];rcases hk with rfl|rfl<;>exact fok [cOfE] [false,false,false,false,true,true] [pF (not_F ho),pF (lt_ff h1),pF (ge_ff h2),pF (ge_ff h3),pT (lt_tt h4),pT (lt_tt h5)] (by kernel_rfl)
  ·rw[if_neg h5];rcases hk with rfl|rfl<;>exact fok [cOfE] [false,false,false,false,true,false,true] [pF (not_F ho),pF (lt_ff h1),pF (ge_ff h2),pF (ge_ff h3),pT (lt_tt h4),pF (lt_ff h5),pT (gt_T (show by'<ay by omega))] (by kernel_rfl)
 have hb:=bey_a (e:=⟨k,ax,ay,bx,by',cx,cy⟩) (px:=px) (py:=py) ho hk1 h4 h3
 have hx:=arc_ax ho hk1
 unfold upZ
 simp only[pwZ] at hb hx ⊢
 by_cases h5:ax>cx
 ·rw [if_pos (.inl h5)] at hb
  have h9:¬px<cx:=by omega
  by_cases h6:((px-cx)*(px-cx)+(py-cy)*(py-cy))-((ax-cx)*(ax-cx)+(ay-cy)*(ay-cy))<0
  ·rw [if_pos (hb.2 h6)]
   by_cases h7:ay<by'
   ·rw[if_pos h7];rcases hk with rfl|rfl<;>exact fok [cOfE] [false,false,false,false,false,true,false,true,true] [pF (not_F ho),pF (lt_ff h1),pF (ge_ff h2),pF (ge_ff h3),pF (lt_ff h4),pT (gt_T h5),pF (lt_ff h9),pT (lt_tt h6),pT (lt_tt h7)] (by kernel_rfl)
   ·rw[if_neg h7];rcases hk with rfl|rfl<;>exact fok [cOfE] [false,false,false,false,false,true,false,true,false,true] [pF (not_F ho),pF (lt_ff h1),pF (ge_ff h2),pF (ge_ff h3),pF (lt_ff h4),pT (gt_T h5),pF (lt_ff h9),pT (lt_tt h6),pF (lt_ff h7),pT (gt_T (show by'<ay by omega))] (by kernel_rfl)
  ·rw[if_neg (fun g=>h6 (hb.1 g))];rcases hk with rfl|rfl<;>exact fok [cOfE] [false,false,false,false,false,true,false,false] [pF (not_F ho),pF (lt_ff h1),pF (ge_ff h2),pF (ge_ff h3),pF (lt_ff h4),pT (gt_T h5),pF (lt_ff h9),pF (lt_ff h6)] (by kernel_rfl)
 by_cases h5':bx>cx
 ·rw [if_pos (.inr h5')] at hb
  have h9:¬px<cx:=by omega
  by_cases h6:((px-cx)*(px-cx)+(py-cy)*(py-cy))-((ax-cx)*(ax-cx)+(ay-cy)*(ay-cy))<0
  ·rw [if_pos (hb.2 h6)]
   by_cases h7:ay<by'
   ·rw[if_pos h7];rcases hk with rfl|rfl<;>exact fok [cOfE] [false,false,false,false,false,false,true,false,true,true] [pF (not_F ho),pF (lt_ff h1),pF (ge_ff h2),pF (ge_ff h3),pF (lt_ff h4),pF (gt_F h5),pT (gt_T h5'),pF (lt_ff h9),pT (lt_tt h6),pT (lt_tt h7)] (by kernel_rfl)
   ·rw[if_neg h7];rcases hk with rfl|rfl<;>exact fok [cOfE] [false,false,false,false,false,false,true,false,true,false,true] [pF (not_F ho),pF (lt_ff h1),pF (ge_ff h2),pF (ge_ff h3),pF (lt_ff h4),pF (gt_F h5),pT (gt_T h5'),pF (lt_ff h9),pT (lt_tt h6),pF (lt_ff h7),pT (gt_T (show by'<ay by omega))] (by kernel_rfl)
  ·rw[if_neg (fun g=>h6 (hb.1 g))];rcases hk with rfl|rfl<;>exact fok [cOfE] [false,false,false,false,false,false,true,false,false] [pF (not_F ho),pF (lt_ff h1),pF (ge_ff h2),pF (ge_ff h3),pF (lt_ff h4),pF (gt_F h5),pT (gt_T h5'),pF (lt_ff h9),pF (lt_ff h6)] (by kernel_rfl)
 rw[if_neg (by omega)] at hb
 have h9:px<cx:=by omega
 by_cases h6:((px-cx)*(px-cx)+(py-cy)*(py-cy))-((ax-cx)*(ax-cx)+(ay-cy)*(ay-cy))>0
 ·rw [if_pos (hb.2 h6)]
  by_cases h7:ay<by'
  ·rw[if_pos h7];rcases hk with rfl|rfl<;>exact fok [cOfE] [false,false,false,false,false,false,false,true,true,true] [pF (not_F ho),pF (lt_ff h1),pF (ge_ff h2),pF (ge_ff h3),pF (lt_ff h4),pF (gt_F h5),pF (gt_F h5'),pT (lt_tt h9),pT (gt_T h6),pT (lt_tt h7)] (by kernel_rfl)
  ·rw[if_neg h7];rcases hk with rfl|rfl<;>exact fok [cOfE] [false,false,false,false,false,false,false,true,true,false,true] [pF (not_F ho),pF (lt_ff h1),pF (ge_ff h2),pF (ge_ff h3),pF (lt_ff h4),pF (gt_F h5),pF (gt_F h5'),pT (lt_tt h9),pT (gt_T h6),pF (lt_ff h7),pT (gt_T (show by'<ay by omega))] (by kernel_rfl)
 ·rw[if_neg (fun g=>h6 (hb.1 g))];rcases hk with rfl|rfl<;>exact fok [cOfE] [false,false,false,false,false,false,false,true,false] [pF (not_F ho),pF (lt_ff h1),pF (ge_ff h2),pF (ge_ff h3),pF (lt_ff h4),pF (gt_F h5),pF (gt_F h5'),pT (lt_tt h9),pF (gt_F h6)] (by kernel_rfl)
theorem cray_ok(e:Ed)(px py:Int)(ho:e.ok=true):Fok Tryz.prog 35 [edV e 3 c26,ptV px py b27] (.one (inV (rayZ e px py) lim)):=by
 obtain⟨k,ax,ay,bx,by',cx,cy⟩:=e
 rcases kind_of ho with h|h|h
 ·obtain rfl : k = 1 := h
  exact cray_1 ax ay bx by' cx cy px py ho
 ·exact cray_a k ax ay bx by' cx cy px py (.inl h) ho
 ·exact cray_a k ax ay bx by' cx cy px py (.inr h) ho
def cRay:Con:=epC 35 b27 (fun e px py=>.one (inV (rayZ e px py) 1)) fun e px py h _=>(cray_ok e px py h).bd (rayZ_bd e px py)
end

set_option maxRecDepth 100000
section
def frZ(x y a b:Int):Int:=(x-a)*(x-a)+(y-b)*(y-b)
def wiZ(e:Ed)(px py:Int):Int:=if e.k=3 then min ((e.bx-e.cx)*(py-e.cy)-(e.by'-e.cy)*(px-e.cx)) ((px-e.cx)*(e.ay-e.cy)-(py-e.cy)*(e.ax-e.cx)) else min ((e.ax-e.cx)*(py-e.cy)-(e.ay-e.cy)*(px-e.cx)) ((px-e.cx)*(e.by'-e.cy)-(py-e.cy)*(e.bx-e.cx))
def alZ(e:Ed)(px py:Int):Int:=(px-e.ax)*(e.bx-e.ax)+(py-e.ay)*(e.by'-e.ay)
def loZ(e:Ed):Int:=(e.bx-e.ax)*(e.bx-e.ax)+(e.by'-e.ay)*(e.by'-e.ay)
def crZ(e:Ed)(px py:Int):Int:=(e.bx-e.ax)*(py-e.ay)-(e.by'-e.ay)*(px-e.ax)
def nearC(e:Ed)(px py r:Int):Bool :=
 if frZ px py e.ax e.ay<=r*r then true else if frZ px py e.bx e.by'<=r*r then true else
 if e.k=1 then (if alZ e px py<=0 then false else if alZ e px py >= loZ e then false else decide (crZ e px py*crZ e px py<=r*r*loZ e))
 else if wiZ e px py >= 0 then (if frZ px py e.cx e.cy<=(radZ e+r)*(radZ e+r) then decide (frZ px py e.cx e.cy >= max (radZ e-r) 0*max (radZ e-r) 0) else false) else false
theorem sq0(x:Int):0<=x*x:=by rw[<- Int.natAbs_mul_self];omega
theorem ab_sq(c:Int):max c (0-c)*max c (0-c)=c*c:=by
 rcases Int.le_total 0 c with h|h
 ·rw[show max c (0-c)=c by omega]
 ·rw[show max c (0-c) = -c by omega,Int.neg_mul_neg]
theorem wd_eq(c r l:Int)(hl:0<=l):decide (max c (0-c)*max c (0-c)/18446744073709551616<r*r*l/18446744073709551616\/(max c (0-c)*max c (0-c)/18446744073709551616=r*r*l/18446744073709551616/\max c (0-c)*max c (0-c)%18446744073709551616<=r*r*l%18446744073709551616))=decide (c*c<=r*r*l):=by
 rw[ab_sq]
 exact decide_eq_decide.2 (words_le (sq0 c) (Int.mul_nonneg (sq0 r) hl))
def KN:List Con:=[cRad,cProd,cAtM]
theorem near_ok(e:Ed)(px py r:Int)(ho:e.ok=true):Fok Tryz.prog 34 [edV e 3 c26,ptV px py b27,inV r 4194304] (.one (blV (nearC e px py r))):=by
 unfold nearC
 by_cases h1:frZ px py e.ax e.ay<=r*r
 ·rw[if_pos h1];exact fok KN [true] [pT (le_tt h1)] (by kernel_rfl)
 rw[if_neg h1]
 by_cases h2:frZ px py e.bx e.by'<=r*r
 ·rw[if_pos h2];exact fok KN [false,true] [pF (le_ff h1),pT (le_tt h2)] (by kernel_rfl)
 rw[if_neg h2]
 by_cases h3:e.k=1
 ·rw [if_pos h3]
  by_cases h4:alZ e px py<=0
  ·rw[if_pos h4];exact fok KN [false,false,false,true] [pF (le_ff h1),pF (le_ff h2),pF (ne_F (by simpa using h3)),pT (le_tt h4)] (by kernel_rfl)
  rw[if_neg h4]
  by_cases h5:alZ e px py >= loZ e
  ·rw[if_pos h5];exact fok KN [false,false,false,false,true] [pF (le_ff h1),pF (le_ff h2),pF (ne_F (by simpa using h3)),pF (le_ff h4),pT (ge_tt h5)] (by kernel_rfl)
  rw[if_neg h5]
  have hl:0<=loZ e:=by have:=sq0 (e.bx-e.ax);have:=sq0 (e.by'-e.ay);unfold loZ;omega
  have ha:0<=max (crZ e px py) (0-crZ e px py):=by omega
  rw[<- wd_eq _ _ _ hl]
  exact fok KN [false,false,false,false,false] [pF (le_ff h1),pF (le_ff h2),pF (ne_F (by simpa using h3)),pF (le_ff h4),pF (ge_ff h5),pP ha,pP ha,pP (show 0<=r*r from sq0 r),pP hl] (by kernel_rfl)
 rw[if_neg h3]
 have g3:(e.k != 1)=true:=by simpa using h3
 unfold wiZ
 by_cases h4:e.k=3
 ·rw [if_pos h4]
  by_cases h5:min ((e.bx-e.cx)*(py-e.cy)-(e.by'-e.cy)*(px-e.cx)) ((px-e.cx)*(e.ay-e.cy)-(py-e.cy)*(e.ax-e.cx)) >= 0
  ·rw [if_pos h5]
   by_cases h6:frZ px py e.cx e.cy<=(radZ e+r)*(radZ e+r)
   ·rw[if_pos h6];exact fok KN [false,false,true,true,true,true] [pF (le_ff h1),pF (le_ff h2),pT g3,pT (eq_tt h4),pP ho,pT (ge_tt h5),pT (le_tt h6)] (by kernel_rfl)
   ·rw[if_neg h6];exact fok KN [false,false,true,true,true,false] [pF (le_ff h1),pF (le_ff h2),pT g3,pT (eq_tt h4),pP ho,pT (ge_tt h5),pF (le_ff h6)] (by kernel_rfl)
  ·rw[if_neg h5];exact fok KN [false,false,true,true,false] [pF (le_ff h1),pF (le_ff h2),pT g3,pT (eq_tt h4),pP ho,pF (ge_ff h5)] (by kernel_rfl)
 ·rw [if_neg h4]
  by_cases h5:min ((e.ax-e.cx)*(py-e.cy)-(e.ay-e.cy)*(px-e.cx)) ((px-e.cx)*(e.by'-e.cy)-(py-e.cy)*(e.bx-e.cx)) >= 0
  ·rw [if_pos h5]
   by_cases h6:frZ px py e.cx e.cy<=(radZ e+r)*(radZ e+r)
   ·rw[if_pos h6];exact fok KN [false,false,true,false,true,true] [pF (le_ff h1),pF (le_ff h2),pT g3,pF (eq_ff h4),pP ho,pT (ge_tt h5),pT (le_tt h6)] (by kernel_rfl)
   ·rw[if_neg h6];exact fok KN [false,false,true,false,true,false] [pF (le_ff h1),pF (le_ff h2),pT g3,pF (eq_ff h4),pP ho,pT (ge_tt h5),pF (le_ff h6)] (by kernel_rfl)
  ·rw[if_neg h5];exact fok KN [false,false,true,false,false] [pF (le_ff h1),pF (le_ff h2),pT g3,pF (eq_ff h4),pP ho,pF (ge_ff h5)] (by kernel_rfl)
def eprC(f:FuncId)(g:Ed->Int->Int->Int->AV)(h:∀e px py r,e.ok=true->Bd b27 px py->(0<=r/\r<=4194304)->Fok Tryz.prog f [edV e 3 c26,ptV px py b27,inV r 4194304] (g e px py r)):Con where
 f:=f
 g:=fun | [⟨true,l⟩,⟨true,m⟩,⟨false,[.i r _]⟩]=>(match toEd l,ptB m with|some e,some p=>some (g e p.1 p.2 r,[e.ok=true,Bd b27 p.1 p.2,0<=r/\r<=4194304])|_,_=>none)|_=>none
 ok:=by
  intro args res ps h' hp
  split at h'<;>try cases h'
  split at h'<;>cases h'
  rename_i he hq
  exact (h _ _ _ _ hp.1 hp.2.1 hp.2.2.1).pre fun W=>rvs_1 (ed_ok he hp.1) (rvs_1 (ptB_rep hq hp.2.1) (rvs_1 (fun v hv=>RepI.val ⟨hv.scal.1,by have:=hp.2.2.1;omega,hv.scal.2.2⟩) rvs_0))
def cNear:Con:=eprC 34 (fun e px py r=>.one (blV (nearC e px py r))) fun e px py r ho _ _=>near_ok e px py r ho
end
def bX0(s:Sh):Int:=if s.n=0 then 0 else IntKind.i64.wrap (x0N s.e (s.n-1)-s.r)
def bY0(s:Sh):Int:=if s.n=0 then 0 else IntKind.i64.wrap (y0N s.e (s.n-1)-s.r)
def bX1(s:Sh):Int:=if s.n=0 then 0 else IntKind.i64.wrap (x1N s.e (s.n-1)+s.r)
def bY1(s:Sh):Int:=if s.n=0 then 0 else IntKind.i64.wrap (y1N s.e (s.n-1)+s.r)
theorem boxV_eq(s:Sh):boxV s=rcV (bX0 s) (bY0 s) (bX1 s) (bY1 s):=by
 unfold boxV bX0 bY0 bX1 bY1
 by_cases h:s.n=0<;>simp only[h,if_true,if_false]
def cBoxQ:Con:=shC 11 (fun s=>.one (rcV (bX0 s) (bY0 s) (bX1 s) (bY1 s))) (fun s=>[s.n<=1000]) fun s h=>boxV_eq s ▸ sbox_ok s h.1
def inBx(s:Sh)(px py:Int):Bool:=inB (bX0 s) (bY0 s) (bX1 s) (bY1 s) px py
def wnd(e:Nat->Ed)(px py:Int):Nat->Int
 | 0=>0
 | k+1=>wnd e px py k+rayZ (e k) px py
def farB(s:Sh)(px py:Int)(k:Nat):Bool:=!nearC (s.e k) px py s.r
def insS(s:Sh)(px py:Int):Bool:=if chkS s≠0 then false else if inBx s px py=false then false else if allB (farB s px py) s.n=false then true else decide (s.k=2)&&decide (wnd s.e px py s.n≠0)
theorem wnd_bd(e:Nat->Ed)(px py:Int):∀n,(wnd e px py n).natAbs<=n
 | 0=>Nat.le_refl _
 | n+1=>by
  have:=wnd_bd e px py n
  have:=rayZ_bd (e n) px py
  unfold wnd
  omega
structure Good (s:Sh):Prop where
 n1:1<=s.n
 n40:s.n<=40
 ok:∀k,k<s.n->(s.e k).ok=true
 r:0<=s.r/\s.r<=4194304
 k:s.k=1\/s.k=2
theorem ok_of0{e:Ed}(h:checkZ e=0):e.ok=true:=by
 unfold checkZ at h
 split at h
 ·assumption
 ·split at h<;>cases h
theorem chk_good{s:Sh}(h:chkS s=0):Good s:=by
 unfold chkS at h
 split at h
 ·cases h
 rename_i hk
 split at h
 ·cases h
 rename_i h1
 split at h
 ·cases h
 rename_i h2
 split at h
 ·rename_i h3;exact absurd h h3
 rename_i h3
 split at h
 ·cases h
 split at h
 ·cases h
 rename_i h5
 have hf:1<=fewS s:=by unfold fewS;split<;>decide
 exact⟨by omega,by omega,fun k hk=>ok_of0 (errN_0 (by simpa using h3) k hk),by omega,by omega⟩
theorem bx_bd{e:Nat->Ed}:∀ {m:Nat},(∀k,k<=m->(e k).ok=true)->(-67108864<=x0N e m/\x0N e m<=67108864)/\(-67108864<=y0N e m/\y0N e m<=67108864)/\(-67108864<=x1N e m/\x1N e m<=67108864)/\(-67108864<=y1N e m/\y1N e m<=67108864)
 | 0,h=>by
  obtain⟨⟨h1,h2⟩,⟨h3,h4⟩,_⟩:=ok_right (h 0 (Nat.le_refl _))
  unfold Co at h1 h2 h3 h4
  unfold x0N y0N x1N y1N
  omega
 | m+1,h=>by
  obtain⟨k1,k2,k3,k4⟩:=bx_bd (m:=m) fun k hk=>h k (by omega)
  obtain⟨⟨h1,h2⟩,⟨h3,h4⟩,_⟩:=ok_right (h (m+1) (Nat.le_refl _))
  unfold Co at h1 h2 h3 h4
  unfold x0N y0N x1N y1N
  omega
theorem in_bd{s:Sh}{px py:Int}(g:Good s)(h:inBx s px py=true):Bd b27 px py:=by
 obtain⟨h1,h2,h3,h4⟩:=bx_bd (e:=s.e) (m:=s.n-1) fun k hk=>g.ok k (by have:=g.n1;omega)
 have n0:¬s.n=0:=by have:=g.n1;omega
 have hr:=g.r
 unfold inBx inB bX0 bY0 bX1 bY1 at h
 simp only[if_neg n0,Bool.and_eq_true,decide_eq_true_eq] at h
 rw[wrap_in (by unfold I64;omega),wrap_in (by unfold I64;omega),wrap_in (by unfold I64;omega),wrap_in (by unfold I64;omega)] at h
 unfold Bd b27
 omega
def edA(e:Ed):Value:=.agg #[.int .i64 e.k,.int .i64 e.ax,.int .i64 e.ay,.int .i64 e.bx,.int .i64 e.by',.int .i64 e.cx,.int .i64 e.cy]
structure EdAt (w:World) (g o:Nat) (e:Ed):Prop where
 c0:w.cell? ⟨g,o,none⟩=some (.int .i64 e.k)
 c1:w.cell? ⟨g,o+1,none⟩=some (.int .i64 e.ax)
 c2:w.cell? ⟨g,o+2,none⟩=some (.int .i64 e.ay)
 c3:w.cell? ⟨g,o+3,none⟩=some (.int .i64 e.bx)
 c4:w.cell? ⟨g,o+4,none⟩=some (.int .i64 e.by')
 c5:w.cell? ⟨g,o+5,none⟩=some (.int .i64 e.cx)
 c6:w.cell? ⟨g,o+6,none⟩=some (.int .i64 e.cy)
theorem EdAt.below{w w':World}{v g o:Nat}{e:Ed}(h:EdAt w g o e)(hb:Below v w w')(hg:g<v):EdAt w' g o e :=
 ⟨(hb.cell (p:=⟨g,o,none⟩) hg).trans h.c0,(hb.cell (p:=⟨g,_,none⟩) hg).trans h.c1,(hb.cell (p:=⟨g,_,none⟩) hg).trans h.c2,(hb.cell (p:=⟨g,_,none⟩) hg).trans h.c3,(hb.cell (p:=⟨g,_,none⟩) hg).trans h.c4,(hb.cell (p:=⟨g,_,none⟩) hg).trans h.c5,(hb.cell (p:=⟨g,_,none⟩) hg).trans h.c6⟩
def EdRow(v:Nat)(w:World)(p:Option Addr)(n:Nat)(e:Nat->Ed):Prop:=∀i,i<n->∃g o,p=some ⟨g,o,none⟩/\g<v/\EdAt w g (o+i*7) (e i)
theorem EdRow.below{w w':World}{v n:Nat}{p:Option Addr}{e:Nat->Ed}(h:EdRow v w p n e)(hb:Below v w w'):EdRow v w' p n e:=fun i hi=>by
 obtain⟨g,o,h1,h2,h3⟩:=h i hi
 exact⟨g,o,h1,h2,h3.below hb h2⟩
def KpJ(v B1 B2:Nat)(W W':World):Prop:=Below v W W'/\(∀o,W'.cell? ⟨B1,o,none⟩=W.cell? ⟨B1,o,none⟩)/\∀o,W'.cell? ⟨B2,o,none⟩=W.cell? ⟨B2,o,none⟩
theorem KpJ.trans{v B1 B2:Nat}{A B C:World}(h:KpJ v B1 B2 A B)(k:KpJ v B1 B2 B C):KpJ v B1 B2 A C:=⟨h.1.trans k.1,fun o=>(k.2.1 o).trans (h.2.1 o),fun o=>(k.2.2 o).trans (h.2.2 o)⟩
def upT(k:Nat):List Nat:=List.range k
theorem upT_succ(k:Nat):upT (k+1)=upT k++[k]:=List.range_succ
theorem upT_len(k:Nat):(upT k).length=k:=List.length_range
def nmJ(cl:Bool)(n:Nat):Nat:=if cl then n else n-1
def nx(n i:Nat):Nat:=if i+1<n then i+1 else 0

set_option maxHeartbeats 8000000
set_option maxRecDepth 100000
section
open Go.RowKit Go.Shelf
attribute [local go_sem] Oper.semAt_some
attribute [local go_sem] Gives givesU
def regOf(id:Nat):Code->Option Code
 | .region k ops d=>if k=id then some (.region k ops d) else none
 | .seq a b=>match regOf id a with|some c=>some c|none=>regOf id b
 | .cond _ a b=>match regOf id a with|some c=>some c|none=>regOf id b
 | .block _ c=>regOf id c
 | .loop c=>regOf id c
 | _=>none
def exB(R:Bool->World->Prop)(W:World):Prop:=∃b,R b W
theorem joints_last(m L B1 B2 g o n c j:Nat)(E0 E1:Ed)(wr:World)(x3 x4 x5 x6 x7 x8 x9 x10 x11 x12 x13 x14 x15 x16 x17 x18 x19 x20 x21 x22 x23 x24 x25 x26 x27 x28 x29 x30 x31 x32 x33 x34:Value)(R:Bool->World->Prop)
  (m0:wr.cell? ⟨B1,0,none⟩=some (.slice (some ⟨g,o,none⟩) n c)) (h0:EdAt wr g (o+j*7) E0) (h1:EdAt wr g o E1) (hn:n<=1000) (hj:n=j+1) (hm:1<=m)
  (hY:YieldAt Fence.wide (m-1) Tryz.prog L #[edA E0,edA E1] wr.drew fun e W'=>∃b:Bool,e=.returned (.bool b)/\R b W') :
  ((regOf 5 (bodyF Tryz.prog 132)).getD .skip).wpIn Fence.wide m Tryz.prog (fun e a W1=>e=.normal/\a.defers=[]/\exB R W1) { tmps:=#[.func (.yield L) #[] #[],.pointer (some ⟨B1,0,none⟩),.pointer (some ⟨B2,0,none⟩),x3,x4,x5,x6,x7,x8,x9,x10,x11,x12,x13,x14,x15,x16,x17,x18,x19,x20,x21,x22,x23,x24,x25,x26,x27,x28,x29,x30,x31,x32,x33,x34],defers:=[] } wr:=by
 obtain⟨f1,t1,z1,y1,hy1,hR⟩:=hY
 obtain⟨k0,k1,k2,k3,k4,k5,k6⟩:=E0
 obtain⟨l0,l1,l2,l3,l4,l5,l6⟩:=E1
 simp only[edA] at hy1
 obtain⟨a0,a1,a2,a3,a4,a5,a6⟩:=h0
 obtain⟨b0,b1,b2,b3,b4,b5,b6⟩:=h1
 simp only at a0 a1 a2 a3 a4 a5 a6 b0 b1 b2 b3 b4 b5 b6
 have wk:IntKind.i64.wrap ((n:Int)-1)=(j:Int):=by rw[wrap_in (by unfold I64;omega)];omega
 have ix2:(j:Int)<(n:Int):=by omega
 have ix3:(0:Int)<(n:Int):=by omega
 have hb:bodyF Tryz.prog 132=(Tryz.f132.body).getD .skip:=by unfold bodyF;rw[Tryz.func132];rfl
 rw[hb]
 clear hj hn hb
 simp only[Tryz.f132,Option.getD,regOf,Nat.reduceEqDiff,reduceIte]
 gi_region_with (refine hR.mono ?_;rintro e' W1 ⟨b,rfl,h1⟩)
 all_goals exact⟨rfl,rfl,b,h1⟩
end

set_option maxHeartbeats 4000000
set_option maxRecDepth 100000
section
open Go.RowKit Go.Shelf
attribute [local go_sem] Oper.semAt_some
attribute [local go_sem] Gives givesU
theorem joints_stops(m:Nat)(hm:1<=m)(n:Nat)(e:Nat->Ed)(v B1 B2 c:Nat)(p:Option Addr)(cl:Bool)(w:World)(hB1:B1<w.heap.size)(hB2:B2<w.heap.size)(hv:v<=w.heap.size)
  (c0:w.cell? ⟨B1,0,none⟩=some (.slice p n c)) (c1:w.cell? ⟨B2,0,none⟩=some (.bool cl)) (hR:EdRow v w p n e) (hn:n<=1000) (hcl:1<=n) :
  SeqStopsK Fence.wide m Tryz.prog 132 #[.pointer (some ⟨B1,0,none⟩),.pointer (some ⟨B2,0,none⟩)] (fun i:Nat=>#[edA (e i),edA (e (nx n i))]) (KpJ v B1 B2) (fun xs=>xs=upT (nmJ cl n)) (fun pre=>∃k,k<(nmJ cl n)/\pre=upT (k+1)) (nmJ cl n) w:=fun L J Jx W hW hA hAx hY h0=>by
 have k0:W.cell? ⟨B1,0,none⟩=some (.slice p n c):=(hW.cell (p:=⟨B1,0,none⟩) hB1).trans c0
 have k1:W.cell? ⟨B2,0,none⟩=some (.bool cl):=(hW.cell (p:=⟨B2,0,none⟩) hB2).trans c1
 have hrW:EdRow v W p n e:=hR.below (hW.mono hv)
 clear c0 c1 hR
 refine callsIn_of_wp Tryz.func132 rfl trivial ?_ rfl
 simp only[Tryz.ntmps132,List.size_toArray,List.length_cons,List.length_nil,Nat.reduceAdd,Nat.reduceSub,Array.replicate_succ,Array.replicate_zero,List.push_toArray,List.append_toArray,List.nil_append,List.cons_append]
 gi_wp2
 gi_loopw [4] (fun i wr=>∃k:Nat,i=.int .i64 ((k:Int)+1)/\k<=n-1/\J (upT k) wr/\KpJ v B1 B2 W wr) (fun i _=>n-(intOf i).toNat)
 case atStart=>exact⟨0,rfl,by omega,h0,Below.refl _ _,fun _=>rfl,fun _=>rfl⟩
 case round =>
  obtain⟨k,rfl,hk,hJ,hK0,hK1,hK2⟩:=hrel
  have m0:wr.cell? ⟨B1,0,none⟩=some (.slice p n c):=(hK1 0).trans k0
  have m1:wr.cell? ⟨B2,0,none⟩=some (.bool cl):=(hK2 0).trans k1
  by_cases hlt:k+1<n
  ·obtain ⟨g, o, rfl, hg, E0⟩ := hrW k (by omega)
   obtain⟨g',o',hp,_,E1⟩:=hrW (k+1) hlt
   cases hp
   obtain⟨a0,a1,a2,a3,a4,a5,a6⟩:=E0.below hK0 hg
   obtain⟨b0,b1,b2,b3,b4,b5,b6⟩:=E1.below hK0 hg
   have hkk:Hid (k<nmJ cl n):=Lib.hid (by unfold nmJ;split<;>omega)
   have hJd:J (upT k) wr.drew:=hA _ _ _ none hJ ⟨rfl,rfl,rfl,Nat.le_refl _,fun _ _ _=>rfl⟩ (fun r h=>by cases h)
   obtain⟨f1,t1,x1,y1,hy1,hR1⟩:=hY (upT k) k wr.drew hJd (by rw[upT_len];exact hkk.out)
   rw[show e (nx n k)=e (k+1) by unfold nx;rw[if_pos hlt]] at hy1
   unfold edA at hy1
   have wk:IntKind.i64.wrap (k:Int)=(k:Int):=wrap_in (by unfold I64;omega)
   have ix0:0<=(k:Int):=by omega
   have ix1:(k:Int)+1<(n:Int):=by omega
   have ix2:(k:Int)<(n:Int):=by omega
   have ix3:0<=(k:Int)+1:=by omega
   have HK:=Lib.hid (show KpJ v B1 B2 W wr from⟨hK0,hK1,hK2⟩)
   have hR2:=RoundIn.mono hR1 (R':=fun e W'=>∃b:Bool,e=.returned (.bool b)/\Hid (if b then J (upT k++[k]) W'/\KpJ v B1 B2 wr.drew W' else Jx (upT k++[k]) W')) (by
    rintro e' W1 (⟨rfl,h1,h2⟩|⟨rfl,h1⟩)
    ·exact⟨true,rfl,Lib.hid (by rw[if_pos rfl];exact⟨h1,h2⟩)⟩
    ·exact⟨false,rfl,Lib.hid (by rw[if_neg (by decide)];exact h1)⟩)
   clear hJ E0 E1 hK0 hK1 hK2 hJd hR1
   gi_wp2
   gi_region_with (refine hR2.mono ?_;rintro e' W1 ⟨b,rfl,h1⟩)
   all_goals
    cases b
    ·have h2 : Hid (Jx (upT (k + 1)) W1) := Lib.hid (by have := h1.out; rw [if_neg (by decide)] at this; rw [upT_succ]; exact this)
     clear h1
     gi_wp2
     refine bodyPost_ret (results_none rfl _ _ _) rfl ?_
     exact⟨⟨_,rfl⟩,.inr ⟨_,⟨k,hkk.out,rfl⟩,h2.out⟩⟩
    ·have h2:Hid (J (upT (k+1)) W1/\KpJ v B1 B2 W W1):=Lib.hid (by
      have:=h1.out
      rw[if_pos rfl] at this
      rw[upT_succ]
      exact⟨this.1,HK.out.trans (KpJ.trans (B:=wr.drew) ⟨⟨rfl,rfl,rfl,Nat.le_refl _,fun _ _=>rfl⟩,fun _=>rfl,fun _=>rfl⟩ this.2)⟩)
     clear h1
     gi_wp2
     exact⟨⟨k+1,by simp,by omega,h2.out.1,h2.out.2⟩,by simp[intOf];omega⟩
  ·obtain rfl : k = n - 1 := by omega
   have HK:=Lib.hid (show KpJ v B1 B2 W wr from⟨hK0,hK1,hK2⟩)
   cases cl with
   | false =>
    have h2:Hid (J (upT (nmJ false n)) wr):=Lib.hid (by unfold nmJ;rw[if_neg (by decide)];exact hJ)
    clear hJ hK0 hK1 hK2
    have ix:¬(((n-1:Nat):Int)+1<(n:Int)):=by omega
    gi_wp2
    go_end0
    first
     | exact⟨⟨_,rfl⟩,.inl ⟨_,rfl,h2.out⟩⟩
     | exact⟨⟨_,rfl⟩,.inl h2.out⟩
   | true =>
    obtain⟨g,o,rfl,hg,E0⟩:=hrW (n-1) (by omega)
    obtain⟨g',o',hp,_,E1⟩:=hrW 0 (by omega)
    cases hp
    rw[Nat.zero_mul,Nat.add_zero] at E1
    have hJd:J (upT (n-1)) wr.drew:=hA _ _ _ none hJ ⟨rfl,rfl,rfl,Nat.le_refl _,fun _ _ _=>rfl⟩ (fun r h=>by cases h)
    have hY1:=hY (upT (n-1)) (n-1) wr.drew hJd (by rw[upT_len];unfold nmJ;rw[if_pos rfl];omega)
    rw[show e (nx n (n-1))=e 0 by unfold nx;rw[if_neg (by omega)]] at hY1
    have hE0:=E0.below hK0 hg
    have hE1:=E1.below hK0 hg
    obtain⟨j,hj⟩:∃j,n-1=j:=⟨_,rfl⟩
    rw[hj] at hE0 hY1 ⊢
    have ix:¬((j:Int)+1<(n:Int)):=by omega
    have hjn:Hid (n=j+1):=Lib.hid (by omega)
    have hb:bodyF Tryz.prog 132=(Tryz.f132.body).getD .skip:=by unfold bodyF;rw[Tryz.func132];rfl
    have key:=Lib.hid (fun x3 x4 x5 x6 x7 x8 x9 x10 x11 x12 x13 x14 x15 x16 x17 x18 x19 x20 x21 x22 x23 x24 x25 x26 x27 x28 x29 x30 x31 x32 x33 x34=>joints_last m L B1 B2 g o n c j (e (n-1)) (e 0) wr x3 x4 x5 x6 x7 x8 x9 x10 x11 x12 x13 x14 x15 x16 x17 x18 x19 x20 x21 x22 x23 x24 x25 x26 x27 x28 x29 x30 x31 x32 x33 x34 (fun b W1=>if b then J (upT j++[j]) W1 else Jx (upT j++[j]) W1) m0 (by rw[hj];exact hE0) hE1 hn (by omega) hm (by
     obtain⟨f1,t1,z1,y1,hy1,hR⟩:=hY1
     refine⟨f1,t1,z1,y1,by rw[hj];exact hy1,RoundIn.mono hR ?_⟩
     rintro e' W1 (⟨rfl,h1,h2⟩|⟨rfl,h1⟩)
     ·exact⟨true,rfl,by rw[if_pos rfl];exact h1⟩
     ·exact⟨false,rfl,by rw[if_neg (by decide)];exact h1⟩))
    clear hJ E0 E1 hK0 hK1 hK2 hJd hj hk hlt hE0 hE1 hY1
    gi_wp2
    refine Code.wpIn_mono (Q:=fun e a W1=>e=.normal/\a.defers=[]/\exB (fun b W1=>if b then J (upT j++[j]) W1 else Jx (upT j++[j]) W1) W1) ?_ ?_
    ·rintro e' ⟨tm, df⟩ W1 ⟨rfl, rfl, b, h1⟩
     have h2:Hid (J (upT (nmJ true n)) W1\/∃pre,(∃k,k<nmJ true n/\pre=upT (k+1))/\Jx pre W1):=Lib.hid (by
      cases b with
      | true=>rw[if_pos rfl] at h1;exact .inl (by unfold nmJ;rw[if_pos rfl,hjn.out,upT_succ];exact h1)
      | false=>rw[if_neg (by decide)] at h1;exact .inr ⟨_,⟨j,by unfold nmJ;rw[if_pos rfl,hjn.out];omega,rfl⟩,by rw[upT_succ];exact h1⟩)
     clear h1
     gi_wp2
     go_end0
     first
      | exact⟨⟨_,rfl⟩,h2.out⟩
      | exact⟨⟨_,rfl⟩,h2.out.imp (fun h=>⟨_,rfl,h⟩) id⟩
    ·have key2 := fun x3 x4 x5 x6 x7 x8 x9 x10 x11 x12 x13 x14 x15 x16 x17 x18 x19 x20 x21 x22 x23 x24 x25 x26 x27 x28 x29 x30 x31 x32 x33 x34 => key.out x3 x4 x5 x6 x7 x8 x9 x10 x11 x12 x13 x14 x15 x16 x17 x18 x19 x20 x21 x22 x23 x24 x25 x26 x27 x28 x29 x30 x31 x32 x33 x34
     rw[hb] at key2
     simp only[Tryz.f132,Option.getD,regOf,Nat.reduceEqDiff,reduceIte] at key2
     exact key2 _ _ _ _ _ _ _ _ _ _ _ _ _ _ _ _ _ _ _ _ _ _ _ _ _ _ _ _ _ _ _ _
end

set_option maxRecDepth 100000
section
def KCk:List Con:=[cChk]
def clV(s:Sh):V1:=⟨false,[.v (.bool (s.k==2))]⟩
def erB(z:Int):Option Mb:=some ⟨65,[.i z lim]⟩
def er0:Option Mb:=some ⟨65,[.k 0]⟩
def roV(s:Sh):V1:=⟨false,[roE s.n s.e]⟩
def ckD(s:Sh)(j:Nat):Ds:=⟨[(39,.le (inV (j:Int) 2000)),(37,.eq (roV s)),(38,.eq (lnE s.n)),(1,.eq (ptrN 0)),(2,.eq (ptrN 1)),(3,.eq (clV s))],shB s++[er0]⟩
def ckE(s:Sh):Ds:=⟨[(1,.eq (ptrN 0)),(2,.eq (ptrN 1)),(3,.eq (clV s))],shB s++[er0]⟩
def ckP(s:Sh):List Pf:=[pR (ptrN 0),pR (ptrN 1),pR (clV s)]++pSh s
theorem ck_round(s:Sh)(hn:s.n<=40)(k:Nat)(hk:k<s.n)(h:checkZ (s.e k)=0):Rnd [] KCk 31 18 [] (nF 31) (ckD s k) (ckD s (k+1)) .nm :=
 ⟨[true,false],[pT (lt_tt (show ((k:Nat):Int)<(s.n:Int) by omega)),pP (show 0<=((k:Nat):Int)/\((k:Nat):Int)<s.n by omega),pF (ne_F (show ¬checkZ (s.e k)≠0 by simpa using h)),pI k (by omega),pR (roV s),pR (lnE s.n)]++ckP s,by kernel_rfl⟩
theorem ck_good(s:Sh)(hn:s.n<=40)(h:errN s.e s.n=0):OrcOk Tryz.prog (lpC 31 18) ⟨nF 31,ckD s 0,.ex 1,ckE s⟩ :=
 orc (X:=[]) (K:=KCk) s.n (ckD s) (fun _=>[]) (by kernel_rfl) (fun _=>by kernel_rfl) (fun _ _=>LT.nil) (fun k hk=>ck_round s hn k hk (errN_0 h k hk))
  ⟨[false],[pF (lt_ff (show ¬((s.n:Nat):Int)<(s.n:Int) by omega))]++ckP s,by kernel_rfl⟩ nofun
theorem ck_bad(s:Sh)(hn:s.n<=40)(m:Nat)(hm:m<s.n)(h:∀k,k<m->checkZ (s.e k)=0)(h1:checkZ (s.e m)≠0):OrcOk Tryz.prog (lpC 31 18) ⟨nF 31,ckD s 0,.rt,⟨[(2,.eq (ptrN 1))],[none,erB (checkZ (s.e m))]⟩⟩ :=
 orc (X:=[]) (K:=KCk) m (ckD s) (fun _=>[]) (by kernel_rfl) (fun _=>by kernel_rfl) (fun _ _=>LT.nil) (fun k hk=>ck_round s hn k (by omega) (h k hk))
  ⟨[true,true],[pT (lt_tt (show ((m:Nat):Int)<(s.n:Int) by omega)),pP (show 0<=((m:Nat):Int)/\((m:Nat):Int)<s.n by omega),pT (ne_T h1),pR (ptrN 1),⟨checkZ (s.e m)=checkZ (s.e m),rfl⟩],by kernel_rfl⟩ nofun
def ckIn(s:Sh):List Pf:=[⟨(0:Int)=((0:Nat):Int),rfl⟩,pR (roV s),pR (lnE s.n)]++ckP s
def early(s:Sh):Prop:=(s.k≠1/\s.k≠2)\/(s.n:Int)<fewS s\/40<s.n\/errN s.e s.n≠0
theorem ck_early(s:Sh)(h:early s):Fok Tryz.prog 31 [shpV s] (.one (inV (chkS s) lim)):=by
 have kind:((s.k==1)=false/\(s.k==2)=false)\/((s.k==1)=false/\(s.k==2)=true)\/((s.k==1)=true/\(s.k==2)=false):=by
  simp only[beq_eq_false_iff_ne,beq_iff_eq,ne_eq];omega
 rcases kind with⟨h1,h2⟩|⟨h1,h2⟩|⟨h1,h2⟩
 ·have g1 : ¬ s.k = 1 := by simpa using h1
  have g2:¬s.k=2:=by simpa using h2
  exact Fok.vS (show chkS s=12 by unfold chkS;rw[if_pos ⟨g1,g2⟩]) (fok KCk [true,true,true] [pT (ne_T g1),pT (not_T h2),pT (not_T h2)] (by kernel_rfl))
 ·have g2 : s.k = 2 := by simpa using h2
  have g1:s.k≠1:=by omega
  have ef:fewS s=2:=by unfold fewS;rw[if_neg (by omega)]
  by_cases h0:(s.n:Int)=0
  ·exact Fok.vS (show chkS s=12 by unfold chkS;rw[if_neg (by omega),ef,if_pos (by omega)]) (fok KCk [true,false,true,true] [pT (ne_T g1),pF (not_F h2),pT (eq_tt h0),pT (eq_tt h0)] (by kernel_rfl))
  by_cases h3:(s.n:Int)<2
  ·exact Fok.vS (show chkS s=12 by unfold chkS;rw[if_neg (by omega),ef,if_pos h3]) (fok KCk [true,false,false,true,true] [pT (ne_T g1),pF (not_F h2),pF (eq_ff h0),pT h2,pT (lt_tt h3)] (by kernel_rfl))
  by_cases h4:(s.n:Int)>40
  ·exact Fok.vS (show chkS s=2 by unfold chkS;rw[if_neg (by omega),ef,if_neg h3,if_pos (by omega)]) (fok KCk [true,false,false,true,false,true] [pT (ne_T g1),pF (not_F h2),pF (eq_ff h0),pT h2,pF (lt_ff h3),pT (gt_T h4)] (by kernel_rfl))
  have hn:s.n<=40:=by omega
  have h5:errN s.e s.n≠0:=by unfold early at h;omega
  have e0:chkS s=errN s.e s.n:=by unfold chkS;rw[if_neg (by omega),ef,if_neg h3,if_neg (by omega),if_pos h5]
  obtain⟨m,k1,k2,k3⟩:=errN_n h5
  rw[e0,k2]
  rw[k2] at h5
  exact fokL [] KCk _ (LT.cons (ck_bad s hn m k1 k3 h5) LT.nil) [true,false,false,true,false,false] ([pT (ne_T g1),pF (not_F h2),pF (eq_ff h0),pT h2,pF (lt_ff h3),pF (gt_F h4)]++ckIn s) (by kernel_rfl)
 ·have g1 : s.k = 1 := by simpa using h1
  have ef:fewS s=1:=by unfold fewS;rw[if_pos g1]
  have n1:¬s.k≠1:=by omega
  by_cases h0:(s.n:Int)=0
  ·exact Fok.vS (show chkS s=12 by unfold chkS;rw[if_neg (by omega),ef,if_pos (by omega)]) (fok KCk [false,true,true] [pF (ne_F n1),pT (eq_tt h0),pT (eq_tt h0)] (by kernel_rfl))
  by_cases h4:(s.n:Int)>40
  ·exact Fok.vS (show chkS s=2 by unfold chkS;rw[if_neg (by omega),ef,if_neg (by omega),if_pos (by omega)]) (fok KCk [false,false,false,true] [pF (ne_F n1),pF (eq_ff h0),pF h2,pT (gt_T h4)] (by kernel_rfl))
  have hn:s.n<=40:=by omega
  have h5:errN s.e s.n≠0:=by unfold early at h;omega
  have e0:chkS s=errN s.e s.n:=by unfold chkS;rw[if_neg (by omega),ef,if_neg (by omega),if_neg (by omega),if_pos h5]
  obtain⟨m,k1,k2,k3⟩:=errN_n h5
  rw[e0,k2]
  rw[k2] at h5
  exact fokL [] KCk _ (LT.cons (ck_bad s hn m k1 k3 h5) LT.nil) [false,false,false,false] ([pF (ne_F n1),pF (eq_ff h0),pF h2,pF (gt_F h4)]++ckIn s) (by kernel_rfl)
theorem ck_pre(s:Sh)(h:¬early s):∃(q:List Bool) (pf:List Pf) (L:List (Nat×Orc)),LT 31 L/\preF [] KCk L 31 4 [shpV s] (ckE s) q=some (pf.map Pf.p):=by
 have hk:s.k=1\/s.k=2:=by unfold early at h;omega
 have hn:s.n<=40:=by unfold early at h;omega
 have h5:errN s.e s.n=0:=by unfold early at h;omega
 have hf:¬(s.n:Int)<fewS s:=by unfold early at h;omega
 have oc:=LT.cons (ck_good s hn h5) LT.nil
 rcases hk with g1|g2
 ·have ef : fewS s = 1 := by unfold fewS; rw [if_pos g1]
  exact⟨[false,false,false,false],[pF (ne_F (show ¬s.k≠1 by omega)),pF (eq_ff (show (s.n:Int)≠0 by omega)),pF (eq_ff (show s.k≠2 by omega)),pF (gt_F (show ¬(40:Int)<s.n by omega))]++ckIn s++ckP s,_,oc,by kernel_rfl⟩
 ·have ef : fewS s = 2 := by unfold fewS; rw [if_neg (by omega)]
  exact⟨[true,false,false,true,false,false],[pT (ne_T (show s.k≠1 by omega)),pF (not_F (eq_tt g2)),pF (eq_ff (show (s.n:Int)≠0 by omega)),pT (eq_tt g2),pF (lt_ff (show ¬(s.n:Int)<2 by omega)),pF (gt_F (show ¬(40:Int)<s.n by omega))]++ckIn s++ckP s,_,oc,by kernel_rfl⟩
end
end Go.Proofs.YteajakbpmeebnaaGreat
