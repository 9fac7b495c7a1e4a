import Derived.Test.YtghemgdfmldoeaaGreatS22
set_option linter.unusedVariables false
set_option linter.unusedSimpArgs false

namespace Go.Proofs.YtghemgdfmldoeaaGreat
open Go.RowKit

set_option maxRecDepth 100000
section
def upZ(e:Ed):Int:=if e.ay<e.by' then 1 else -1
theorem rayZ_out{e:Ed}{px py:Int}(h:py<min e.ay e.by'\/py >= max e.ay e.by'\/px >= max e.ax e.bx):rayZ e px py=0:=by
 unfold rayZ
 have hb:px >= max e.ax e.bx->¬beyZ e px py=true:=fun h=>by unfold beyZ;rw[if_neg (by omega),if_pos h];decide
 rcases h with h|h|h
 ·rw[if_neg (by omega),if_neg (by omega)]
 ·rw[if_neg (by omega),if_neg (by omega)]
 ·rw[if_neg (fun g=>hb h g.2.2),if_neg (fun g=>hb h g.2.2)]
theorem rayZ_in{e:Ed}{px py:Int}(h1:¬py<min e.ay e.by')(h2:¬py >= max e.ay e.by'):rayZ e px py=if beyZ e px py=true then upZ e else 0:=by
 unfold rayZ upZ
 by_cases h:e.ay<e.by'
 ·rw [if_pos h]
  by_cases hb:beyZ e px py=true
  ·rw[if_pos ⟨by omega,by omega,hb⟩,if_pos hb]
  ·rw[if_neg (fun g=>hb g.2.2),if_neg (fun g=>hb g.2.2),if_neg hb]
 ·rw [if_neg h, if_neg (by omega)]
  by_cases hb:beyZ e px py=true
  ·rw[if_pos ⟨by omega,by omega,hb⟩,if_pos hb]
  ·rw[if_neg (fun g=>hb g.2.2),if_neg hb]
theorem bey_l{e:Ed}{px py:Int}(hk:e.k=1)(h1:¬px<min e.ax e.bx)(h2:¬px >= max e.ax e.bx)(h:e.ay≠e.by'):(beyZ e px py=true) <-> (if e.ay<e.by' then 0<(e.bx-e.ax)*(py-e.ay)-(e.by'-e.ay)*(px-e.ax) else (e.bx-e.ax)*(py-e.ay)-(e.by'-e.ay)*(px-e.ax)<0):=by
 unfold beyZ beyL
 rw[if_neg h1,if_neg h2,if_pos hk]
 by_cases g:e.ay<e.by'
 ·rw [if_neg (by omega), if_pos g, decide_eq_true_eq]
  have e1:(px-e.ax)*(e.by'-e.ay)=(e.by'-e.ay)*(px-e.ax):=Int.mul_comm ..
  have e2:(py-e.ay)*(e.bx-e.ax)=(e.bx-e.ax)*(py-e.ay):=Int.mul_comm ..
  omega
 ·rw [if_pos (by omega), if_neg g, decide_eq_true_eq]
  have e1:(py-e.by')*(e.ax-e.bx)-(px-e.bx)*(e.ay-e.by') = -((e.bx-e.ax)*(py-e.ay)-(e.by'-e.ay)*(px-e.ax)):=by grind
  omega
theorem cray_1(ax ay bx by' cx cy px py:Int)(ho:(Ed.mk 1 ax ay bx by' cx cy).ok=true):Fok Tryz.prog 155 [edV ⟨1,ax,ay,bx,by',cx,cy⟩ 3 c26,ptV px py b27] (.one (inV (rayZ ⟨1,ax,ay,bx,by',cx,cy⟩ px py) lim)):=by
 by_cases h1:py<min ay by'
 ·rw[rayZ_out (.inl h1)];exact fok [cOfE] [false,true] [pF (not_F ho),pT (lt_tt h1)] (by kernel_rfl)
 by_cases h2:py >= max ay by'
 ·rw[rayZ_out (.inr (.inl h2))];exact fok [cOfE] [false,false,true] [pF (not_F ho),pF (lt_ff h1),pT (ge_tt h2)] (by kernel_rfl)
 by_cases h3:px >= max ax bx
 ·rw[rayZ_out (.inr (.inr h3))];exact fok [cOfE] [false,false,false,true] [pF (not_F ho),pF (lt_ff h1),pF (ge_ff h2),pT (ge_tt h3)] (by kernel_rfl)
 rw[rayZ_in (e:=⟨1,ax,ay,bx,by',cx,cy⟩) h1 h2]
 have hne:ay≠by':=by omega
 by_cases h4:px<min ax bx
 ·rw [if_pos (show beyZ ⟨1, ax, ay, bx, by', cx, cy⟩ px py = true by unfold beyZ; rw [if_pos h4])]
  unfold upZ
  by_cases h5:ay<by'
  ·rw[if_pos h5];exact fok [cOfE] [false,false,false,false,true,true] [pF (not_F ho),pF (lt_ff h1),pF (ge_ff h2),pF (ge_ff h3),pT (lt_tt h4),pT (lt_tt h5)] (by kernel_rfl)
  ·rw[if_neg h5];exact fok [cOfE] [false,false,false,false,true,false,true] [pF (not_F ho),pF (lt_ff h1),pF (ge_ff h2),pF (ge_ff h3),pT (lt_tt h4),pF (lt_ff h5),pT (gt_T (show by'<ay by omega))] (by kernel_rfl)
 have hb:=bey_l (e:=⟨1,ax,ay,bx,by',cx,cy⟩) (px:=px) (py:=py) rfl h4 h3 hne
 unfold upZ
 by_cases h5:ay<by'
 ·simp only [if_pos h5] at hb ⊢
  by_cases h6:(bx-ax)*(py-ay)-(by'-ay)*(px-ax)>0
  ·rw[if_pos (hb.2 h6)];exact fok [cOfE] [false,false,false,false,false,true,true,true] [pF (not_F ho),pF (lt_ff h1),pF (ge_ff h2),pF (ge_ff h3),pF (lt_ff h4),pT (gt_T h6),pT (lt_tt h5),pT (lt_tt h5)] (by kernel_rfl)
  ·rw [if_neg (fun g => h6 (hb.1 g))]
   by_cases h7:(bx-ax)*(py-ay)-(by'-ay)*(px-ax)<0
   ·exact fok [cOfE] [false,false,false,false,false,false,true,true] [pF (not_F ho),pF (lt_ff h1),pF (ge_ff h2),pF (ge_ff h3),pF (lt_ff h4),pF (gt_F h6),pT (lt_tt h7),pT (lt_tt h5)] (by kernel_rfl)
   ·exact fok [cOfE] [false,false,false,false,false,false,false,true] [pF (not_F ho),pF (lt_ff h1),pF (ge_ff h2),pF (ge_ff h3),pF (lt_ff h4),pF (gt_F h6),pF (lt_ff h7),pT (lt_tt h5)] (by kernel_rfl)
 ·simp only [if_neg h5] at hb ⊢
  have h8:by'<ay:=by omega
  by_cases h6:(bx-ax)*(py-ay)-(by'-ay)*(px-ax)>0
  ·rw[if_neg (fun g=>by have:=hb.1 g;omega)];exact fok [cOfE] [false,false,false,false,false,true,false,true] [pF (not_F ho),pF (lt_ff h1),pF (ge_ff h2),pF (ge_ff h3),pF (lt_ff h4),pT (gt_T h6),pF (lt_ff h5),pT (gt_T h8)] (by kernel_rfl)
  ·by_cases h7 : (bx - ax) * (py - ay) - (by' - ay) * (px - ax) < 0
   ·rw[if_pos (hb.2 h7)];exact fok [cOfE] [false,false,false,false,false,false,true,false,true,false,true] [pF (not_F ho),pF (lt_ff h1),pF (ge_ff h2),pF (ge_ff h3),pF (lt_ff h4),pF (gt_F h6),pT (lt_tt h7),pF (lt_ff h5),pT (gt_T h8),pF (lt_ff h5),pT (gt_T h8)] (by kernel_rfl)
   ·rw[if_neg (fun g=>h7 (hb.1 g))];exact fok [cOfE] [false,false,false,false,false,false,false,false,true] [pF (not_F ho),pF (lt_ff h1),pF (ge_ff h2),pF (ge_ff h3),pF (lt_ff h4),pF (gt_F h6),pF (lt_ff h7),pF (lt_ff h5),pT (gt_T h8)] (by kernel_rfl)
theorem arc_ax{e:Ed}(h:e.ok=true)(hk:¬e.k=1):(e.ax=e.cx/\e.bx≠e.cx/\e.ay≠e.by')\/(e.ax≠e.cx/\e.bx=e.cx/\e.ay≠e.by'):=by
 have hk':=kind_of h
 unfold Ed.ok at h
 simp only[Bool.and_eq_true] at h
 obtain⟨_,h2⟩:=h
 rcases hk' with k|k|k
 ·exact absurd k hk
 ·rw [k] at h2
  simp only[show ¬(2:Int)=1 by decide,if_false,if_true,Ed.quarter,quarterB,Bool.and_eq_true,beq_iff_eq,rot,bne_iff_ne,ne_eq] at h2
  obtain⟨h1,h3,h4⟩:=h2
  by_cases g:e.ax-e.cx=0<;>by_cases f:e.ay-e.cy=0<;>first|omega|exact (h1 (by rw[g,f])).elim|exact (h1 (by rw[beq_eq_false_iff_ne.2 g,beq_eq_false_iff_ne.2 f])).elim
 ·rw [k] at h2
  simp only[show ¬(3:Int)=1 by decide,show ¬(3:Int)=2 by decide,if_false,if_true,Ed.quarter,quarterB,Bool.and_eq_true,beq_iff_eq,rot,bne_iff_ne,ne_eq] at h2
  obtain⟨h1,h3,h4⟩:=h2
  by_cases g:e.ax-e.cx=0<;>by_cases f:e.ay-e.cy=0<;>first|omega|exact (h1 (by rw[g,f])).elim|exact (h1 (by rw[beq_eq_false_iff_ne.2 g,beq_eq_false_iff_ne.2 f])).elim
def pwZ(e:Ed)(px py:Int):Int:=((px-e.cx)*(px-e.cx)+(py-e.cy)*(py-e.cy))-((e.ax-e.cx)*(e.ax-e.cx)+(e.ay-e.cy)*(e.ay-e.cy))
theorem bey_a{e:Ed}{px py:Int}(ho:e.ok=true)(hk:¬e.k=1)(h1:¬px<min e.ax e.bx)(h2:¬px >= max e.ax e.bx):(beyZ e px py=true) <-> (if e.ax>e.cx\/e.bx>e.cx then pwZ e px py<0 else pwZ e px py>0):=by
 have hx:=arc_ax ho hk
 have hr:=radZ_sq ho hk
 unfold beyZ beyA pwZ
 rw[if_neg h1,if_neg h2,if_neg hk,<- hr]
 by_cases g:e.ax>e.cx\/e.bx>e.cx
 ·rw [if_pos (by omega), if_pos g, decide_eq_true_eq]
  omega
 ·rw [if_neg (by omega), if_neg g, Bool.and_eq_true, decide_eq_true_eq, decide_eq_true_eq]
  omega
theorem cray_a(k ax ay bx by' cx cy px py:Int)(hk:k=2\/k=3)(ho:(Ed.mk k ax ay bx by' cx cy).ok=true):Fok Tryz.prog 155 [edV ⟨k,ax,ay,bx,by',cx,cy⟩ 3 c26,ptV px py b27] (.one (inV (rayZ ⟨k,ax,ay,bx,by',cx,cy⟩ px py) lim)):=by
 have hk1:¬k=1:=by omega
 by_cases h1:py<min ay by'
 ·rw[rayZ_out (.inl h1)];rcases hk with rfl|rfl<;>exact fok [cOfE] [false,true] [pF (not_F ho),pT (lt_tt h1)] (by kernel_rfl)
 by_cases h2:py >= max ay by'
 ·rw[rayZ_out (.inr (.inl h2))];rcases hk with rfl|rfl<;>exact fok [cOfE] [false,false,true] [pF (not_F ho),pF (lt_ff h1),pT (ge_tt h2)] (by kernel_rfl)
 by_cases h3:px >= max ax bx
 ·rw[rayZ_out (.inr (.inr h3))];rcases hk with rfl|rfl<;>exact fok [cOfE] [false,false,false,true] [pF (not_F ho),pF (lt_ff h1),pF (ge_ff h2),pT (ge_tt h3)] (by kernel_rfl)
 rw[rayZ_in (e:=⟨k,ax,ay,bx,by',cx,cy⟩) h1 h2]
 by_cases h4:px<min ax bx
 ·rw [if_pos (show beyZ ⟨k, ax, ay, bx, by', cx, cy⟩ px py = true by unfold beyZ; rw [if_pos h4])]
  unfold upZ
  by_cases h5:ay<by'
  ·rw[if_pos h5];rcases hk with rfl|rfl<;>exact fok [cOfE] [false,false,false,false,true,true] [pF (not_F ho),pF (lt_ff h1),pF (ge_ff h2),pF (ge_ff h3),pT (lt_tt h4),pT (lt_tt h5)] (by kernel_rfl)
  ·rw[if_neg h5];rcases hk with rfl|rfl<;>exact fok [cOfE] [false,false,false,false,true,false,true] [pF (not_F ho),pF (lt_ff h1),pF (ge_ff h2),pF (ge_ff h3),pT (lt_tt h4),pF (lt_ff h5),pT (gt_T (show by'<ay by omega))] (by kernel_rfl)
 have hb:=bey_a (e:=⟨k,ax,ay,bx,by',cx,cy⟩) (px:=px) (py:=py) ho hk1 h4 h3
 have hx:=arc_ax ho hk1
 unfold upZ
 simp only[pwZ] at hb hx ⊢
 by_cases h5:ax>cx
 ·rw [if_pos (.inl h5)] at hb
  have h9:¬px<cx:=by omega
  by_cases h6:((px-cx)*(px-cx)+(py-cy)*(py-cy))-((ax-cx)*(ax-cx)+(ay-cy)*(ay-cy))<0
  ·rw [if_pos (hb.2 h6)]
   by_cases h7:ay<by'
   ·rw[if_pos h7];rcases hk with rfl|rfl<;>exact fok [cOfE] [false,false,false,false,false,true,false,true,true] [pF (not_F ho),pF (lt_ff h1),pF (ge_ff h2),pF (ge_ff h3),pF (lt_ff h4),pT (gt_T h5),pF (lt_ff h9),pT (lt_tt h6),pT (lt_tt h7)] (by kernel_rfl)
   ·rw[if_neg h7];rcases hk with rfl|rfl<;>exact fok [cOfE] [false,false,false,false,false,true,false,true,false,true] [pF (not_F ho),pF (lt_ff h1),pF (ge_ff h2),pF (ge_ff h3),pF (lt_ff h4),pT (gt_T h5),pF (lt_ff h9),pT (lt_tt h6),pF (lt_ff h7),pT (gt_T (show by'<ay by omega))] (by kernel_rfl)
  ·rw[if_neg (fun g=>h6 (hb.1 g))];rcases hk with rfl|rfl<;>exact fok [cOfE] [false,false,false,false,false,true,false,false] [pF (not_F ho),pF (lt_ff h1),pF (ge_ff h2),pF (ge_ff h3),pF (lt_ff h4),pT (gt_T h5),pF (lt_ff h9),pF (lt_ff h6)] (by kernel_rfl)
 by_cases h5':bx>cx
 ·rw [if_pos (.inr h5')] at hb
  have h9:¬px<cx:=by omega
  by_cases h6:((px-cx)*(px-cx)+(py-cy)*(py-cy))-((ax-cx)*(ax-cx)+(ay-cy)*(ay-cy))<0
  ·rw [if_pos (hb.2 h6)]
   by_cases h7:ay<by'
   ·rw[if_pos h7];rcases hk with rfl|rfl<;>exact fok [cOfE] [false,false,false,false,false,false,true,false,true,true] [pF (not_F ho),pF (lt_ff h1),pF (ge_ff h2),pF (ge_ff h3),pF (lt_ff h4),pF (gt_F h5),pT (gt_T h5'),pF (lt_ff h9),pT (lt_tt h6),pT (lt_tt h7)] (by kernel_rfl)
   ·rw[if_neg h7];rcases hk with rfl|rfl<;>exact fok [cOfE] [false,false,false,false,false,false,true,false,true,false,true] [pF (not_F ho),pF (lt_ff h1),pF (ge_ff h2),pF (ge_ff h3),pF (lt_ff h4),pF (gt_F h5),pT (gt_T h5'),pF (lt_ff h9),pT (lt_tt h6),pF (lt_ff h7),pT (gt_T (show by'<ay by omega))] (by kernel_rfl)
  ·rw[if_neg (fun g=>h6 (hb.1 g))];rcases hk with rfl|rfl<;>exact fok [cOfE] [false,false,false,false,false,false,true,false,false] [pF (not_F ho),pF (lt_ff h1),pF (ge_ff h2),pF (ge_ff h3),pF (lt_ff h4),pF (gt_F h5),pT (gt_T h5'),pF (lt_ff h9),pF (lt_ff h6)] (by kernel_rfl)
 rw[if_neg (by omega)] at hb
 have h9:px<cx:=by omega
 by_cases h6:((px-cx)*(px-cx)+(py-cy)*(py-cy))-((ax-cx)*(ax-cx)+(ay-cy)*(ay-cy))>0
 ·rw [if_pos (hb.2 h6)]
  by_cases h7:ay<by'
  ·rw[if_pos h7];rcases hk with rfl|rfl<;>exact fok [cOfE] [false,false,false,false,false,false,false,true,true,true] [pF (not_F ho),pF (lt_ff h1),pF (ge_ff h2),pF (ge_ff h3),pF (lt_ff h4),pF (gt_F h5),pF (gt_F h5'),pT (lt_tt h9),pT (gt_T h6),pT (lt_tt h7)] (by kernel_rfl)
  ·rw[if_neg h7];rcases hk with rfl|rfl<;>exact fok [cOfE] [false,false,false,false,false,false,false,true,true,false,true] [pF (not_F ho),pF (lt_ff h1),pF (ge_ff h2),pF (ge_ff h3),pF (lt_ff h4),pF (gt_F h5),pF (gt_F h5'),pT (lt_tt h9),pT (gt_T h6),pF (lt_ff h7),pT (gt_T (show by'<ay by omega))] (by kernel_rfl)
 ·rw[if_neg (fun g=>h6 (hb.1 g))];rcases hk with rfl|rfl<;>exact fok [cOfE] [false,false,false,false,false,false,false,true,false] [pF (not_F ho),pF (lt_ff h1),pF (ge_ff h2),pF (ge_ff h3),pF (lt_ff h4),pF (gt_F h5),pF (gt_F h5'),pT (lt_tt h9),pF (gt_F h6)] (by kernel_rfl)
theorem cray_ok(e:Ed)(px py:Int)(ho:e.ok=true):Fok Tryz.prog 155 [edV e 3 c26,ptV px py b27] (.one (inV (rayZ e px py) lim)):=by
 obtain⟨k,ax,ay,bx,by',cx,cy⟩:=e
 rcases kind_of ho with h|h|h
 ·obtain rfl : k = 1 := h
  exact cray_1 ax ay bx by' cx cy px py ho
 ·exact cray_a k ax ay bx by' cx cy px py (.inl h) ho
 ·exact cray_a k ax ay bx by' cx cy px py (.inr h) ho
def cRay:Con:=epC 155 b27 (fun e px py=>.one (inV (rayZ e px py) 1)) fun e px py h _=>(cray_ok e px py h).bd (rayZ_bd e px py)
end

set_option maxRecDepth 100000
section
def frZ(x y a b:Int):Int:=(x-a)*(x-a)+(y-b)*(y-b)
def wiZ(e:Ed)(px py:Int):Int:=if e.k=3 then min ((e.bx-e.cx)*(py-e.cy)-(e.by'-e.cy)*(px-e.cx)) ((px-e.cx)*(e.ay-e.cy)-(py-e.cy)*(e.ax-e.cx)) else min ((e.ax-e.cx)*(py-e.cy)-(e.ay-e.cy)*(px-e.cx)) ((px-e.cx)*(e.by'-e.cy)-(py-e.cy)*(e.bx-e.cx))
def alZ(e:Ed)(px py:Int):Int:=(px-e.ax)*(e.bx-e.ax)+(py-e.ay)*(e.by'-e.ay)
def loZ(e:Ed):Int:=(e.bx-e.ax)*(e.bx-e.ax)+(e.by'-e.ay)*(e.by'-e.ay)
def crZ(e:Ed)(px py:Int):Int:=(e.bx-e.ax)*(py-e.ay)-(e.by'-e.ay)*(px-e.ax)
def nearC(e:Ed)(px py r:Int):Bool :=
 if frZ px py e.ax e.ay<=r*r then true else if frZ px py e.bx e.by'<=r*r then true else
 if e.k=1 then (if alZ e px py<=0 then false else if alZ e px py >= loZ e then false else decide (crZ e px py*crZ e px py<=r*r*loZ e))
 else if wiZ e px py >= 0 then (if frZ px py e.cx e.cy<=(radZ e+r)*(radZ e+r) then decide (frZ px py e.cx e.cy >= max (radZ e-r) 0*max (radZ e-r) 0) else false) else false
theorem sq0(x:Int):0<=x*x:=by rw[<- Int.natAbs_mul_self];omega
theorem ab_sq(c:Int):max c (0-c)*max c (0-c)=c*c:=by
 rcases Int.le_total 0 c with h|h
 ·rw[show max c (0-c)=c by omega]
 ·rw[show max c (0-c) = -c by omega,Int.neg_mul_neg]
theorem wd_eq(c r l:Int)(hl:0<=l):decide (max c (0-c)*max c (0-c)/18446744073709551616<r*r*l/18446744073709551616\/(max c (0-c)*max c (0-c)/18446744073709551616=r*r*l/18446744073709551616/\max c (0-c)*max c (0-c)%18446744073709551616<=r*r*l%18446744073709551616))=decide (c*c<=r*r*l):=by
 rw[ab_sq]
 exact decide_eq_decide.2 (words_le (sq0 c) (Int.mul_nonneg (sq0 r) hl))
def KN:List Con:=[cRad,cProd,cAtM]
theorem near_ok(e:Ed)(px py r:Int)(ho:e.ok=true):Fok Tryz.prog 154 [edV e 3 c26,ptV px py b27,inV r 4194304] (.one (blV (nearC e px py r))):=by
 unfold nearC
 by_cases h1:frZ px py e.ax e.ay<=r*r
 ·rw[if_pos h1];exact fok KN [true] [pT (le_tt h1)] (by kernel_rfl)
 rw[if_neg h1]
 by_cases h2:frZ px py e.bx e.by'<=r*r
 ·rw[if_pos h2];exact fok KN [false,true] [pF (le_ff h1),pT (le_tt h2)] (by kernel_rfl)
 rw[if_neg h2]
 by_cases h3:e.k=1
 ·rw [if_pos h3]
  by_cases h4:alZ e px py<=0
  ·rw[if_pos h4];exact fok KN [false,false,false,true] [pF (le_ff h1),pF (le_ff h2),pF (ne_F (by simpa using h3)),pT (le_tt h4)] (by kernel_rfl)
  rw[if_neg h4]
  by_cases h5:alZ e px py >= loZ e
  ·rw[if_pos h5];exact fok KN [false,false,false,false,true] [pF (le_ff h1),pF (le_ff h2),pF (ne_F (by simpa using h3)),pF (le_ff h4),pT (ge_tt h5)] (by kernel_rfl)
  rw[if_neg h5]
  have hl:0<=loZ e:=by have:=sq0 (e.bx-e.ax);have:=sq0 (e.by'-e.ay);unfold loZ;omega
  have ha:0<=max (crZ e px py) (0-crZ e px py):=by omega
  rw[<- wd_eq _ _ _ hl]
  exact fok KN [false,false,false,false,false] [pF (le_ff h1),pF (le_ff h2),pF (ne_F (by simpa using h3)),pF (le_ff h4),pF (ge_ff h5),pP ha,pP ha,pP (show 0<=r*r from sq0 r),pP hl] (by kernel_rfl)
 rw[if_neg h3]
 have g3:(e.k != 1)=true:=by simpa using h3
 unfold wiZ
 by_cases h4:e.k=3
 ·rw [if_pos h4]
  by_cases h5:min ((e.bx-e.cx)*(py-e.cy)-(e.by'-e.cy)*(px-e.cx)) ((px-e.cx)*(e.ay-e.cy)-(py-e.cy)*(e.ax-e.cx)) >= 0
  ·rw [if_pos h5]
   by_cases h6:frZ px py e.cx e.cy<=(radZ e+r)*(radZ e+r)
   ·rw[if_pos h6];exact fok KN [false,false,true,true,true,true] [pF (le_ff h1),pF (le_ff h2),pT g3,pT (eq_tt h4),pP ho,pT (ge_tt h5),pT (le_tt h6)] (by kernel_rfl)
   ·rw[if_neg h6];exact fok KN [false,false,true,true,true,false] [pF (le_ff h1),pF (le_ff h2),pT g3,pT (eq_tt h4),pP ho,pT (ge_tt h5),pF (le_ff h6)] (by kernel_rfl)
  ·rw[if_neg h5];exact fok KN [false,false,true,true,false] [pF (le_ff h1),pF (le_ff h2),pT g3,pT (eq_tt h4),pP ho,pF (ge_ff h5)] (by kernel_rfl)
 ·rw [if_neg h4]
  by_cases h5:min ((e.ax-e.cx)*(py-e.cy)-(e.ay-e.cy)*(px-e.cx)) ((px-e.cx)*(e.by'-e.cy)-(py-e.cy)*(e.bx-e.cx)) >= 0
  ·rw [if_pos h5]
   by_cases h6:frZ px py e.cx e.cy<=(radZ e+r)*(radZ e+r)
   ·rw[if_pos h6];exact fok KN [false,false,true,false,true,true] [pF (le_ff h1),pF (le_ff h2),pT g3,pF (eq_ff h4),pP ho,pT (ge_tt h5),pT (le_tt h6)] (by kernel_rfl)
   ·rw[if_neg h6];exact fok KN [false,false,true,false,true,false] [pF (le_ff h1),pF (le_ff h2),pT g3,pF (eq_ff h4),pP ho,pT (ge_tt h5),pF (le_ff h6)] (by kernel_rfl)
  ·rw[if_neg h5];exact fok KN [false,false,true,false,false] [pF (le_ff h1),pF (le_ff h2),pT g3,pF (eq_ff h4),pP ho,pF (ge_ff h5)] (by kernel_rfl)
def eprC(f:FuncId)(g:Ed->Int->Int->Int->AV)(h:∀e px py r,e.ok=true->Bd b27 px py->(0<=r/\r<=4194304)->Fok Tryz.prog f [edV e 3 c26,ptV px py b27,inV r 4194304] (g e px py r)):Con where
 f:=f
 g:=fun | [⟨true,l⟩,⟨true,m⟩,⟨false,[.i r _]⟩]=>(match toEd l,ptB m with|some e,some p=>some (g e p.1 p.2 r,[e.ok=true,Bd b27 p.1 p.2,0<=r/\r<=4194304])|_,_=>none)|_=>none
 ok:=by
  intro args res ps h' hp
  split at h'<;>try cases h'
  split at h'<;>cases h'
  rename_i he hq
  exact (h _ _ _ _ hp.1 hp.2.1 hp.2.2.1).pre fun W=>rvs_1 (ed_ok he hp.1) (rvs_1 (ptB_rep hq hp.2.1) (rvs_1 (fun v hv=>RepI.val ⟨hv.scal.1,by have:=hp.2.2.1;omega,hv.scal.2.2⟩) rvs_0))
def cNear:Con:=eprC 154 (fun e px py r=>.one (blV (nearC e px py r))) fun e px py r ho _ _=>near_ok e px py r ho
end
def bX0(s:Sh):Int:=if s.n=0 then 0 else IntKind.i64.wrap (x0N s.e (s.n-1)-s.r)
def bY0(s:Sh):Int:=if s.n=0 then 0 else IntKind.i64.wrap (y0N s.e (s.n-1)-s.r)
def bX1(s:Sh):Int:=if s.n=0 then 0 else IntKind.i64.wrap (x1N s.e (s.n-1)+s.r)
def bY1(s:Sh):Int:=if s.n=0 then 0 else IntKind.i64.wrap (y1N s.e (s.n-1)+s.r)
theorem boxV_eq(s:Sh):boxV s=rcV (bX0 s) (bY0 s) (bX1 s) (bY1 s):=by
 unfold boxV bX0 bY0 bX1 bY1
 by_cases h:s.n=0<;>simp only[h,if_true,if_false]
def cBoxQ:Con:=shC 124 (fun s=>.one (rcV (bX0 s) (bY0 s) (bX1 s) (bY1 s))) (fun s=>[s.n<=1000]) fun s h=>boxV_eq s ▸ sbox_ok s h.1
def inBx(s:Sh)(px py:Int):Bool:=inB (bX0 s) (bY0 s) (bX1 s) (bY1 s) px py
def wnd(e:Nat->Ed)(px py:Int):Nat->Int
 | 0=>0
 | k+1=>wnd e px py k+rayZ (e k) px py
def farB(s:Sh)(px py:Int)(k:Nat):Bool:=!nearC (s.e k) px py s.r
def insS(s:Sh)(px py:Int):Bool:=if chkS s≠0 then false else if inBx s px py=false then false else if allB (farB s px py) s.n=false then true else decide (s.k=2)&&decide (wnd s.e px py s.n≠0)
theorem wnd_bd(e:Nat->Ed)(px py:Int):∀n,(wnd e px py n).natAbs<=n
 | 0=>Nat.le_refl _
 | n+1=>by
  have:=wnd_bd e px py n
  have:=rayZ_bd (e n) px py
  unfold wnd
  omega
structure Good (s:Sh):Prop where
 n1:1<=s.n
 n40:s.n<=40
 ok:∀k,k<s.n->(s.e k).ok=true
 r:0<=s.r/\s.r<=4194304
 k:s.k=1\/s.k=2
theorem ok_of0{e:Ed}(h:checkZ e=0):e.ok=true:=by
 unfold checkZ at h
 split at h
 ·assumption
 ·split at h<;>cases h
theorem chk_good{s:Sh}(h:chkS s=0):Good s:=by
 unfold chkS at h
 split at h
 ·cases h
 rename_i hk
 split at h
 ·cases h
 rename_i h1
 split at h
 ·cases h
 rename_i h2
 split at h
 ·rename_i h3;exact absurd h h3
 rename_i h3
 split at h
 ·cases h
 split at h
 ·cases h
 rename_i h5
 have hf:1<=fewS s:=by unfold fewS;split<;>decide
 exact⟨by omega,by omega,fun k hk=>ok_of0 (errN_0 (by simpa using h3) k hk),by omega,by omega⟩
theorem bx_bd{e:Nat->Ed}:∀ {m:Nat},(∀k,k<=m->(e k).ok=true)->(-67108864<=x0N e m/\x0N e m<=67108864)/\(-67108864<=y0N e m/\y0N e m<=67108864)/\(-67108864<=x1N e m/\x1N e m<=67108864)/\(-67108864<=y1N e m/\y1N e m<=67108864)
 | 0,h=>by
  obtain⟨⟨h1,h2⟩,⟨h3,h4⟩,_⟩:=ok_right (h 0 (Nat.le_refl _))
  unfold Co at h1 h2 h3 h4
  unfold x0N y0N x1N y1N
  omega
 | m+1,h=>by
  obtain⟨k1,k2,k3,k4⟩:=bx_bd (m:=m) fun k hk=>h k (by omega)
  obtain⟨⟨h1,h2⟩,⟨h3,h4⟩,_⟩:=ok_right (h (m+1) (Nat.le_refl _))
  unfold Co at h1 h2 h3 h4
  unfold x0N y0N x1N y1N
  omega
theorem in_bd{s:Sh}{px py:Int}(g:Good s)(h:inBx s px py=true):Bd b27 px py:=by
 obtain⟨h1,h2,h3,h4⟩:=bx_bd (e:=s.e) (m:=s.n-1) fun k hk=>g.ok k (by have:=g.n1;omega)
 have n0:¬s.n=0:=by have:=g.n1;omega
 have hr:=g.r
 unfold inBx inB bX0 bY0 bX1 bY1 at h
 simp only[if_neg n0,Bool.and_eq_true,decide_eq_true_eq] at h
 rw[wrap_in (by unfold I64;omega),wrap_in (by unfold I64;omega),wrap_in (by unfold I64;omega),wrap_in (by unfold I64;omega)] at h
 unfold Bd b27
 omega
def edA(e:Ed):Value:=.agg #[.int .i64 e.k,.int .i64 e.ax,.int .i64 e.ay,.int .i64 e.bx,.int .i64 e.by',.int .i64 e.cx,.int .i64 e.cy]
structure EdAt (w:World) (g o:Nat) (e:Ed):Prop where
 c0:w.cell? ⟨g,o,none⟩=some (.int .i64 e.k)
 c1:w.cell? ⟨g,o+1,none⟩=some (.int .i64 e.ax)
 c2:w.cell? ⟨g,o+2,none⟩=some (.int .i64 e.ay)
 c3:w.cell? ⟨g,o+3,none⟩=some (.int .i64 e.bx)
 c4:w.cell? ⟨g,o+4,none⟩=some (.int .i64 e.by')
 c5:w.cell? ⟨g,o+5,none⟩=some (.int .i64 e.cx)
 c6:w.cell? ⟨g,o+6,none⟩=some (.int .i64 e.cy)
theorem EdAt.below{w w':World}{v g o:Nat}{e:Ed}(h:EdAt w g o e)(hb:Below v w w')(hg:g<v):EdAt w' g o e :=
 ⟨(hb.cell (p:=⟨g,o,none⟩) hg).trans h.c0,(hb.cell (p:=⟨g,_,none⟩) hg).trans h.c1,(hb.cell (p:=⟨g,_,none⟩) hg).trans h.c2,(hb.cell (p:=⟨g,_,none⟩) hg).trans h.c3,(hb.cell (p:=⟨g,_,none⟩) hg).trans h.c4,(hb.cell (p:=⟨g,_,none⟩) hg).trans h.c5,(hb.cell (p:=⟨g,_,none⟩) hg).trans h.c6⟩
def EdRow(v:Nat)(w:World)(p:Option Addr)(n:Nat)(e:Nat->Ed):Prop:=∀i,i<n->∃g o,p=some ⟨g,o,none⟩/\g<v/\EdAt w g (o+i*7) (e i)
theorem EdRow.below{w w':World}{v n:Nat}{p:Option Addr}{e:Nat->Ed}(h:EdRow v w p n e)(hb:Below v w w'):EdRow v w' p n e:=fun i hi=>by
 obtain⟨g,o,h1,h2,h3⟩:=h i hi
 exact⟨g,o,h1,h2,h3.below hb h2⟩
def KpJ(v B1 B2:Nat)(W W':World):Prop:=Below v W W'/\(∀o,W'.cell? ⟨B1,o,none⟩=W.cell? ⟨B1,o,none⟩)/\∀o,W'.cell? ⟨B2,o,none⟩=W.cell? ⟨B2,o,none⟩
theorem KpJ.trans{v B1 B2:Nat}{A B C:World}(h:KpJ v B1 B2 A B)(k:KpJ v B1 B2 B C):KpJ v B1 B2 A C:=⟨h.1.trans k.1,fun o=>(k.2.1 o).trans (h.2.1 o),fun o=>(k.2.2 o).trans (h.2.2 o)⟩
def upT(k:Nat):List Nat:=List.range k
theorem upT_succ(k:Nat):upT (k+1)=upT k++[k]:=List.range_succ
theorem upT_len(k:Nat):(upT k).length=k:=List.length_range
def nmJ(cl:Bool)(n:Nat):Nat:=if cl then n else n-1
def nx(n i:Nat):Nat:=if i+1<n then i+1 else 0
end Go.Proofs.YtghemgdfmldoeaaGreat
