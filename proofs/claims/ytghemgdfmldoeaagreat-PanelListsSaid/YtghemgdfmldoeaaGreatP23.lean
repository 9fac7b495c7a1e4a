import Derived.Test.YtghemgdfmldoeaaGreatP22
set_option linter.unusedVariables false
set_option linter.unusedSimpArgs false
namespace Go.Proofs.YtghemgdfmldoeaaGreat
open Go.RowKit
set_option maxRecDepth 100000
section
def xb(e:Ed):Int:=if e.ay<e.by' then 1 else -1
theorem wI{e:Ed}{px py:Int}(h:py<min e.ay e.by'\/py >= max e.ay e.by'\/px >= max e.ax e.bx):lR e px py=0:=by
 unfold lR;have hb:px >= max e.ax e.bx->¬kw e px py=true:=λh=>by unfold kw;rw[if_neg (by omega),if_pos h];decide
 rcases h with h|h|h
 ·rw[if_neg (by omega),if_neg (by omega)]
 ·rw[if_neg (by omega),if_neg (by omega)]
 ·rw[if_neg (λg=>hb h g.2.2),if_neg (λg=>hb h g.2.2)]
theorem Rx{e:Ed}{px py:Int}(h1:¬py<min e.ay e.by')(h2:¬py >= max e.ay e.by'):lR e px py=if kw e px py=true then xb e else 0:=by
 unfold lR xb;by_cases h:e.ay<e.by'
 ·rw [if_pos h];by_cases hb:kw e px py=true
  ·rw[if_pos ⟨by omega,by omega,hb⟩,if_pos hb]
  ·rw[if_neg (λg=>hb g.2.2),if_neg (λg=>hb g.2.2),if_neg hb]
 ·rw [if_neg h, if_neg (by omega)];by_cases hb:kw e px py=true
  ·rw[if_pos ⟨by omega,by omega,hb⟩,if_pos hb]
  ·rw[if_neg (λg=>hb g.2.2),if_neg hb]
theorem VV{e:Ed}{px py:Int}(hk:e.k=1)(h1:¬px<min e.ax e.bx)(h2:¬px >= max e.ax e.bx)(h:e.ay≠e.by'):(kw e px py=true) <-> (if e.ay<e.by' then 0<(e.bx-e.ax)*(py-e.ay)-(e.by'-e.ay)*(px-e.ax) else (e.bx-e.ax)*(py-e.ay)-(e.by'-e.ay)*(px-e.ax)<0):=by
 unfold kw MH;rw[if_neg h1,if_neg h2,if_pos hk];by_cases g:e.ay<e.by'
 ·rw [if_neg (by omega), if_pos g, decide_eq_true_eq];have e1:(px-e.ax)*(e.by'-e.ay)=(e.by'-e.ay)*(px-e.ax):=Int.mul_comm ..;have e2:(py-e.ay)*(e.bx-e.ax)=(e.bx-e.ax)*(py-e.ay):=Int.mul_comm ..;omega
 ·rw [if_pos (by omega), if_neg g, decide_eq_true_eq];have e1:(py-e.by')*(e.ax-e.bx)-(px-e.bx)*(e.ay-e.by') = -((e.bx-e.ax)*(py-e.ay)-(e.by'-e.ay)*(px-e.ax)):=by grind
  omega
theorem Yb(ax ay bx by' cx cy px py:Int)(ho:(Ed.mk 1 ax ay bx by' cx cy).ok=true):ae Tryz.prog 155 [aO ⟨1,ax,ay,bx,by',cx,cy⟩ 3 aC,ew px py b27] (.one (aj (lR ⟨1,ax,ay,bx,by',cx,cy⟩ px py) lim)):=by
 by_cases h1:py<min ay by'
 ·rw[wI (.inl h1)];exact ad [bM] [false,true] [pF (ci ho),pT (eu h1)] (by kernel_rfl)
 by_cases h2:py >= max ay by'
 ·rw[wI (.inr (.inl h2))];exact ad [bM] [false,false,true] [pF (ci ho),pF (aR h1),pT (qu h2)] (by kernel_rfl)
 by_cases h3:px >= max ax bx
 ·rw[wI (.inr (.inr h3))];exact ad [bM] [false,false,false,true] [pF (ci ho),pF (aR h1),pF (cG h2),pT (qu h3)] (by kernel_rfl)
 rw[Rx (e:=⟨1,ax,ay,bx,by',cx,cy⟩) h1 h2];have hne:ay≠by':=by omega
 by_cases h4:px<min ax bx
 ·rw [if_pos (show kw ⟨1, ax, ay, bx, by', cx, cy⟩ px py = true by unfold kw; rw [if_pos h4])];unfold xb;by_cases h5:ay<by'
  ·rw[if_pos h5];exact ad [bM] [false,false,false,false,true,true] [pF (ci ho),pF (aR h1),pF (cG h2),pF (cG h3),pT (eu h4),pT (eu h5)] (by kernel_rfl)
  ·rw[if_neg h5];exact ad [bM] [false,false,false,false,true,false,true] [pF (ci ho),pF (aR h1),pF (cG h2),pF (cG h3),pT (eu h4),pF (aR h5),pT (cL (show by'<ay by omega))] (by kernel_rfl)
 have hb:=VV (e:=⟨1,ax,ay,bx,by',cx,cy⟩) (px:=px) (py:=py) rfl h4 h3 hne;unfold xb;by_cases h5:ay<by'
 ·simp only [if_pos h5] at hb ⊢;by_cases h6:(bx-ax)*(py-ay)-(by'-ay)*(px-ax)>0
  ·rw[if_pos (hb.2 h6)];exact ad [bM] [false,false,false,false,false,true,true,true] [pF (ci ho),pF (aR h1),pF (cG h2),pF (cG h3),pF (aR h4),pT (cL h6),pT (eu h5),pT (eu h5)] (by kernel_rfl)
  ·rw [if_neg (λg => h6 (hb.1 g))];by_cases h7:(bx-ax)*(py-ay)-(by'-ay)*(px-ax)<0
   ·exact ad [bM] [false,false,false,false,false,false,true,true] [pF (ci ho),pF (aR h1),pF (cG h2),pF (cG h3),pF (aR h4),pF (bU h6),pT (eu h7),pT (eu h5)] (by kernel_rfl)
   ·exact ad [bM] [false,false,false,false,false,false,false,true] [pF (ci ho),pF (aR h1),pF (cG h2),pF (cG h3),pF (aR h4),pF (bU h6),pF (aR h7),pT (eu h5)] (by kernel_rfl)
 ·simp only [if_neg h5] at hb ⊢;have h8:by'<ay:=by omega
  by_cases h6:(bx-ax)*(py-ay)-(by'-ay)*(px-ax)>0
  ·rw[if_neg (λg=>by have:=hb.1 g;omega)];exact ad [bM] [false,false,false,false,false,true,false,true] [pF (ci ho),pF (aR h1),pF (cG h2),pF (cG h3),pF (aR h4),pT (cL h6),pF (aR h5),pT (cL h8)] (by kernel_rfl)
  ·by_cases h7 : (bx - ax) * (py - ay) - (by' - ay) * (px - ax) < 0
   ·rw[if_pos (hb.2 h7)];exact ad [bM] [false,false,false,false,false,false,true,false,true,false,true] [pF (ci ho),pF (aR h1),pF (cG h2),pF (cG h3),pF (aR h4),pF (bU h6),pT (eu h7),pF (aR h5),pT (cL h8),pF (aR h5),pT (cL h8)] (by kernel_rfl)
   ·rw[if_neg (λg=>h7 (hb.1 g))];exact ad [bM] [false,false,false,false,false,false,false,false,true] [pF (ci ho),pF (aR h1),pF (cG h2),pF (cG h3),pF (aR h4),pF (bU h6),pF (aR h7),pF (aR h5),pT (cL h8)] (by kernel_rfl)
theorem Mc{e:Ed}(h:e.ok=true)(hk:¬e.k=1):(e.ax=e.cx/\e.bx≠e.cx/\e.ay≠e.by')\/(e.ax≠e.cx/\e.bx=e.cx/\e.ay≠e.by'):=by
 have hk':=nE h;unfold Ed.ok at h;simp only[Bool.and_eq_true] at h;obtain⟨_,h2⟩:=h;rcases hk' with k|k|k
 ·exact absurd k hk
 ·rw [k] at h2;simp only[show ¬(2:Int)=1 by decide,if_false,if_true,Ed.quarter,pz,Bool.and_eq_true,beq_iff_eq,fH,bne_iff_ne,ne_eq] at h2;obtain⟨h1,h3,h4⟩:=h2;by_cases g:e.ax-e.cx=0<;>by_cases f:e.ay-e.cy=0<;>first|omega|exact (h1 (by rw[g,f])).elim|exact (h1 (by rw[beq_eq_false_iff_ne.2 g,beq_eq_false_iff_ne.2 f])).elim
 ·rw [k] at h2;simp only[show ¬(3:Int)=1 by decide,show ¬(3:Int)=2 by decide,if_false,if_true,Ed.quarter,pz,Bool.and_eq_true,beq_iff_eq,fH,bne_iff_ne,ne_eq] at h2;obtain⟨h1,h3,h4⟩:=h2;by_cases g:e.ax-e.cx=0<;>by_cases f:e.ay-e.cy=0<;>first|omega|exact (h1 (by rw[g,f])).elim|exact (h1 (by rw[beq_eq_false_iff_ne.2 g,beq_eq_false_iff_ne.2 f])).elim
def Dz(e:Ed)(px py:Int):Int:=((px-e.cx)*(px-e.cx)+(py-e.cy)*(py-e.cy))-((e.ax-e.cx)*(e.ax-e.cx)+(e.ay-e.cy)*(e.ay-e.cy))
theorem VU{e:Ed}{px py:Int}(ho:e.ok=true)(hk:¬e.k=1)(h1:¬px<min e.ax e.bx)(h2:¬px >= max e.ax e.bx):(kw e px py=true) <-> (if e.ax>e.cx\/e.bx>e.cx then Dz e px py<0 else Dz e px py>0):=by
 have hx:=Mc ho hk;have hr:=a4i ho hk;unfold kw MF Dz;rw[if_neg h1,if_neg h2,if_neg hk,<- hr];by_cases g:e.ax>e.cx\/e.bx>e.cx
 ·rw [if_pos (by omega), if_pos g, decide_eq_true_eq];omega
 ·rw [if_neg (by omega), if_neg g, Bool.and_eq_true, decide_eq_true_eq, decide_eq_true_eq];omega
theorem NI(k ax ay bx by' cx cy px py:Int)(hk:k=2\/k=3)(ho:(Ed.mk k ax ay bx by' cx cy).ok=true):ae Tryz.prog 155 [aO ⟨k,ax,ay,bx,by',cx,cy⟩ 3 aC,ew px py b27] (.one (aj (lR ⟨k,ax,ay,bx,by',cx,cy⟩ px py) lim)):=by
 have hk1:¬k=1:=by omega
 by_cases h1:py<min ay by'
 ·rw[wI (.inl h1)];rcases hk with rfl|rfl<;>exact ad [bM] [false,true] [pF (ci ho),pT (eu h1)] (by kernel_rfl)
 by_cases h2:py >= max ay by'
 ·rw[wI (.inr (.inl h2))];rcases hk with rfl|rfl<;>exact ad [bM] [false,false,true] [pF (ci ho),pF (aR h1),pT (qu h2)] (by kernel_rfl)
 by_cases h3:px >= max ax bx
 ·rw[wI (.inr (.inr h3))];rcases hk with rfl|rfl<;>exact ad [bM] [false,false,false,true] [pF (ci ho),pF (aR h1),pF (cG h2),pT (qu h3)] (by kernel_rfl)
 rw[Rx (e:=⟨k,ax,ay,bx,by',cx,cy⟩) h1 h2];by_cases h4:px<min ax bx
 ·rw [if_pos (show kw ⟨k, ax, ay, bx, by', cx, cy⟩ px py = true by unfold kw; rw [if_pos h4])];unfold xb;by_cases h5:ay<by'
  ·rw[if_pos h5];rcases hk with rfl|rfl<;>exact ad [bM] [false,false,false,false,true,true] [pF (ci ho),pF (aR h1),pF (cG h2),pF (cG h3),pT (eu h4),pT (eu h5)] (by kernel_rfl)
  ·rw[if_neg h5];rcases hk with rfl|rfl<;>exact ad [bM] [false,false,false,false,true,false,true] [pF (ci ho),pF (aR h1),pF (cG h2),pF (cG h3),pT (eu h4),pF (aR h5),pT (cL (show by'<ay by omega))] (by kernel_rfl)
 have hb:=VU (e:=⟨k,ax,ay,bx,by',cx,cy⟩) (px:=px) (py:=py) ho hk1 h4 h3;have hx:=Mc ho hk1;unfold xb;simp only[Dz] at hb hx ⊢;by_cases h5:ax>cx
 ·rw [if_pos (.inl h5)] at hb;have h9:¬px<cx:=by omega
  by_cases h6:((px-cx)*(px-cx)+(py-cy)*(py-cy))-((ax-cx)*(ax-cx)+(ay-cy)*(ay-cy))<0
  ·rw [if_pos (hb.2 h6)];by_cases h7:ay<by'
   ·rw[if_pos h7];rcases hk with rfl|rfl<;>exact ad [bM] [false,false,false,false,false,true,false,true,true] [pF (ci ho),pF (aR h1),pF (cG h2),pF (cG h3),pF (aR h4),pT (cL h5),pF (aR h9),pT (eu h6),pT (eu h7)] (by kernel_rfl)
   ·rw[if_neg h7];rcases hk with rfl|rfl<;>exact ad [bM] [false,false,false,false,false,true,false,true,false,true] [pF (ci ho),pF (aR h1),pF (cG h2),pF (cG h3),pF (aR h4),pT (cL h5),pF (aR h9),pT (eu h6),pF (aR h7),pT (cL (show by'<ay by omega))] (by kernel_rfl)
  ·rw[if_neg (λg=>h6 (hb.1 g))];rcases hk with rfl|rfl<;>exact ad [bM] [false,false,false,false,false,true,false,false] [pF (ci ho),pF (aR h1),pF (cG h2),pF (cG h3),pF (aR h4),pT (cL h5),pF (aR h9),pF (aR h6)] (by kernel_rfl)
 by_cases h5':bx>cx
 ·rw [if_pos (.inr h5')] at hb;have h9:¬px<cx:=by omega
  by_cases h6:((px-cx)*(px-cx)+(py-cy)*(py-cy))-((ax-cx)*(ax-cx)+(ay-cy)*(ay-cy))<0
  ·rw [if_pos (hb.2 h6)];by_cases h7:ay<by'
   ·rw[if_pos h7];rcases hk with rfl|rfl<;>exact ad [bM] [false,false,false,false,false,false,true,false,true,true] [pF (ci ho),pF (aR h1),pF (cG h2),pF (cG h3),pF (aR h4),pF (bU h5),pT (cL h5'),pF (aR h9),pT (eu h6),pT (eu h7)] (by kernel_rfl)
   ·rw[if_neg h7];rcases hk with rfl|rfl<;>exact ad [bM] [false,false,false,false,false,false,true,false,true,false,true] [pF (ci ho),pF (aR h1),pF (cG h2),pF (cG h3),pF (aR h4),pF (bU h5),pT (cL h5'),pF (aR h9),pT (eu h6),pF (aR h7),pT (cL (show by'<ay by omega))] (by kernel_rfl)
  ·rw[if_neg (λg=>h6 (hb.1 g))];rcases hk with rfl|rfl<;>exact ad [bM] [false,false,false,false,false,false,true,false,false] [pF (ci ho),pF (aR h1),pF (cG h2),pF (cG h3),pF (aR h4),pF (bU h5),pT (cL h5'),pF (aR h9),pF (aR h6)] (by kernel_rfl)
 rw[if_neg (by omega)] at hb;have h9:px<cx:=by omega
 by_cases h6:((px-cx)*(px-cx)+(py-cy)*(py-cy))-((ax-cx)*(ax-cx)+(ay-cy)*(ay-cy))>0
 ·rw [if_pos (hb.2 h6)];by_cases h7:ay<by'
  ·rw[if_pos h7];rcases hk with rfl|rfl<;>exact ad [bM] [false,false,false,false,false,false,false,true,true,true] [pF (ci ho),pF (aR h1),pF (cG h2),pF (cG h3),pF (aR h4),pF (bU h5),pF (bU h5'),pT (eu h9),pT (cL h6),pT (eu h7)] (by kernel_rfl)
  ·rw[if_neg h7];rcases hk with rfl|rfl<;>exact ad [bM] [false,false,false,false,false,false,false,true,true,false,true] [pF (ci ho),pF (aR h1),pF (cG h2),pF (cG h3),pF (aR h4),pF (bU h5),pF (bU h5'),pT (eu h9),pT (cL h6),pF (aR h7),pT (cL (show by'<ay by omega))] (by kernel_rfl)
 ·rw[if_neg (λg=>h6 (hb.1 g))];rcases hk with rfl|rfl<;>exact ad [bM] [false,false,false,false,false,false,false,true,false] [pF (ci ho),pF (aR h1),pF (cG h2),pF (cG h3),pF (aR h4),pF (bU h5),pF (bU h5'),pT (eu h9),pF (bU h6)] (by kernel_rfl)
theorem Yc(e:Ed)(px py:Int)(ho:e.ok=true):ae Tryz.prog 155 [aO e 3 aC,ew px py b27] (.one (aj (lR e px py) lim)):=by
 obtain⟨k,ax,ay,bx,by',cx,cy⟩:=e;rcases nE ho with h|h|h
 ·obtain rfl : k = 1 := h;exact Yb ax ay bx by' cx cy px py ho
 ·exact NI k ax ay bx by' cx cy px py (.inl h) ho
 ·exact NI k ax ay bx by' cx cy px py (.inr h) ho
def WF:ah:=Zg 155 b27 (λe px py=>.one (aj (lR e px py) 1)) λe px py h _=>(Yc e px py h).bd (Rw e px py)
end
set_option maxRecDepth 100000
section
def rU(x y a b:Int):Int:=(x-a)*(x-a)+(y-b)*(y-b)
def UH(e:Ed)(px py:Int):Int:=if e.k=3 then min ((e.bx-e.cx)*(py-e.cy)-(e.by'-e.cy)*(px-e.cx)) ((px-e.cx)*(e.ay-e.cy)-(py-e.cy)*(e.ax-e.cx)) else min ((e.ax-e.cx)*(py-e.cy)-(e.ay-e.cy)*(px-e.cx)) ((px-e.cx)*(e.by'-e.cy)-(py-e.cy)*(e.bx-e.cx))
def AK(e:Ed)(px py:Int):Int:=(px-e.ax)*(e.bx-e.ax)+(py-e.ay)*(e.by'-e.ay)
def yT(e:Ed):Int:=(e.bx-e.ax)*(e.bx-e.ax)+(e.by'-e.ay)*(e.by'-e.ay)
def Bz(e:Ed)(px py:Int):Int:=(e.bx-e.ax)*(py-e.ay)-(e.by'-e.ay)*(px-e.ax)
def um(e:Ed)(px py r:Int):Bool :=
 if rU px py e.ax e.ay<=r*r then true else if rU px py e.bx e.by'<=r*r then true else
 if e.k=1 then (if AK e px py<=0 then false else if AK e px py >= yT e then false else decide (Bz e px py*Bz e px py<=r*r*yT e))
 else if UH e px py >= 0 then (if rU px py e.cx e.cy<=(az e+r)*(az e+r) then decide (rU px py e.cx e.cy >= max (az e-r) 0*max (az e-r) 0) else false) else false
theorem Aa(x:Int):0<=x*x:=by rw[<- Int.natAbs_mul_self];omega
theorem Vt(c:Int):max c (0-c)*max c (0-c)=c*c:=by
 rcases Int.le_total 0 c with h|h
 ·rw[show max c (0-c)=c by omega]
 ·rw[show max c (0-c) = -c by omega,Int.neg_mul_neg]
theorem a64(c r l:Int)(hl:0<=l):decide (max c (0-c)*max c (0-c)/18446744073709551616<r*r*l/18446744073709551616\/(max c (0-c)*max c (0-c)/18446744073709551616=r*r*l/18446744073709551616/\max c (0-c)*max c (0-c)%18446744073709551616<=r*r*l%18446744073709551616))=decide (c*c<=r*r*l):=by
 rw[Vt];exact decide_eq_decide.2 (a69 (Aa c) (Int.mul_nonneg (Aa r) hl))
def KN:List ah:=[Bg,WC,V9]
theorem a1O(e:Ed)(px py r:Int)(ho:e.ok=true):ae Tryz.prog 154 [aO e 3 aC,ew px py b27,aj r 4194304] (.one (aN (um e px py r))):=by
 unfold um;by_cases h1:rU px py e.ax e.ay<=r*r
 ·rw[if_pos h1];exact ad KN [true] [pT (yR h1)] (by kernel_rfl)
 rw[if_neg h1];by_cases h2:rU px py e.bx e.by'<=r*r
 ·rw[if_pos h2];exact ad KN [false,true] [pF (gj h1),pT (yR h2)] (by kernel_rfl)
 rw[if_neg h2];by_cases h3:e.k=1
 ·rw [if_pos h3];by_cases h4:AK e px py<=0
  ·rw[if_pos h4];exact ad KN [false,false,false,true] [pF (gj h1),pF (gj h2),pF (jF (by simpa using h3)),pT (yR h4)] (by kernel_rfl)
  rw[if_neg h4];by_cases h5:AK e px py >= yT e
  ·rw[if_pos h5];exact ad KN [false,false,false,false,true] [pF (gj h1),pF (gj h2),pF (jF (by simpa using h3)),pF (gj h4),pT (qu h5)] (by kernel_rfl)
  rw[if_neg h5];have hl:0<=yT e:=by have:=Aa (e.bx-e.ax);have:=Aa (e.by'-e.ay);unfold yT;omega
  have ha:0<=max (Bz e px py) (0-Bz e px py):=by omega
  rw[<- a64 _ _ _ hl];exact ad KN [false,false,false,false,false] [pF (gj h1),pF (gj h2),pF (jF (by simpa using h3)),pF (gj h4),pF (cG h5),pP ha,pP ha,pP (show 0<=r*r from Aa r),pP hl] (by kernel_rfl)
 rw[if_neg h3];have g3:(e.k != 1)=true:=by simpa using h3
 unfold UH;by_cases h4:e.k=3
 ·rw [if_pos h4];by_cases h5:min ((e.bx-e.cx)*(py-e.cy)-(e.by'-e.cy)*(px-e.cx)) ((px-e.cx)*(e.ay-e.cy)-(py-e.cy)*(e.ax-e.cx)) >= 0
  ·rw [if_pos h5];by_cases h6:rU px py e.cx e.cy<=(az e+r)*(az e+r)
   ·rw[if_pos h6];exact ad KN [false,false,true,true,true,true] [pF (gj h1),pF (gj h2),pT g3,pT (mB h4),pP ho,pT (qu h5),pT (yR h6)] (by kernel_rfl)
   ·rw[if_neg h6];exact ad KN [false,false,true,true,true,false] [pF (gj h1),pF (gj h2),pT g3,pT (mB h4),pP ho,pT (qu h5),pF (gj h6)] (by kernel_rfl)
  ·rw[if_neg h5];exact ad KN [false,false,true,true,false] [pF (gj h1),pF (gj h2),pT g3,pT (mB h4),pP ho,pF (cG h5)] (by kernel_rfl)
 ·rw [if_neg h4];by_cases h5:min ((e.ax-e.cx)*(py-e.cy)-(e.ay-e.cy)*(px-e.cx)) ((px-e.cx)*(e.by'-e.cy)-(py-e.cy)*(e.bx-e.cx)) >= 0
  ·rw [if_pos h5];by_cases h6:rU px py e.cx e.cy<=(az e+r)*(az e+r)
   ·rw[if_pos h6];exact ad KN [false,false,true,false,true,true] [pF (gj h1),pF (gj h2),pT g3,pF (kP h4),pP ho,pT (qu h5),pT (yR h6)] (by kernel_rfl)
   ·rw[if_neg h6];exact ad KN [false,false,true,false,true,false] [pF (gj h1),pF (gj h2),pT g3,pF (kP h4),pP ho,pT (qu h5),pF (gj h6)] (by kernel_rfl)
  ·rw[if_neg h5];exact ad KN [false,false,true,false,false] [pF (gj h1),pF (gj h2),pT g3,pF (kP h4),pP ho,pF (cG h5)] (by kernel_rfl)
def Zh(f:FuncId)(g:Ed->Int->Int->Int->AV)(h:∀e px py r,e.ok=true->Bd b27 px py->(0<=r/\r<=4194304)->ae Tryz.prog f [aO e 3 aC,ew px py b27,aj r 4194304] (g e px py r)):ah where
 f:=f
 g:=λ| [⟨true,l⟩,⟨true,m⟩,⟨false,[.i r _]⟩]=>(match eK l,sO m with|some e,some p=>some (g e p.1 p.2 r,[e.ok=true,Bd b27 p.1 p.2,0<=r/\r<=4194304])|_,_=>none)|_=>none
 ok:=by
  intro args res ps h' hp
  split at h'<;>try cases h'
  split at h'<;>cases h'
  rename_i he hq
  exact (h _ _ _ _ hp.1 hp.2.1 hp.2.2.1).pre λW=>aU (nu he hp.1) (aU (Rb hq hp.2.1) (aU (λv hv=>af.val ⟨hv.scal.1,by have:=hp.2.2.1;omega,hv.scal.2.2⟩) dY))
def Wy:ah:=Zh 154 (λe px py r=>.one (aN (um e px py r))) λe px py r ho _ _=>a1O e px py r ho
end
def lA(s:Sh):Int:=if s.n=0 then 0 else IntKind.i64.wrap (iM s.e (s.n-1)-s.r)
def oH(s:Sh):Int:=if s.n=0 then 0 else IntKind.i64.wrap (jc s.e (s.n-1)-s.r)
def lB(s:Sh):Int:=if s.n=0 then 0 else IntKind.i64.wrap (jw s.e (s.n-1)+s.r)
def oI(s:Sh):Int:=if s.n=0 then 0 else IntKind.i64.wrap (jO s.e (s.n-1)+s.r)
theorem V3(s:Sh):qc s=uE (lA s) (oH s) (lB s) (oI s):=by
 unfold qc lA oH lB oI;by_cases h:s.n=0<;>simp only[h,if_true,if_false]
def MU:ah:=TS 124 (λs=>.one (uE (lA s) (oH s) (lB s) (oI s))) (λs=>[s.n<=1000]) λs h=>V3 s ▸ a5I s h.1
def oV(s:Sh)(px py:Int):Bool:=jD (lA s) (oH s) (lB s) (oI s) px py
def kl(e:Nat->Ed)(px py:Int):Nat->Int
 | 0=>0|k+1=>kl e px py k+lR (e k) px py
def yC(s:Sh)(px py:Int)(k:Nat):Bool:=!um (s.e k) px py s.r
def nB(s:Sh)(px py:Int):Bool:=if bD s≠0 then false else if oV s px py=false then false else if eh (yC s px py) s.n=false then true else decide (s.k=2)&&decide (kl s.e px py s.n≠0)
theorem UI(e:Nat->Ed)(px py:Int):∀n,(kl e px py n).natAbs<=n
 | 0=>Nat.le_refl _|n+1=>by
  have:=UI e px py n;have:=Rw (e n) px py;unfold kl;omega
structure Good (s:Sh):Prop where
 n1:1<=s.n
 n40:s.n<=40
 ok:∀k,k<s.n->(s.e k).ok=true
 r:0<=s.r/\s.r<=4194304
 k:s.k=1\/s.k=2
theorem a2I{e:Ed}(h:ei e=0):e.ok=true:=by
 unfold ei at h;split at h
 ·assumption
 ·split at h<;>cases h
theorem FV{s:Sh}(h:bD s=0):Good s:=by
 unfold bD at h;split at h
 ·cases h
 rename_i hk;split at h
 ·cases h
 rename_i h1;split at h
 ·cases h
 rename_i h2;split at h
 ·rename_i h3;exact absurd h h3
 rename_i h3;split at h
 ·cases h
 split at h
 ·cases h
 rename_i h5;have hf:1<=gG s:=by unfold gG;split<;>decide
 exact⟨by omega,by omega,λk hk=>a2I (BO (by simpa using h3) k hk),by omega,by omega⟩
theorem MS{e:Nat->Ed}:∀ {m:Nat},(∀k,k<=m->(e k).ok=true)->(-67108864<=iM e m/\iM e m<=67108864)/\(-67108864<=jc e m/\jc e m<=67108864)/\(-67108864<=jw e m/\jw e m<=67108864)/\(-67108864<=jO e m/\jO e m<=67108864)
 | 0,h=>by
  obtain⟨⟨h1,h2⟩,⟨h3,h4⟩,_⟩:=sH (h 0 (Nat.le_refl _));unfold Co at h1 h2 h3 h4;unfold iM jc jw jO;omega|m+1,h=>by
  obtain⟨k1,k2,k3,k4⟩:=MS (m:=m) λk hk=>h k (by omega)
  obtain⟨⟨h1,h2⟩,⟨h3,h4⟩,_⟩:=sH (h (m+1) (Nat.le_refl _));unfold Co at h1 h2 h3 h4;unfold iM jc jw jO;omega
theorem a0o{s:Sh}{px py:Int}(g:Good s)(h:oV s px py=true):Bd b27 px py:=by
 obtain⟨h1,h2,h3,h4⟩:=MS (e:=s.e) (m:=s.n-1) λk hk=>g.ok k (by have:=g.n1;omega)
 have n0:¬s.n=0:=by have:=g.n1;omega
 have hr:=g.r;unfold oV jD lA oH lB oI at h;simp only[if_neg n0,Bool.and_eq_true,decide_eq_true_eq] at h;rw[wrap_in (by unfold I64;omega),wrap_in (by unfold I64;omega),wrap_in (by unfold I64;omega),wrap_in (by unfold I64;omega)] at h;unfold Bd b27;omega
def fi(e:Ed):Value:=.agg #[.int .i64 e.k,.int .i64 e.ax,.int .i64 e.ay,.int .i64 e.bx,.int .i64 e.by',.int .i64 e.cx,.int .i64 e.cy]
structure km (w:World) (g o:Nat) (e:Ed):Prop where
 c0:w.cell? ⟨g,o,none⟩=some (.int .i64 e.k)
 c1:w.cell? ⟨g,o+1,none⟩=some (.int .i64 e.ax)
 c2:w.cell? ⟨g,o+2,none⟩=some (.int .i64 e.ay)
 c3:w.cell? ⟨g,o+3,none⟩=some (.int .i64 e.bx)
 c4:w.cell? ⟨g,o+4,none⟩=some (.int .i64 e.by')
 c5:w.cell? ⟨g,o+5,none⟩=some (.int .i64 e.cx)
 c6:w.cell? ⟨g,o+6,none⟩=some (.int .i64 e.cy)
theorem km.below{w w':World}{v g o:Nat}{e:Ed}(h:km w g o e)(hb:Below v w w')(hg:g<v):km w' g o e :=
 ⟨(hb.cell (p:=⟨g,o,none⟩) hg).trans h.c0,(hb.cell (p:=⟨g,_,none⟩) hg).trans h.c1,(hb.cell (p:=⟨g,_,none⟩) hg).trans h.c2,(hb.cell (p:=⟨g,_,none⟩) hg).trans h.c3,(hb.cell (p:=⟨g,_,none⟩) hg).trans h.c4,(hb.cell (p:=⟨g,_,none⟩) hg).trans h.c5,(hb.cell (p:=⟨g,_,none⟩) hg).trans h.c6⟩
def jP(v:Nat)(w:World)(p:Option Addr)(n:Nat)(e:Nat->Ed):Prop:=∀i,i<n->∃g o,p=some ⟨g,o,none⟩/\g<v/\km w g (o+i*7) (e i)
theorem jP.below{w w':World}{v n:Nat}{p:Option Addr}{e:Nat->Ed}(h:jP v w p n e)(hb:Below v w w'):jP v w' p n e:=λi hi=>by
 obtain⟨g,o,h1,h2,h3⟩:=h i hi;exact⟨g,o,h1,h2,h3.below hb h2⟩
def lp(v B1 B2:Nat)(W W':World):Prop:=Below v W W'/\(∀o,W'.cell? ⟨B1,o,none⟩=W.cell? ⟨B1,o,none⟩)/\∀o,W'.cell? ⟨B2,o,none⟩=W.cell? ⟨B2,o,none⟩
theorem lp.trans{v B1 B2:Nat}{A B C:World}(h:lp v B1 B2 A B)(k:lp v B1 B2 B C):lp v B1 B2 A C:=⟨h.1.trans k.1,λo=>(k.2.1 o).trans (h.2.1 o),λo=>(k.2.2 o).trans (h.2.2 o)⟩
def cP(k:Nat):List Nat:=List.range k
theorem uP(k:Nat):cP (k+1)=cP k++[k]:=List.range_succ
theorem Es(k:Nat):(cP k).length=k:=List.length_range
def jq(cl:Bool)(n:Nat):Nat:=if cl then n else n-1
def nx(n i:Nat):Nat:=if i+1<n then i+1 else 0
end Go.Proofs.YtghemgdfmldoeaaGreat
