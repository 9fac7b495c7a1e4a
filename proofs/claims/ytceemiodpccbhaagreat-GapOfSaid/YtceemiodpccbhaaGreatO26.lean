import Derived.Test.YtceemiodpccbhaaGreatO25
set_option linter.unusedVariables false
set_option linter.unusedSimpArgs false

namespace Go.Proofs.YtceemiodpccbhaaGreat
open Go.RowKit

set_option maxRecDepth 100000
section
def c27:Nat:=134217728
def KM:List Con:=[cZOf,cZMul,cZSub,cMCount,cSide]
def isV(B:Nat)(zs:List Int):V1:=⟨true,zs.map fun z=>.i z B⟩
def toIs(B:Nat)(l:List It):Option (List Int):=(asIs l).bind fun xs=>if xs.all (fun x=>decide (x.2<=B))=true then some (xs.map (·.1)) else none
theorem is_low{V W:World}{r:Nat->Nat}{k:Nat}{B:Nat}{l:List It}{zs:List Int}(h:toIs B l=some zs):∀v,RepV V W r k ⟨true,l⟩ v->RepV V W r k (isV B zs) v:=by
 intro v hv
 unfold toIs at h
 cases hx:asIs l with
 | none=>simp[hx] at h
 | some xs =>
  simp only[hx,Option.bind_some] at h
  split at h<;>cases h
  rename_i ha
  simp only[List.all_eq_true,decide_eq_true_eq] at ha
  obtain⟨cs,h1,h2,h3⟩:=hv
  obtain⟨k1,k2⟩:=asIs_rep hx h1
  refine⟨cs,?_,h2,nofun⟩
  subst k1
  show RepL V W r k ((xs.map (·.1)).map fun z=>It.i z B) _
  rw[List.map_map]
  exact rl_map (f:=fun x:Int×Nat=>It.i x.1 B) (g:=fun x:Int×Nat=>Value.int .i64 x.1) fun x hx=>⟨rfl,Nat.le_trans (k2 x hx).1 (ha x hx),(k2 x hx).2⟩
theorem lines_ok(px py qx qy rx ry sx sy:Int):Fok Tryz.prog 148 [isV c26 [px,py,qx,qy],isV c26 [rx,ry,sx,sy]] (.one (inV (linesZ px py qx qy rx ry sx sy) lim)):=by
 unfold linesZ
 split
 ·rename_i h1
  split
  ·rename_i h2
   exact fok KM [true,true] [pT (ne_T h1),pT (gt_T h2)] (by kernel_rfl)
  ·rename_i h2
   split
   ·rename_i h3
    exact fok KM [true,false,true] [pT (ne_T h1),pF (gt_F h2),pT (gt_T h3)] (by kernel_rfl)
   ·rename_i h3
    exact fok KM [true,false,false] [pT (ne_T h1),pF (gt_F h2),pF (gt_F h3)] (by kernel_rfl)
 ·rename_i h1
  split
  ·rename_i h2
   exact fok KM [false,true] [pF (ne_F h1),pT (ne_T h2)] (by kernel_rfl)
  ·rename_i h2
   split
   ·rename_i h3
    exact fok KM [false,false,true] [pF (ne_F h1),pF (ne_F h2),pT (decide_eq_true h3)] (by kernel_rfl)
   ·rename_i h3
    split
    ·rename_i h4
     exact fok KM [false,false,false,true] [pF (ne_F h1),pF (ne_F h2),pF (decide_eq_false h3),pT (bq_T h4)] (by kernel_rfl)
    ·rename_i h4
     exact fok KM [false,false,false,false] [pF (ne_F h1),pF (ne_F h2),pF (decide_eq_false h3),pF (bq_F h4)] (by kernel_rfl)
def cLines:Con where
 f:=148
 g:=fun | [⟨true,l⟩,⟨true,m⟩]=>(match toIs c26 l,toIs c26 m with|some [px,py,qx,qy],some [rx,ry,sx,sy]=>some (.one (inV (linesZ px py qx qy rx ry sx sy) 1),[])|_,_=>none)|_=>none
 ok:=by
  intro args res ps h hp
  split at h<;>try cases h
  split at h<;>cases h
  rename_i px py qx qy rx ry sx sy hl hm
  have b:=linesZ_bd px py qx qy rx ry sx sy
  exact ((lines_ok _ _ _ _ _ _ _ _).bd (by omega)).pre fun W=>rvs_1 (is_low hl) (rvs_1 (is_low hm) rvs_0)
def laG(px py qx qy cx cy r ux uy vx vy:Int):LA :=
 ⟨(qx-px)*(qx-px)+(qy-py)*(qy-py),(px-cx)*(qx-px)+(py-cy)*(qy-py),(px-cx)*(px-cx)+(py-cy)*(py-cy),r,(px-cx)*ux+(py-cy)*uy,(qx-px)*ux+(qy-py)*uy,(px-cx)*vx+(py-cy)*vy,(qx-px)*vx+(qy-py)*vy⟩
theorem lineArc_ok(px py qx qy cx cy r ux uy vx vy:Int):Fok Tryz.prog 149 [isV c27 [px,py,qx,qy],isV c27 [cx,cy,r,ux,uy,vx,vy]] (.one (inV (countZ (laG px py qx qy cx cy r ux uy vx vy).delta (laG px py qx qy cx cy r ux uy vx vy).list) lim)) :=
 fok KM [] [] (by kernel_rfl)
def cLineArc:Con where
 f:=149
 g:=fun | [⟨true,l⟩,⟨true,m⟩]=>(match toIs c27 l,toIs c27 m with|some [px,py,qx,qy],some [cx,cy,r,ux,uy,vx,vy]=>some (.one (inV (countZ (laG px py qx qy cx cy r ux uy vx vy).delta (laG px py qx qy cx cy r ux uy vx vy).list) 2),[])|_,_=>none)|_=>none
 ok:=by
  intro args res ps h hp
  split at h<;>try cases h
  split at h<;>cases h
  rename_i px py qx qy cx cy r ux uy vx vy hl hm
  have b:=countZ_bd (laG px py qx qy cx cy r ux uy vx vy).delta (laG px py qx qy cx cy r ux uy vx vy).list
  exact ((lineArc_ok _ _ _ _ _ _ _ _ _ _ _).bd (by omega)).pre fun W=>rvs_1 (is_low hl) (rvs_1 (is_low hm) rvs_0)
def aaG(cx cy r ux uy vx vy dx dy q sx sy tx ty:Int):AA :=
 ⟨(dx-cx)*(dx-cx)+(dy-cy)*(dy-cy),r,q,(dx-cx)*ux+(dy-cy)*uy,(dx-cx)*vx+(dy-cy)*vy,(dx-cx)*sx+(dy-cy)*sy,(dx-cx)*tx+(dy-cy)*ty,
  (0-(dy-cy))*ux+(dx-cx)*uy,(0-(dy-cy))*vx+(dx-cx)*vy,(0-(dy-cy))*sx+(dx-cx)*sy,(0-(dy-cy))*tx+(dx-cx)*ty⟩
def arcsG(cx cy r ux uy vx vy dx dy q sx sy tx ty:Int):Int :=
 if (cx==dx&&cy==dy)=true then sameZ (r==q) (ux==sx&&uy==sy) (ux==tx&&uy==ty) (vx==sx&&vy==sy) (vx==tx&&vy==ty)
 else countZ (aaG cx cy r ux uy vx vy dx dy q sx sy tx ty).delta (aaG cx cy r ux uy vx vy dx dy q sx sy tx ty).list
def bB(a b:Bool):List Bool:=cond a [true,b] [false]
def bH{x y a b:Bool}(_:x=a)(_:y=b):List Bool:=bB a b
def pB{x y:Bool}(a b:Bool)(ha:x=a)(hb:y=b):List Pf:=cond a [⟨x=a,ha⟩,⟨y=b,hb⟩] [⟨x=a,ha⟩]
theorem arcsSame_ok(cx cy r ux uy vx vy dx dy q sx sy tx ty:Int)(hc:(cx==dx&&cy==dy)=true):Fok Tryz.prog 150 [isV c27 [cx,cy,r,ux,uy,vx,vy],isV c27 [dx,dy,q,sx,sy,tx,ty]] (.one (inV (sameZ (r==q) (ux==sx&&uy==sy) (ux==tx&&uy==ty) (vx==sx&&vy==sy) (vx==tx&&vy==ty)) lim)):=by
 generalize h0:(r==q)=z
 generalize h1:(ux==sx&&uy==sy)=a
 generalize h2:(ux==tx&&uy==ty)=b
 generalize h3:(vx==sx&&vy==sy)=c
 generalize h4:(vx==tx&&vy==ty)=d
 cases z<;>cases a<;>cases b<;>cases c<;>cases d <;>
  exact fok KM (true::(bH h1 h0++bH h2 h0++bH h3 h0++bH h4 h0)) (pT hc::(pB _ _ h1 h0++pB _ _ h2 h0++pB _ _ h3 h0++pB _ _ h4 h0)) (by kernel_rfl)
theorem arcsApart_ok(cx cy r ux uy vx vy dx dy q sx sy tx ty:Int)(hc:(cx==dx&&cy==dy)=false):Fok Tryz.prog 150 [isV c27 [cx,cy,r,ux,uy,vx,vy],isV c27 [dx,dy,q,sx,sy,tx,ty]] (.one (inV (countZ (aaG cx cy r ux uy vx vy dx dy q sx sy tx ty).delta (aaG cx cy r ux uy vx vy dx dy q sx sy tx ty).list) lim)) :=
 fok KM [false] [pF hc] (by kernel_rfl)
theorem sameZ_bd(z a b c d:Bool) : -1<=sameZ z a b c d/\sameZ z a b c d<=4:=by
 cases z<;>cases a<;>cases b<;>cases c<;>cases d<;>decide
def cArcs:Con where
 f:=150
 g:=fun | [⟨true,l⟩,⟨true,m⟩]=>(match toIs c27 l,toIs c27 m with|some [cx,cy,r,ux,uy,vx,vy],some [dx,dy,q,sx,sy,tx,ty]=>some (.one (inV (arcsG cx cy r ux uy vx vy dx dy q sx sy tx ty) 4),[])|_,_=>none)|_=>none
 ok:=by
  intro args res ps h hp
  split at h<;>try cases h
  split at h<;>cases h
  rename_i cx cy r ux uy vx vy dx dy q sx sy tx ty hl hm
  refine Fok.pre ?_ fun W=>rvs_1 (is_low hl) (rvs_1 (is_low hm) rvs_0)
  unfold arcsG
  cases hc:(cx==dx&&cy==dy) with
  | true =>
   rw[if_pos rfl]
   have b:=sameZ_bd (r==q) (ux==sx&&uy==sy) (ux==tx&&uy==ty) (vx==sx&&vy==sy) (vx==tx&&vy==ty)
   exact (arcsSame_ok _ _ _ _ _ _ _ _ _ _ _ _ _ _ hc).bd (by omega)
  | false =>
   rw[if_neg (by simp)]
   have b:=countZ_bd (aaG cx cy r ux uy vx vy dx dy q sx sy tx ty).delta (aaG cx cy r ux uy vx vy dx dy q sx sy tx ty).list
   exact (arcsApart_ok _ _ _ _ _ _ _ _ _ _ _ _ _ _ hc).bd (by omega)
end

set_option maxRecDepth 100000
section
theorem pt_c26{V W:World}{r:Nat->Nat}{k:Nat}{x y:Int}{A B:Nat}(h1:A<=c26)(h2:B<=c26):∀v,RepV V W r k ⟨true,[.i x A,.i y B]⟩ v->RepV V W r k (ptV x y c26) v:=pt_low h1 h2
theorem on_1(ax ay bx by' cx cy px py:Int)(ho:(Ed.mk 1 ax ay bx by' cx cy).ok=true):Fok Tryz.prog 147 [edV ⟨1,ax,ay,bx,by',cx,cy⟩ 3 c26,ptV px py c26] (.one (blV (onE ⟨1,ax,ay,bx,by',cx,cy⟩ px py))):=by
 have E:onE ⟨1,ax,ay,bx,by',cx,cy⟩ px py=(inB (min ax bx) (min ay by') (max ax bx) (max ay by') px py&&(sideI ((bx-ax)*(py-ay)-(by'-ay)*(px-ax))==0)):=by unfold onE;rw[ho];rfl
 rw[E]
 unfold inB
 cases h0:decide (min ax bx<=px) with
 | false=>exact fok [cOfE,cSide] [true,false] [pT ho,pF h0] (by kernel_rfl)
 | true =>
  cases h1:decide (px<=max ax bx) with
  | false=>exact fok [cOfE,cSide] [true,true,false] [pT ho,pT h0,pF h1] (by kernel_rfl)
  | true =>
   cases h2:decide (min ay by'<=py) with
   | false=>exact fok [cOfE,cSide] [true,true,true,false] [pT ho,pT h0,pT h1,pF h2] (by kernel_rfl)
   | true =>
    cases h3:decide (py<=max ay by') with
    | false=>exact fok [cOfE,cSide] [true,true,true,true,false] [pT ho,pT h0,pT h1,pT h2,pF h3] (by kernel_rfl)
    | true =>
     exact fok [cOfE,cSide] [true,true,true,true,true] [pT ho,pT h0,pT h1,pT h2,pT h3] (by kernel_rfl)
theorem on_2(ax ay bx by' cx cy px py:Int)(ho:(Ed.mk 2 ax ay bx by' cx cy).ok=true):Fok Tryz.prog 147 [edV ⟨2,ax,ay,bx,by',cx,cy⟩ 3 c26,ptV px py c26] (.one (blV (onE ⟨2,ax,ay,bx,by',cx,cy⟩ px py))):=by
 have E:onE ⟨2,ax,ay,bx,by',cx,cy⟩ px py=(inB (min ax bx) (min ay by') (max ax bx) (max ay by') px py&&(powerI (px-cx) (py-cy) (ax-cx) (ay-cy)==0)):=by unfold onE;rw[ho];rfl
 rw[E]
 unfold inB
 cases h0:decide (min ax bx<=px) with
 | false=>exact fok [cOfE,cSide] [true,false] [pT ho,pF h0] (by kernel_rfl)
 | true =>
  cases h1:decide (px<=max ax bx) with
  | false=>exact fok [cOfE,cSide] [true,true,false] [pT ho,pT h0,pF h1] (by kernel_rfl)
  | true =>
   cases h2:decide (min ay by'<=py) with
   | false=>exact fok [cOfE,cSide] [true,true,true,false] [pT ho,pT h0,pT h1,pF h2] (by kernel_rfl)
   | true =>
    cases h3:decide (py<=max ay by') with
    | false=>exact fok [cOfE,cSide] [true,true,true,true,false] [pT ho,pT h0,pT h1,pT h2,pF h3] (by kernel_rfl)
    | true =>
     exact fok [cOfE,cSide] [true,true,true,true,true] [pT ho,pT h0,pT h1,pT h2,pT h3] (by kernel_rfl)
theorem on_3(ax ay bx by' cx cy px py:Int)(ho:(Ed.mk 3 ax ay bx by' cx cy).ok=true):Fok Tryz.prog 147 [edV ⟨3,ax,ay,bx,by',cx,cy⟩ 3 c26,ptV px py c26] (.one (blV (onE ⟨3,ax,ay,bx,by',cx,cy⟩ px py))):=by
 have E:onE ⟨3,ax,ay,bx,by',cx,cy⟩ px py=(inB (min ax bx) (min ay by') (max ax bx) (max ay by') px py&&(powerI (px-cx) (py-cy) (ax-cx) (ay-cy)==0)):=by unfold onE;rw[ho];rfl
 rw[E]
 unfold inB
 cases h0:decide (min ax bx<=px) with
 | false=>exact fok [cOfE,cSide] [true,false] [pT ho,pF h0] (by kernel_rfl)
 | true =>
  cases h1:decide (px<=max ax bx) with
  | false=>exact fok [cOfE,cSide] [true,true,false] [pT ho,pT h0,pF h1] (by kernel_rfl)
  | true =>
   cases h2:decide (min ay by'<=py) with
   | false=>exact fok [cOfE,cSide] [true,true,true,false] [pT ho,pT h0,pT h1,pF h2] (by kernel_rfl)
   | true =>
    cases h3:decide (py<=max ay by') with
    | false=>exact fok [cOfE,cSide] [true,true,true,true,false] [pT ho,pT h0,pT h1,pT h2,pF h3] (by kernel_rfl)
    | true =>
     exact fok [cOfE,cSide] [true,true,true,true,true] [pT ho,pT h0,pT h1,pT h2,pT h3] (by kernel_rfl)
def cOn:Con where
 f:=147
 g:=fun | [⟨true,l⟩,⟨true,[.i x A,.i y B]⟩]=>if A<=c26/\B<=c26 then (toEd l).map fun e=>(.one (blV (onE e x y)),[e.ok=true]) else none|_=>none
 ok:=by
  intro args res ps h hp
  split at h<;>try cases h
  rename_i l x A y B
  split at h<;>try cases h
  rename_i hb
  cases he:toEd l with
  | none=>simp[he] at h
  | some e =>
   simp only[he,Option.map_some,Option.some.injEq,Prod.mk.injEq] at h
   obtain⟨rfl,rfl⟩:=h
   have ho:=hp.1
   refine Fok.pre ?_ fun W=>rvs_1 (ed_ok he ho) (rvs_1 (pt_c26 hb.1 hb.2) rvs_0)
   obtain⟨k,ax,ay,bx,by',cx,cy⟩:=e
   rcases kind_of ho with h|h|h
   ·obtain rfl : k = 1 := h
    exact on_1 ax ay bx by' cx cy x y ho
   ·obtain rfl : k = 2 := h
    exact on_2 ax ay bx by' cx cy x y ho
   ·obtain rfl : k = 3 := h
    exact on_3 ax ay bx by' cx cy x y ho
def KC:List Con:=[cChk,cRad,cOn,cLines,cLineArc,cArcs]
theorem arcsZ_eq(e f:Ed):arcsZ e f=arcsG e.cx e.cy (radZ e) e.ux e.uy e.vx e.vy f.cx f.cy (radZ f) f.ux f.uy f.vx f.vy:=by
 unfold arcsZ arcsG
 by_cases h:e.cx=f.cx/\e.cy=f.cy
 ·rw[if_pos h,if_pos (by simpa using h)]
 ·rw [if_neg h, if_neg (by simpa using h)]
  unfold aaE aaG
  simp only[Int.zero_sub]
theorem pt_eq(e:Ed):e.pt=(e.ax==e.bx&&e.ay==e.by'):=rfl
theorem countE_v{e f:Ed}(h1:e.ok=true)(h2:f.ok=true):countE e f=if e.k=1 then
  if e.pt then onZ f e.ax e.ay
  else if f.k=1 then (if f.pt then onZ e f.ax f.ay else linesZ e.ax e.ay e.bx e.by' f.ax f.ay f.bx f.by')
  else crossZ e f
 else if f.k=1 then (if f.pt then onZ e f.ax f.ay else crossZ f e)
 else arcsZ e f:=by
 unfold countE
 rw[h1,h2]
 rfl
theorem rad_ne{e:Ed}(h:e.ok=true)(hk:¬e.k=1):radZ e≠0:=by have:=rad_pos h hk;omega
theorem neq_F{a b:Int}(h:a=b):(a != b)=false:=by simpa using h
theorem count_arc_arc(e f:Ed)(h1:e.ok=true)(h2:f.ok=true)(ke:¬e.k=1)(kf:¬f.k=1):Fok Tryz.prog 91 [edV e 3 c26,edV f 3 c26] (.one (inV (countE e f) lim)):=by
 rw[show countE e f=arcsZ e f by rw[countE_v h1 h2];simp only[if_neg ke,if_neg kf]]
 rw[arcsZ_eq]
 exact fok KC [false,false,true,true] [pF (chk_F h1),pF (chk_F h2),pT (ne_T ke),pP h1,pP (rad_ne h1 ke),pP (rad_ne h1 ke),pP (rad_ne h1 ke),pP (rad_ne h1 ke),pT (ne_T kf),pP h2,pP (rad_ne h2 kf),pP (rad_ne h2 kf),pP (rad_ne h2 kf),pP (rad_ne h2 kf)] (by kernel_rfl)
theorem count_arc_pt(e f:Ed)(h1:e.ok=true)(h2:f.ok=true)(ke:¬e.k=1)(kf:f.k=1)(pf:(f.ax==f.bx&&f.ay==f.by')=true):Fok Tryz.prog 91 [edV e 3 c26,edV f 3 c26] (.one (inV (countE e f) lim)):=by
 rw[show countE e f=onZ e f.ax f.ay by rw[countE_v h1 h2];simp only[if_neg ke,if_pos kf,pt_eq f,pf,if_true]]
 unfold onZ
 cases ho:onE e f.ax f.ay with
 | true=>exact fok KC [false,false,true,false,true,true] [pF (chk_F h1),pF (chk_F h2),pT (ne_T ke),pP h1,pP (rad_ne h1 ke),pP (rad_ne h1 ke),pP (rad_ne h1 ke),pP (rad_ne h1 ke),pF (neq_F kf),pT pf,pP h1,pT ho] (by kernel_rfl)
 | false=>exact fok KC [false,false,true,false,true,false] [pF (chk_F h1),pF (chk_F h2),pT (ne_T ke),pP h1,pP (rad_ne h1 ke),pP (rad_ne h1 ke),pP (rad_ne h1 ke),pP (rad_ne h1 ke),pF (neq_F kf),pT pf,pP h1,pF ho] (by kernel_rfl)
theorem count_arc_line(e f:Ed)(h1:e.ok=true)(h2:f.ok=true)(ke:¬e.k=1)(kf:f.k=1)(pf:(f.ax==f.bx&&f.ay==f.by')=false):Fok Tryz.prog 91 [edV e 3 c26,edV f 3 c26] (.one (inV (countE e f) lim)):=by
 rw[show countE e f=crossZ f e by rw[countE_v h1 h2];simp only[if_neg ke,if_pos kf,pt_eq f,pf,Bool.false_eq_true,if_false]]
 exact fok KC [false,false,true,false,false] [pF (chk_F h1),pF (chk_F h2),pT (ne_T ke),pP h1,pP (rad_ne h1 ke),pP (rad_ne h1 ke),pP (rad_ne h1 ke),pP (rad_ne h1 ke),pF (neq_F kf),pF pf] (by kernel_rfl)
theorem count_pt_arc(e f:Ed)(h1:e.ok=true)(h2:f.ok=true)(ke:e.k=1)(pe:(e.ax==e.bx&&e.ay==e.by')=true)(kf:¬f.k=1):Fok Tryz.prog 91 [edV e 3 c26,edV f 3 c26] (.one (inV (countE e f) lim)):=by
 rw[show countE e f=onZ f e.ax e.ay by rw[countE_v h1 h2];simp only[if_pos ke,pt_eq e,pe,if_true]]
 unfold onZ
 cases ho:onE f e.ax e.ay with
 | true=>exact fok KC [false,false,false,true,true,true] [pF (chk_F h1),pF (chk_F h2),pF (neq_F ke),pT pe,pT (ne_T kf),pP h2,pP (rad_ne h2 kf),pP (rad_ne h2 kf),pP (rad_ne h2 kf),pP (rad_ne h2 kf),pP h2,pT ho] (by kernel_rfl)
 | false=>exact fok KC [false,false,false,true,true,false] [pF (chk_F h1),pF (chk_F h2),pF (neq_F ke),pT pe,pT (ne_T kf),pP h2,pP (rad_ne h2 kf),pP (rad_ne h2 kf),pP (rad_ne h2 kf),pP (rad_ne h2 kf),pP h2,pF ho] (by kernel_rfl)
theorem count_pt_pt(e f:Ed)(h1:e.ok=true)(h2:f.ok=true)(ke:e.k=1)(pe:(e.ax==e.bx&&e.ay==e.by')=true)(kf:f.k=1)(pf:(f.ax==f.bx&&f.ay==f.by')=true):Fok Tryz.prog 91 [edV e 3 c26,edV f 3 c26] (.one (inV (countE e f) lim)):=by
 rw[show countE e f=onZ f e.ax e.ay by rw[countE_v h1 h2];simp only[if_pos ke,pt_eq e,pe,if_true]]
 unfold onZ
 cases ho:onE f e.ax e.ay with
 | true=>exact fok KC [false,false,false,true,false,true,true] [pF (chk_F h1),pF (chk_F h2),pF (neq_F ke),pT pe,pF (neq_F kf),pT pf,pP h2,pT ho] (by kernel_rfl)
 | false=>exact fok KC [false,false,false,true,false,true,false] [pF (chk_F h1),pF (chk_F h2),pF (neq_F ke),pT pe,pF (neq_F kf),pT pf,pP h2,pF ho] (by kernel_rfl)
theorem count_pt_line(e f:Ed)(h1:e.ok=true)(h2:f.ok=true)(ke:e.k=1)(pe:(e.ax==e.bx&&e.ay==e.by')=true)(kf:f.k=1)(pf:(f.ax==f.bx&&f.ay==f.by')=false):Fok Tryz.prog 91 [edV e 3 c26,edV f 3 c26] (.one (inV (countE e f) lim)):=by
 rw[show countE e f=onZ f e.ax e.ay by rw[countE_v h1 h2];simp only[if_pos ke,pt_eq e,pe,if_true]]
 unfold onZ
 cases ho:onE f e.ax e.ay with
 | true=>exact fok KC [false,false,false,true,false,false,true] [pF (chk_F h1),pF (chk_F h2),pF (neq_F ke),pT pe,pF (neq_F kf),pF pf,pP h2,pT ho] (by kernel_rfl)
 | false=>exact fok KC [false,false,false,true,false,false,false] [pF (chk_F h1),pF (chk_F h2),pF (neq_F ke),pT pe,pF (neq_F kf),pF pf,pP h2,pF ho] (by kernel_rfl)
theorem count_line_arc(e f:Ed)(h1:e.ok=true)(h2:f.ok=true)(ke:e.k=1)(pe:(e.ax==e.bx&&e.ay==e.by')=false)(kf:¬f.k=1):Fok Tryz.prog 91 [edV e 3 c26,edV f 3 c26] (.one (inV (countE e f) lim)):=by
 rw[show countE e f=crossZ e f by rw[countE_v h1 h2];simp only[if_pos ke,pt_eq e,pe,Bool.false_eq_true,if_false,if_neg kf]]
 exact fok KC [false,false,false,false,true] [pF (chk_F h1),pF (chk_F h2),pF (neq_F ke),pF pe,pT (ne_T kf),pP h2,pP (rad_ne h2 kf),pP (rad_ne h2 kf),pP (rad_ne h2 kf),pP (rad_ne h2 kf)] (by kernel_rfl)
theorem count_line_pt(e f:Ed)(h1:e.ok=true)(h2:f.ok=true)(ke:e.k=1)(pe:(e.ax==e.bx&&e.ay==e.by')=false)(kf:f.k=1)(pf:(f.ax==f.bx&&f.ay==f.by')=true):Fok Tryz.prog 91 [edV e 3 c26,edV f 3 c26] (.one (inV (countE e f) lim)):=by
 rw[show countE e f=onZ e f.ax f.ay by rw[countE_v h1 h2];simp only[if_pos ke,pt_eq e,pe,Bool.false_eq_true,if_false,if_pos kf,pt_eq f,pf,if_true]]
 unfold onZ
 cases ho:onE e f.ax f.ay with
 | true=>exact fok KC [false,false,false,false,false,true,true] [pF (chk_F h1),pF (chk_F h2),pF (neq_F ke),pF pe,pF (neq_F kf),pT pf,pP h1,pT ho] (by kernel_rfl)
 | false=>exact fok KC [false,false,false,false,false,true,false] [pF (chk_F h1),pF (chk_F h2),pF (neq_F ke),pF pe,pF (neq_F kf),pT pf,pP h1,pF ho] (by kernel_rfl)
theorem count_line_line(e f:Ed)(h1:e.ok=true)(h2:f.ok=true)(ke:e.k=1)(pe:(e.ax==e.bx&&e.ay==e.by')=false)(kf:f.k=1)(pf:(f.ax==f.bx&&f.ay==f.by')=false):Fok Tryz.prog 91 [edV e 3 c26,edV f 3 c26] (.one (inV (countE e f) lim)):=by
 rw[show countE e f=linesZ e.ax e.ay e.bx e.by' f.ax f.ay f.bx f.by' by rw[countE_v h1 h2];simp only[if_pos ke,pt_eq e,pe,Bool.false_eq_true,if_false,if_pos kf,pt_eq f,pf]]
 exact fok KC [false,false,false,false,false,false] [pF (chk_F h1),pF (chk_F h2),pF (neq_F ke),pF pe,pF (neq_F kf),pF pf] (by kernel_rfl)
theorem count_no(e f:Ed)(h:(e.ok&&f.ok)=false):Fok Tryz.prog 91 [edV e lim lim,edV f lim lim] (.one (inV (countE e f) lim)):=by
 rw[show countE e f=0 by unfold countE;rw[h];rfl]
 cases h1:e.ok with
 | false=>exact fok KC [true] [pT (chk_T h1)] (by kernel_rfl)
 | true =>
  rw[h1,Bool.true_and] at h
  exact fok KC [false,true] [pF (chk_F h1),pT (chk_T h)] (by kernel_rfl)
theorem count_ok(e f:Ed)(h1:e.ok=true)(h2:f.ok=true):Fok Tryz.prog 91 [edV e 3 c26,edV f 3 c26] (.one (inV (countE e f) lim)):=by
 by_cases ke:e.k=1
 ·cases pe : (e.ax == e.bx && e.ay == e.by') with
  | true =>
   by_cases kf:f.k=1
   ·cases pf : (f.ax == f.bx && f.ay == f.by') with
    | true=>exact count_pt_pt e f h1 h2 ke pe kf pf
    | false=>exact count_pt_line e f h1 h2 ke pe kf pf
   ·exact count_pt_arc e f h1 h2 ke pe kf
  | false =>
   by_cases kf:f.k=1
   ·cases pf : (f.ax == f.bx && f.ay == f.by') with
    | true=>exact count_line_pt e f h1 h2 ke pe kf pf
    | false=>exact count_line_line e f h1 h2 ke pe kf pf
   ·exact count_line_arc e f h1 h2 ke pe kf
 ·by_cases kf : f.k = 1
  ·cases pf : (f.ax == f.bx && f.ay == f.by') with
   | true=>exact count_arc_pt e f h1 h2 ke kf pf
   | false=>exact count_arc_line e f h1 h2 ke kf pf
  ·exact count_arc_arc e f h1 h2 ke kf
theorem countE_bd(e f:Ed):(countE e f).natAbs<=4:=by
 cases h:(e.ok&&f.ok) with
 | false=>rw[show countE e f=0 by unfold countE;rw[h];rfl];decide
 | true =>
  simp only[Bool.and_eq_true] at h
  have b1:=onZ_bd e f.ax f.ay
  have b2:=onZ_bd f e.ax e.ay
  have b3:=linesZ_bd e.ax e.ay e.bx e.by' f.ax f.ay f.bx f.by'
  have b4:=countZ_bd (laE e f).delta (laE e f).list
  have b5:=countZ_bd (laE f e).delta (laE f e).list
  have b6 : -1<=arcsZ e f/\arcsZ e f<=4:=by
   unfold arcsZ
   split
   ·exact sameZ_bd _ _ _ _ _
   ·have:=countZ_bd (aaE e f).delta (aaE e f).list;omega
  rw[countE_v h.1 h.2]
  unfold crossZ
  (repeat' split)<;>omega
def cCountE:Con where
 f:=91
 g:=fun | [⟨true,l⟩,⟨true,m⟩]=>(match toEd l,toEd m with|some e,some f=>some (.one (inV (countE e f) 4),[])|_,_=>none)|_=>none
 ok:=by
  intro args res ps h hp
  split at h<;>try cases h
  split at h<;>cases h
  rename_i e f he hf
  cases h:(e.ok&&f.ok) with
  | false=>exact ((count_no e f h).bd (countE_bd e f)).pre fun W=>rvs_1 (ed_lim he) (rvs_1 (ed_lim hf) rvs_0)
  | true =>
   simp only[Bool.and_eq_true] at h
   exact ((count_ok e f h.1 h.2).bd (countE_bd e f)).pre fun W=>rvs_1 (ed_ok he h.1) (rvs_1 (ed_ok hf h.2) rvs_0)
theorem meetEdges_ok(e f:Ed):Fok Tryz.prog 50 [edV e lim lim,edV f lim lim] (.one (blV (countE e f != 0))):=fok [cCountE] [] [] (by kernel_rfl)
def cMeet:Con where
 f:=50
 g:=fun | [⟨true,l⟩,⟨true,m⟩]=>(match toEd l,toEd m with|some e,some f=>some (.one (blV (!(countE e f==0))),[])|_,_=>none)|_=>none
 ok:=by
  intro args res ps h hp
  split at h<;>try cases h
  split at h<;>cases h
  rename_i e f he hf
  exact (meetEdges_ok e f).pre fun W=>rvs_1 (ed_lim he) (rvs_1 (ed_lim hf) rvs_0)
end

set_option maxRecDepth 100000
section
def d05Right:Con where
 f:=175
 g:=fun | [⟨true,[.i x _,.i y _]⟩]=>some (.one (blV (coordB x y)),[])|_=>none
 ok:=by
  intro args res ps h _
  split at h<;>cases h
  intro W vals hv
  simp only[rvs_cons,rvs_nil,rv_t,rl_i,rl_nil] at hv
  obtain⟨_,⟨_,⟨_,_,rfl,_,_,rfl,rfl⟩,rfl⟩,_,rfl,rfl⟩:=hv
  exact (r05_Right _ _ W).mono fun _ _ h=>gv_bl h
theorem nok{e:Ed}(h:¬(e.k=1\/e.k=2\/e.k=3)):e.ok=false:=by
 cases ho:e.ok with
 | false=>rfl
 | true=>exact absurd (kind_of ho) h
theorem lt_T{a b:Int}(h:a<b):decide (a<b)=true:=by simpa using h
theorem lt_F{a b:Int}(h:¬a<b):decide (a<b)=false:=by simpa using h
theorem beq_ne{a b c d:Int}{x:Bool}(h:(a==c&&b==d)=x):(!eqZ [.i a,.i b] [.i c,.i d])=!x:=by rw[<- h];rfl
theorem chk_b{e:Ed}{b:Bool}(hA:coordB e.ax e.ay=true)(hB:coordB e.bx e.by'=true)(hC:coordB e.cx e.cy=true)(h:e.ok=b):checkZ e=cond b 0 11:=by
 cases b with
 | true=>exact checkZ_z h
 | false=>exact checkZ_11c h hA hB hC
def K6:List Con:=[d05Right]
theorem dchk_2(e:Ed)(hk:e.k=2)(hA:coordB e.ax e.ay=true)(hB:coordB e.bx e.by'=true)(hC:coordB e.cx e.cy=true)(k0:decide (e.k<1)=false)(k9:decide (e.k>3)=false):Fok Tryz.prog 129 [edV e lim c26] (.one (inV (checkZ e) lim)):=by
 have k1:(e.k==1)=false:=by simp[hk]
 have k3:(e.k==3)=false:=by simp[hk]
 have E:e.ok=((!((e.ax-e.cx==0)==(e.ay-e.cy==0)))&&(e.bx-e.cx==0-(e.ay-e.cy)&&e.by'-e.cy==e.ax-e.cx)):=by
  simp[Ed.ok,Ed.right,Ed.quarter,quarterB,rot,hA,hB,hC,hk,bne]
 cases hq:((e.ax-e.cx==0)==(e.ay-e.cy==0)) with
 | true =>
  rw[chk_b hA hB hC (b:=false) (by rw[E,hq];rfl)]
  exact fok K6 [false,false,false,false,false,false,false,true] [pF k0,pF k9,pF (not_F hA),pF (not_F hB),pF (not_F hC),pF k1,pF k3,pT hq] (by kernel_rfl)
 | false =>
  cases hz:(e.bx-e.cx==0-(e.ay-e.cy)&&e.by'-e.cy==e.ax-e.cx) with
  | true =>
   rw[chk_b hA hB hC (b:=true) (by rw[E,hq,hz];rfl)]
   exact fok K6 [false,false,false,false,false,false,false,false,false] [pF k0,pF k9,pF (not_F hA),pF (not_F hB),pF (not_F hC),pF k1,pF k3,pF hq,pF (beq_ne hz)] (by kernel_rfl)
  | false =>
   rw[chk_b hA hB hC (b:=false) (by rw[E,hq,hz];rfl)]
   exact fok K6 [false,false,false,false,false,false,false,false,true] [pF k0,pF k9,pF (not_F hA),pF (not_F hB),pF (not_F hC),pF k1,pF k3,pF hq,pT (beq_ne hz)] (by kernel_rfl)
theorem dchk_3(e:Ed)(hk:e.k=3)(hA:coordB e.ax e.ay=true)(hB:coordB e.bx e.by'=true)(hC:coordB e.cx e.cy=true)(k0:decide (e.k<1)=false)(k9:decide (e.k>3)=false):Fok Tryz.prog 129 [edV e lim c26] (.one (inV (checkZ e) lim)):=by
 have k1:(e.k==1)=false:=by simp[hk]
 have k3:(e.k==3)=true:=by simp[hk]
 have E:e.ok=((!((e.ax-e.cx==0)==(e.ay-e.cy==0)))&&(e.bx-e.cx==e.ay-e.cy&&e.by'-e.cy==0-(e.ax-e.cx))):=by
  simp[Ed.ok,Ed.right,Ed.quarter,quarterB,rot,hA,hB,hC,hk,bne]
 cases hq:((e.ax-e.cx==0)==(e.ay-e.cy==0)) with
 | true =>
  rw[chk_b hA hB hC (b:=false) (by rw[E,hq];rfl)]
  exact fok K6 [false,false,false,false,false,false,true,true] [pF k0,pF k9,pF (not_F hA),pF (not_F hB),pF (not_F hC),pF k1,pT k3,pT hq] (by kernel_rfl)
 | false =>
  cases hz:(e.bx-e.cx==e.ay-e.cy&&e.by'-e.cy==0-(e.ax-e.cx)) with
  | true =>
   rw[chk_b hA hB hC (b:=true) (by rw[E,hq,hz];rfl)]
   exact fok K6 [false,false,false,false,false,false,true,false,false] [pF k0,pF k9,pF (not_F hA),pF (not_F hB),pF (not_F hC),pF k1,pT k3,pF hq,pF (beq_ne hz)] (by kernel_rfl)
  | false =>
   rw[chk_b hA hB hC (b:=false) (by rw[E,hq,hz];rfl)]
   exact fok K6 [false,false,false,false,false,false,true,false,true] [pF k0,pF k9,pF (not_F hA),pF (not_F hB),pF (not_F hC),pF k1,pT k3,pF hq,pT (beq_ne hz)] (by kernel_rfl)
theorem dchk_1(e:Ed)(hk:e.k=1)(hA:coordB e.ax e.ay=true)(hB:coordB e.bx e.by'=true)(hC:coordB e.cx e.cy=true)(k0:decide (e.k<1)=false)(k9:decide (e.k>3)=false):Fok Tryz.prog 129 [edV e lim c26] (.one (inV (checkZ e) lim)):=by
 have k1:(e.k==1)=true:=by simp[hk]
 have E:e.ok=(e.cx==0&&e.cy==0):=by simp[Ed.ok,Ed.right,Ed.lone,hA,hB,hC,hk]
 cases hz:(e.cx==0&&e.cy==0) with
 | true =>
  rw[chk_b hA hB hC (b:=true) (by rw[E,hz])]
  exact fok K6 [false,false,false,false,false,true,false] [pF k0,pF k9,pF (not_F hA),pF (not_F hB),pF (not_F hC),pT k1,pF (beq_ne hz)] (by kernel_rfl)
 | false =>
  rw[chk_b hA hB hC (b:=false) (by rw[E,hz])]
  exact fok K6 [false,false,false,false,false,true,true] [pF k0,pF k9,pF (not_F hA),pF (not_F hB),pF (not_F hC),pT k1,pT (beq_ne hz)] (by kernel_rfl)
theorem c26_rt{e:Ed}(hA:coordB e.ax e.ay=true)(hB:coordB e.bx e.by'=true)(hC:coordB e.cx e.cy=true)(W:World)(vals:List Value)(hv:RepVs W W (fun _=>0) 0 [edV e lim lim] vals):RepVs W W (fun _=>0) 0 [edV e lim c26] vals :=
 rvs_1 (ed_rt (toEd_V e lim lim) (by simp[Ed.right,hA,hB,hC])) rvs_0 vals hv
theorem dchk_ok(e:Ed):Fok Tryz.prog 129 [edV e lim lim] (.one (inV (checkZ e) lim)):=by
 by_cases h1:e.k<1
 ·rw [checkZ_11a (nok (by omega)) (by omega)]
  exact fok K6 [true] [pT (lt_T h1)] (by kernel_rfl)
 by_cases h3:3<e.k
 ·rw [checkZ_11b (nok (by omega)) (by omega)]
  exact fok K6 [false,true] [pF (lt_F h1),pT (gt_T h3)] (by kernel_rfl)
 have k0:=lt_F h1
 have k9:=gt_F h3
 cases hA:coordB e.ax e.ay with
 | false =>
  rw[checkZ_10 (okA hA) (by omega) (by omega) (.inl hA)]
  exact fok K6 [false,false,true] [pF k0,pF k9,pT (not_T hA)] (by kernel_rfl)
 | true =>
  cases hB:coordB e.bx e.by' with
  | false =>
   rw[checkZ_10 (okB hB) (by omega) (by omega) (.inr (.inl hB))]
   exact fok K6 [false,false,false,true] [pF k0,pF k9,pF (not_F hA),pT (not_T hB)] (by kernel_rfl)
  | true =>
   cases hC:coordB e.cx e.cy with
   | false =>
    rw[checkZ_10 (okC hC) (by omega) (by omega) (.inr (.inr hC))]
    exact fok K6 [false,false,false,false,true] [pF k0,pF k9,pF (not_F hA),pF (not_F hB),pT (not_T hC)] (by kernel_rfl)
   | true =>
    refine Fok.pre ?_ (c26_rt hA hB hC)
    obtain hk|hk|hk:e.k=1\/e.k=2\/e.k=3:=by omega
    ·exact dchk_1 e hk hA hB hC k0 k9
    ·exact dchk_2 e hk hA hB hC k0 k9
    ·exact dchk_3 e hk hA hB hC k0 k9
def d06Chk:Con where
 f:=129
 g:=fun | [⟨true,l⟩]=>(toEd l).map fun e=>(.one (inV (checkZ e) 11),[])|_=>none
 ok:=by
  intro args res ps h _
  split at h<;>try cases h
  rename_i l
  cases he:toEd l with
  | none=>simp[he] at h
  | some e =>
   simp only[he,Option.map_some,Option.some.injEq,Prod.mk.injEq] at h
   obtain⟨rfl,rfl⟩:=h
   exact ((dchk_ok e).bd (checkZ_64 e).1).pre fun W=>rvs_1 (ed_lim he) rvs_0
theorem radZ_two{e:Ed}(h:e.ok=true)(hk:(e.k==1)=false):radZ e=max (e.ax-e.cx) (0-(e.ax-e.cx))+max (e.ay-e.cy) (0-(e.ay-e.cy)):=by
 rw[radZ_arc h hk]
 have hk':¬e.k=1:=by simpa using hk
 have hq:((e.ax-e.cx==0) != (e.ay-e.cy==0))=true:=by
  simp only[Ed.ok,Bool.and_eq_true,if_neg hk'] at h
  have h2:=h.2
  split at h2
  ·simp only[Ed.quarter,quarterB,Bool.and_eq_true] at h2;exact h2.1
  ·split at h2
   ·simp only[Ed.quarter,quarterB,Bool.and_eq_true] at h2;exact h2.1
   ·cases h2
 by_cases h1:e.ax-e.cx=0
 ·omega
 ·by_cases h2 : e.ay - e.cy = 0
  ·omega
  ·exfalso
   rw[beq_false_of_ne h1,beq_false_of_ne h2] at hq
   cases hq
theorem drad_ok(e:Ed)(ho:e.ok=true):Fok Tryz.prog 221 [edV e 3 c26] (.one (inV (radZ e) lim)):=by
 cases hk:(e.k==1) with
 | true =>
  rw[radZ_line (by simpa using hk)]
  exact fok [d06Chk] [true] [pT hk] (by kernel_rfl)
 | false =>
  rw[radZ_two ho hk]
  exact fok [d06Chk] [false,false] [pF hk,pF (chk_F ho)] (by kernel_rfl)
def d06Rad:Con where
 f:=221
 g:=fun | [⟨true,l⟩]=>(toEd l).map fun e=>(.one (inV (radZ e) 134217728),[e.ok=true])|_=>none
 ok:=by
  intro args res ps h hp
  split at h<;>try cases h
  rename_i l
  cases he:toEd l with
  | none=>simp[he] at h
  | some e =>
   simp only[he,Option.map_some,Option.some.injEq,Prod.mk.injEq] at h
   obtain⟨rfl,rfl⟩:=h
   exact ((drad_ok e hp.1).bd (rad_b hp.1).1).pre fun W=>rvs_1 (ed_ok he hp.1) rvs_0
end

set_option maxRecDepth 100000
section
def errN(e:Nat->Ed):Nat->Int
 | 0=>0
 | n+1=>if errN e n=0 then checkZ (e n) else errN e n
theorem errN_0{e:Nat->Ed}:∀ {n:Nat},errN e n=0->∀k,k<n->checkZ (e k)=0
 | 0,_,k,hk=>absurd hk (Nat.not_lt_zero k)
 | n+1,h,k,hk=>by
  unfold errN at h
  split at h
  ·rename_i h1
   rcases Nat.lt_or_eq_of_le (Nat.le_of_lt_succ hk) with g|g
   ·exact errN_0 h1 k g
   ·rw[g];exact h
  ·rename_i h1;exact absurd h h1
theorem errN_n{e:Nat->Ed}:∀ {n:Nat},errN e n≠0->∃m,m<n/\errN e n=checkZ (e m)/\∀k,k<m->checkZ (e k)=0
 | 0,h=>absurd rfl h
 | n+1,h=>by
  unfold errN at h ⊢
  by_cases h1:errN e n=0
  ·rw [if_pos h1] at h ⊢
   exact⟨n,by omega,rfl,errN_0 h1⟩
  ·rw [if_neg h1] at h ⊢
   obtain⟨m,k1,k2⟩:=errN_n h1
   exact⟨m,by omega,k2⟩
def clsB(s:Sh):Bool:=(s.e 0).ax==(s.e (s.n-1)).bx&&(s.e 0).ay==(s.e (s.n-1)).by'
def fewS(s:Sh):Int:=if s.k=1 then 1 else 2
def chkS(s:Sh):Int :=
 if s.k≠1/\s.k≠2 then 12 else if (s.n:Int)<fewS s then 12 else if 40<s.n then 2 else if errN s.e s.n≠0 then errN s.e s.n else if allB (jn s.e) (s.n-1)=false\/(s.k=2/\clsB s=false) then 12 else if s.k=2/\s.r≠0\/s.r<0\/4194304<s.r then 3 else 0
def shB(s:Sh):List (Option Mb):=[some ⟨24,(shpV s).l⟩]
def ptr0:V1:=⟨false,[.p 0 0]⟩
def pSh(s:Sh):List Pf:=[⟨s.k=s.k,rfl⟩,⟨roE s.n s.e=roE s.n s.e,rfl⟩,⟨s.r=s.r,rfl⟩]
def pEd(s:Sh):Pf:=⟨∀i,i<s.n->isEd (edI (s.e i))=true,fun _ _=>rfl⟩
def K9C:List Con:=[d06Chk,dChain]
def c9D(s:Sh)(j:Nat):Ds:=⟨[(4,.le (inV (j:Int) 2000)),(1,.eq ptr0)],shB s⟩
theorem lt_tt{a b:Int}(h:a<b):decide (a<b)=true:=by simpa using h
theorem lt_ff{a b:Int}(h:¬a<b):decide (a<b)=false:=by simpa using h
theorem c9_round(s:Sh)(hn:s.n<=40)(k:Nat)(hk:k<s.n)(h:checkZ (s.e k)=0):Rnd [] K9C 78 24 [] (nF 78) (c9D s k) (c9D s (k+1)) .nm :=
 ⟨[true,false],[pT (lt_tt (show ((k:Nat):Int)<(s.n:Int) by omega)),pP (show 0<=((k:Nat):Int)/\((k:Nat):Int)<s.n by omega),pF (ne_F (show ¬checkZ (s.e k)≠0 by simpa using h)),pI k (by omega),pR ptr0]++pSh s,by kernel_rfl⟩
theorem c9_good(s:Sh)(hn:s.n<=40)(h:errN s.e s.n=0):OrcOk Tryz.prog (lpC 78 24) ⟨nF 78,c9D s 0,.ex 1,⟨[(1,.eq ptr0)],shB s⟩⟩ :=
 orc (X:=[]) (K:=K9C) s.n (c9D s) (fun _=>[]) (by kernel_rfl) (fun _=>by kernel_rfl) (fun _ _=>LT.nil) (fun k hk=>c9_round s hn k hk (errN_0 h k hk))
  ⟨[false],[pF (lt_ff (show ¬((s.n:Nat):Int)<(s.n:Int) by omega)),pR ptr0]++pSh s,by kernel_rfl⟩ nofun
theorem c9_bad(s:Sh)(hn:s.n<=40)(m:Nat)(hm:m<s.n)(h:∀k,k<m->checkZ (s.e k)=0)(h1:checkZ (s.e m)≠0):OrcOk Tryz.prog (lpC 78 24) ⟨nF 78,c9D s 0,.rt,⟨[(2,.le (inV (checkZ (s.e m)) lim))],[]⟩⟩ :=
 orc (X:=[]) (K:=K9C) m (c9D s) (fun _=>[]) (by kernel_rfl) (fun _=>by kernel_rfl) (fun _ _=>LT.nil) (fun k hk=>c9_round s hn k (by omega) (h k hk))
  ⟨[true,true],[pT (lt_tt (show ((m:Nat):Int)<(s.n:Int) by omega)),pP (show 0<=((m:Nat):Int)/\((m:Nat):Int)<s.n by omega),pT (ne_T h1),⟨checkZ (s.e m)=checkZ (s.e m),rfl⟩],by kernel_rfl⟩ nofun
def c9in(s:Sh):List Pf:=[⟨(0:Int)=((0:Nat):Int),rfl⟩,pR ptr0]++pSh s
theorem Fok.vS{f:FuncId}{args:List V1}{a b:Int}{B:Nat}(h:a=b)(H:Fok Tryz.prog f args (.one (inV b B))):Fok Tryz.prog f args (.one (inV a B)):=h ▸ H
theorem n_wrap{n:Nat}(h:1<=n)(h2:n<=40):IntKind.i64.wrap ((n:Int)-1)=((n-1:Nat):Int):=by
 rw[wrap_in (by unfold I64;omega)]
 omega
def c9ix(s:Sh)(h:1<=s.n)(h2:s.n<=40):List Pf:=[pEd s,⟨s.n<=1000,by omega⟩,⟨(0:Int)<=0/\(0:Int)<s.n,by omega⟩,⟨0<=IntKind.i64.wrap ((s.n:Int)-1)/\IntKind.i64.wrap ((s.n:Int)-1)<s.n,by rw[n_wrap h h2];omega⟩]
theorem cls_w{s:Sh}{b:Bool}(h:1<=s.n)(h2:s.n<=40)(hb:clsB s=b):(!((s.e 0).ax==(s.e (IntKind.i64.wrap ((s.n:Int)-1)).toNat).bx&&(s.e 0).ay==(s.e (IntKind.i64.wrap ((s.n:Int)-1)).toNat).by'))=!b:=by rw[n_wrap h h2,<- hb];rfl
theorem not_b{x b:Bool}(h:x=b):(!x)=!b:=by rw[h]
theorem r9chk_ok(s:Sh):Fok Tryz.prog 78 [shpV s] (.one (inV (chkS s) lim)):=by
 have kind:((s.k==1)=false/\(s.k==2)=false)\/((s.k==1)=false/\(s.k==2)=true)\/((s.k==1)=true/\(s.k==2)=false):=by
  simp only[beq_eq_false_iff_ne,beq_iff_eq,ne_eq];omega
 rcases kind with⟨h1,h2⟩|⟨h1,h2⟩|⟨h1,h2⟩
 ·have g1 : ¬ s.k = 1 := by simpa using h1
  have g2:¬s.k=2:=by simpa using h2
  exact Fok.vS (show chkS s=12 by unfold chkS;rw[if_pos ⟨g1,g2⟩]) (fok K9C [false,false] [pF h1,pF h2] (by kernel_rfl))
 ·have g2 : s.k = 2 := by simpa using h2
  have ef:fewS s=2:=by unfold fewS;rw[if_neg (by omega)]
  by_cases h3:(s.n:Int)<2
  ·exact Fok.vS (show chkS s=12 by unfold chkS;rw[if_neg (by omega),ef,if_pos h3]) (fok K9C [false,true,true] [pF h1,pT h2,pT (lt_tt h3)] (by kernel_rfl))
  by_cases h4:(s.n:Int)>40
  ·exact Fok.vS (show chkS s=2 by unfold chkS;rw[if_neg (by omega),ef,if_neg h3,if_pos (by omega)]) (fok K9C [false,true,false,true] [pF h1,pT h2,pF (lt_ff h3),pT (gt_T h4)] (by kernel_rfl))
  have hn:s.n<=40:=by omega
  have hn1:1<=s.n:=by omega
  have e0:chkS s=if errN s.e s.n≠0 then errN s.e s.n else if allB (jn s.e) (s.n-1)=false\/clsB s=false then 12 else if s.r≠0\/s.r<0\/4194304<s.r then 3 else 0:=by
   unfold chkS;rw[if_neg (by omega),ef,if_neg h3,if_neg (by omega)];simp only[g2,true_and]
  by_cases h5:errN s.e s.n=0
  rotate_left
  ·obtain ⟨m, k1, k2, k3⟩ := errN_n h5
   rw[e0,if_pos h5,k2]
   rw[k2] at h5
   exact fokL [] K9C _ (LT.cons (c9_bad s hn m k1 k3 h5) LT.nil) [false,true,false,false] ([pF h1,pT h2,pF (lt_ff h3),pF (gt_F h4)]++c9in s) (by kernel_rfl)
  have oc:=LT.cons (c9_good s hn h5) LT.nil
  rw[if_neg (by simpa using h5)] at e0
  cases h6:allB (jn s.e) (s.n-1) with
  | false =>
   exact Fok.vS (show chkS s=12 by rw[e0,if_pos (.inl h6)]) (fokL [] K9C _ oc [false,true,false,false,true] ([pF h1,pT h2,pF (lt_ff h3),pF (gt_F h4)]++c9in s++c9ix s hn1 hn++[pT (not_b h6)]) (by kernel_rfl))
  | true =>
   cases h7:clsB s with
   | false =>
    exact Fok.vS (show chkS s=12 by rw[e0,if_pos (.inr h7)]) (fokL [] K9C _ oc [false,true,false,false,false,true,true] ([pF h1,pT h2,pF (lt_ff h3),pF (gt_F h4)]++c9in s++c9ix s hn1 hn++[pF (not_b h6),pT h2,pT (cls_w hn1 hn h7)]) (by kernel_rfl))
   | true =>
    rw[if_neg (by simp[h6,h7])] at e0
    by_cases h8:s.r≠0
    ·exact Fok.vS (show chkS s=3 by rw[e0,if_pos (.inl h8)]) (fokL [] K9C _ oc [false,true,false,false,false,true,false,true,true] ([pF h1,pT h2,pF (lt_ff h3),pF (gt_F h4)]++c9in s++c9ix s hn1 hn++[pF (not_b h6),pT h2,pF (cls_w hn1 hn h7),pT h2,pT (ne_T h8)]) (by kernel_rfl))
    ·exact Fok.vS (show chkS s=0 by rw[e0,if_neg (by omega)]) (fokL [] K9C _ oc [false,true,false,false,false,true,false,true,false,false,false] ([pF h1,pT h2,pF (lt_ff h3),pF (gt_F h4)]++c9in s++c9ix s hn1 hn++[pF (not_b h6),pT h2,pF (cls_w hn1 hn h7),pT h2,pF (ne_F h8),pF (lt_ff (show ¬s.r<0 by omega)),pF (gt_F (show ¬(4194304:Int)<s.r by omega))]) (by kernel_rfl))
 ·have g1 : s.k = 1 := by simpa using h1
  have ef:fewS s=1:=by unfold fewS;rw[if_pos g1]
  by_cases h3:(s.n:Int)<1
  ·exact Fok.vS (show chkS s=12 by unfold chkS;rw[if_neg (by omega),ef,if_pos h3]) (fok K9C [true,true] [pT h1,pT (lt_tt h3)] (by kernel_rfl))
  by_cases h4:(s.n:Int)>40
  ·exact Fok.vS (show chkS s=2 by unfold chkS;rw[if_neg (by omega),ef,if_neg h3,if_pos (by omega)]) (fok K9C [true,false,true] [pT h1,pF (lt_ff h3),pT (gt_T h4)] (by kernel_rfl))
  have hn:s.n<=40:=by omega
  have hn1:1<=s.n:=by omega
  have e0:chkS s=if errN s.e s.n≠0 then errN s.e s.n else if allB (jn s.e) (s.n-1)=false then 12 else if s.r<0\/4194304<s.r then 3 else 0:=by
   unfold chkS;rw[if_neg (by omega),ef,if_neg h3,if_neg (by omega)];simp only[g1,show ¬(1:Int)=2 by decide,false_and,or_false,false_or]
  by_cases h5:errN s.e s.n=0
  rotate_left
  ·obtain ⟨m, k1, k2, k3⟩ := errN_n h5
   rw[e0,if_pos h5,k2]
   rw[k2] at h5
   exact fokL [] K9C _ (LT.cons (c9_bad s hn m k1 k3 h5) LT.nil) [true,false,false] ([pT h1,pF (lt_ff h3),pF (gt_F h4)]++c9in s) (by kernel_rfl)
  have oc:=LT.cons (c9_good s hn h5) LT.nil
  rw[if_neg (by simpa using h5)] at e0
  cases h6:allB (jn s.e) (s.n-1) with
  | false =>
   exact Fok.vS (show chkS s=12 by rw[e0,if_pos h6]) (fokL [] K9C _ oc [true,false,false,true] ([pT h1,pF (lt_ff h3),pF (gt_F h4)]++c9in s++c9ix s hn1 hn++[pT (not_b h6)]) (by kernel_rfl))
  | true =>
   rw[if_neg (by simp[h6])] at e0
   by_cases h8:s.r<0
   ·exact Fok.vS (show chkS s=3 by rw[e0,if_pos (.inl h8)]) (fokL [] K9C _ oc [true,false,false,false,false,false,true] ([pT h1,pF (lt_ff h3),pF (gt_F h4)]++c9in s++c9ix s hn1 hn++[pF (not_b h6),pF h2,pF h2,pT (lt_tt h8)]) (by kernel_rfl))
   by_cases h9:s.r>4194304
   ·exact Fok.vS (show chkS s=3 by rw[e0,if_pos (.inr h9)]) (fokL [] K9C _ oc [true,false,false,false,false,false,false,true] ([pT h1,pF (lt_ff h3),pF (gt_F h4)]++c9in s++c9ix s hn1 hn++[pF (not_b h6),pF h2,pF h2,pF (lt_ff h8),pT (gt_T h9)]) (by kernel_rfl))
   ·exact Fok.vS (show chkS s=0 by rw[e0,if_neg (by omega)]) (fokL [] K9C _ oc [true,false,false,false,false,false,false,false] ([pT h1,pF (lt_ff h3),pF (gt_F h4)]++c9in s++c9ix s hn1 hn++[pF (not_b h6),pF h2,pF h2,pF (lt_ff h8),pF (gt_F h9)]) (by kernel_rfl))
def d09Chk:Con:=shC 78 (fun s=>.one (inV (chkS s) lim)) (fun _=>[]) fun s _=>r9chk_ok s
end

set_option maxRecDepth 100000
section
def x0N(e:Nat->Ed):Nat->Int
 | 0=>min (e 0).ax (e 0).bx
 | k+1=>min (x0N e k) (min (e (k+1)).ax (e (k+1)).bx)
def y0N(e:Nat->Ed):Nat->Int
 | 0=>min (e 0).ay (e 0).by'
 | k+1=>min (y0N e k) (min (e (k+1)).ay (e (k+1)).by')
def x1N(e:Nat->Ed):Nat->Int
 | 0=>max (e 0).ax (e 0).bx
 | k+1=>max (x1N e k) (max (e (k+1)).ax (e (k+1)).bx)
def y1N(e:Nat->Ed):Nat->Int
 | 0=>max (e 0).ay (e 0).by'
 | k+1=>max (y1N e k) (max (e (k+1)).ay (e (k+1)).by')
def rcV(a b c d:Int):V1:=⟨true,[.i a lim,.i b lim,.i c lim,.i d lim]⟩
def boxV(s:Sh):V1:=if s.n=0 then rcV 0 0 0 0 else
 rcV (IntKind.i64.wrap (x0N s.e (s.n-1)-s.r)) (IntKind.i64.wrap (y0N s.e (s.n-1)-s.r)) (IntKind.i64.wrap (x1N s.e (s.n-1)+s.r)) (IntKind.i64.wrap (y1N s.e (s.n-1)+s.r))
def rcB(a b c d:Int):Option Mb:=some ⟨49,(rcV a b c d).l⟩
def rcZ:Option Mb:=some ⟨49,[.k 0,.k 0,.k 0,.k 0]⟩
def ptrN(b:Nat):V1:=⟨false,[.p b 0]⟩
def bxR(e:Nat->Ed)(k:Nat):List Pf:=[⟨x0N e k=x0N e k,rfl⟩,⟨y0N e k=y0N e k,rfl⟩,⟨x1N e k=x1N e k,rfl⟩,⟨y1N e k=y1N e k,rfl⟩]
def bxB(e:Nat->Ed)(k:Nat):Option Mb:=rcB (x0N e k) (y0N e k) (x1N e k) (y1N e k)
def r9bD(s:Sh)(j:Nat):Ds:=⟨[(4,.le (inV ((j+1:Nat):Int) 2000)),(1,.eq (ptrN 0)),(2,.eq (ptrN 1)),(3,.eq (ptrN 2))],shB s++[rcZ,bxB s.e j]⟩
theorem eq_tt{a b:Int}(h:a=b):(a==b)=true:=by simpa using h
theorem eq_ff{a b:Int}(h:a≠b):(a==b)=false:=by simpa using h
theorem r9box_ok(s:Sh)(hn:s.n<=1000):Fok Tryz.prog 143 [shpV s] (.one (boxV s)):=by
 by_cases h0:s.n=0
 ·unfold boxV
  rw[if_pos h0]
  exact fok [] [true] [pT (eq_tt (show (s.n:Int)=0 by omega))] (by kernel_rfl)
 ·unfold boxV
  rw[if_neg h0]
  have o:=orc (X:=[]) (K:=[]) (f:=143) (id:=10) (n:=nF 143) (s.n-1) (r9bD s) (fun _=>[]) (e:=.ex 0) (d1:=⟨[(1,.eq (ptrN 0)),(2,.eq (ptrN 1)),(3,.eq (ptrN 2))],shB s++[rcZ,bxB s.e (s.n-1)]⟩) (by kernel_rfl) (fun _=>by kernel_rfl) (fun _ _=>LT.nil)
   (fun k hk=>⟨[true],[pT (lt_tt (show ((k+1:Nat):Int)<(s.n:Int) by omega)),pP (show 0<=((k+1:Nat):Int)/\((k+1:Nat):Int)<s.n by omega),pI (k+1) (by omega),pR (ptrN 0),pR (ptrN 1),pR (ptrN 2)]++pSh s++bxR s.e (k+1),by kernel_rfl⟩)
   ⟨[false],[pF (lt_ff (show ¬((s.n-1+1:Nat):Int)<(s.n:Int) by omega)),pR (ptrN 0),pR (ptrN 1),pR (ptrN 2)]++pSh s++bxR s.e (s.n-1),by kernel_rfl⟩ nofun
  exact fokL [] [] _ (LT.cons o LT.nil) [false] ([pF (eq_ff (show (s.n:Int)≠0 by omega)),pP (show (0:Int)<=0/\(0:Int)<s.n by omega),⟨(1:Int)=((0+1:Nat):Int),rfl⟩,pR (ptrN 0),pR (ptrN 1),pR (ptrN 2)]++pSh s++bxR s.e 0) (by kernel_rfl)
end

set_option maxRecDepth 100000
section
def tlE(s:Sh):V1:=⟨false,[.ro 7 (s.n-1) fun j=>edI (s.e (1+j))]⟩
def lnE(n:Nat):V1:=⟨false,[.i (n:Int) lim]⟩
def sbD(s:Sh)(j:Nat):Ds:=⟨[(21,.le (inV (j:Int) 2000)),(1,.eq (ptrN 0)),(2,.eq (ptrN 1)),(3,.eq (ptrN 2)),(19,.eq (tlE s)),(20,.eq (lnE (s.n-1)))],shB s++[rcZ,bxB s.e j]⟩
def bxS(e:Nat->Ed)(k:Nat):List Pf:=[⟨min (x0N e k) (min (e (1+k)).ax (e (1+k)).bx)=x0N e (k+1),by rw[Nat.add_comm];rfl⟩,⟨min (y0N e k) (min (e (1+k)).ay (e (1+k)).by')=y0N e (k+1),by rw[Nat.add_comm];rfl⟩,⟨max (x1N e k) (max (e (1+k)).ax (e (1+k)).bx)=x1N e (k+1),by rw[Nat.add_comm];rfl⟩,⟨max (y1N e k) (max (e (1+k)).ay (e (1+k)).by')=y1N e (k+1),by rw[Nat.add_comm];rfl⟩]
theorem sbox_ok(s:Sh)(hn:s.n<=1000):Fok Tryz.prog 29 [shpV s] (.one (boxV s)):=by
 by_cases h0:s.n=0
 ·unfold boxV
  rw[if_pos h0]
  exact fok [] [true] [pT (eq_tt (show (s.n:Int)=0 by omega))] (by kernel_rfl)
 ·unfold boxV
  rw[if_neg h0]
  have o:=orc (X:=[]) (K:=[]) (f:=29) (id:=10) (n:=nF 29) (s.n-1) (sbD s) (fun _=>[]) (e:=.ex 0) (d1:=⟨[(1,.eq (ptrN 0)),(2,.eq (ptrN 1)),(3,.eq (ptrN 2))],shB s++[rcZ,bxB s.e (s.n-1)]⟩) (by kernel_rfl) (fun _=>by kernel_rfl) (fun _ _=>LT.nil)
   (fun k hk=>⟨[true],[pT (lt_tt (show (k:Int)<((s.n-1:Nat):Int) by omega)),pP (show 0<=(k:Int)/\(k:Int)<(s.n-1:Nat) by omega),pI k (by omega),pR (ptrN 0),pR (ptrN 1),pR (ptrN 2),pR (tlE s),pR (lnE (s.n-1))]++pSh s++bxS s.e k,by kernel_rfl⟩)
   ⟨[false],[pF (lt_ff (show ¬((s.n-1:Nat):Int)<((s.n-1:Nat):Int) by omega)),pR (ptrN 0),pR (ptrN 1),pR (ptrN 2)]++pSh s++bxR s.e (s.n-1),by kernel_rfl⟩ nofun
  exact fokL [] [] _ (LT.cons o LT.nil) [false] ([pF (eq_ff (show (s.n:Int)≠0 by omega)),pP (show (0:Int)<=0/\(0:Int)<s.n by omega),pP (show (0:Int)<=1/\(1:Int)<=s.n by omega),⟨(0:Int)=((0:Nat):Int),rfl⟩,pR (ptrN 0),pR (ptrN 1),pR (ptrN 2),pR (tlE s),pR (lnE (s.n-1))]++pSh s++bxR s.e 0) (by kernel_rfl)
end
end Go.Proofs.YtceemiodpccbhaaGreat
