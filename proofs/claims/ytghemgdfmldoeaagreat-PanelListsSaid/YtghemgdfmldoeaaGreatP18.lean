import Derived.Test.YtghemgdfmldoeaaGreatP17
set_option linter.unusedVariables false
set_option linter.unusedSimpArgs false
namespace Go.Proofs.YtghemgdfmldoeaaGreat
open Go.RowKit
set_option maxRecDepth 100000
section
def gA:Nat:=134217728
def KM:List ah:=[FS,Na,WY,Ws,jW]
def qB(B:Nat)(zs:List Int):V1:=⟨true,zs.map λz=>.i z B⟩
def s9(B:Nat)(l:List It):Option (List Int):=(jV l).bind λxs=>if xs.all (λx=>decide (x.2<=B))=true then some (xs.map (·.1)) else none
theorem vL{V W:World}{r:Nat->Nat}{k:Nat}{B:Nat}{l:List It}{zs:List Int}(h:s9 B l=some zs):∀v,au V W r k ⟨true,l⟩ v->au V W r k (qB B zs) v:=by
 intro v hv;unfold s9 at h;cases hx:jV l with|none=>simp[hx] at h|some xs =>
  simp only[hx,Option.bind_some] at h;split at h<;>cases h;rename_i ha;simp only[List.all_eq_true,decide_eq_true_eq] at ha;obtain⟨cs,h1,h2,h3⟩:=hv;obtain⟨k1,k2⟩:=xW hx h1;refine⟨cs,?_,h2,nofun⟩;subst k1;show aA V W r k ((xs.map (·.1)).map λz=>It.i z B) _;rw[List.map_map];exact zL (f:=λx:Int×Nat=>It.i x.1 B) (g:=λx:Int×Nat=>Value.int .i64 x.1) λx hx=>⟨rfl,Nat.le_trans (k2 x hx).1 (ha x hx),(k2 x hx).2⟩
theorem a0V(px py qx qy rx ry sx sy:Int):ae Tryz.prog 190 [qB aC [px,py,qx,qy],qB aC [rx,ry,sx,sy]] (.one (aj (qE px py qx qy rx ry sx sy) lim)):=by
 unfold qE;split
 ·rename_i h1;split
  ·rename_i h2;exact ad KM [true,true] [pT (gZ h1),pT (cL h2)] (by kernel_rfl)
  ·rename_i h2;split
   ·rename_i h3;exact ad KM [true,false,true] [pT (gZ h1),pF (bU h2),pT (cL h3)] (by kernel_rfl)
   ·rename_i h3;exact ad KM [true,false,false] [pT (gZ h1),pF (bU h2),pF (bU h3)] (by kernel_rfl)
 ·rename_i h1;split
  ·rename_i h2;exact ad KM [false,true] [pF (jF h1),pT (gZ h2)] (by kernel_rfl)
  ·rename_i h2;split
   ·rename_i h3;exact ad KM [false,false,true] [pF (jF h1),pF (jF h2),pT (decide_eq_true h3)] (by kernel_rfl)
   ·rename_i h3;split
    ·rename_i h4;exact ad KM [false,false,false,true] [pF (jF h1),pF (jF h2),pF (decide_eq_false h3),pT (dD h4)] (by kernel_rfl)
    ·rename_i h4;exact ad KM [false,false,false,false] [pF (jF h1),pF (jF h2),pF (decide_eq_false h3),pF (aB h4)] (by kernel_rfl)
def Wp:ah where
 f:=190
 g:=λ| [⟨true,l⟩,⟨true,m⟩]=>(match s9 aC l,s9 aC m with|some [px,py,qx,qy],some [rx,ry,sx,sy]=>some (.one (aj (qE px py qx qy rx ry sx sy) 1),[])|_,_=>none)|_=>none
 ok:=by
  intro args res ps h hp
  split at h<;>try cases h
  split at h<;>cases h
  rename_i px py qx qy rx ry sx sy hl hm
  have b:=PI px py qx qy rx ry sx sy
  exact ((a0V _ _ _ _ _ _ _ _).bd (by omega)).pre λW=>aU (vL hl) (aU (vL hm) dY)
def vQ(px py qx qy cx cy r ux uy vx vy:Int):LA :=
 ⟨(qx-px)*(qx-px)+(qy-py)*(qy-py),(px-cx)*(qx-px)+(py-cy)*(qy-py),(px-cx)*(px-cx)+(py-cy)*(py-cy),r,(px-cx)*ux+(py-cy)*uy,(qx-px)*ux+(qy-py)*uy,(px-cx)*vx+(py-cy)*vy,(qx-px)*vx+(qy-py)*vy⟩
theorem a0U(px py qx qy cx cy r ux uy vx vy:Int):ae Tryz.prog 191 [qB gA [px,py,qx,qy],qB gA [cx,cy,r,ux,uy,vx,vy]] (.one (aj (kx (vQ px py qx qy cx cy r ux uy vx vy).delta (vQ px py qx qy cx cy r ux uy vx vy).list) lim)) :=
 ad KM [] [] (by kernel_rfl)
def Wn:ah where
 f:=191
 g:=λ| [⟨true,l⟩,⟨true,m⟩]=>(match s9 gA l,s9 gA m with|some [px,py,qx,qy],some [cx,cy,r,ux,uy,vx,vy]=>some (.one (aj (kx (vQ px py qx qy cx cy r ux uy vx vy).delta (vQ px py qx qy cx cy r ux uy vx vy).list) 2),[])|_,_=>none)|_=>none
 ok:=by
  intro args res ps h hp
  split at h<;>try cases h
  split at h<;>cases h
  rename_i px py qx qy cx cy r ux uy vx vy hl hm
  have b:=vl (vQ px py qx qy cx cy r ux uy vx vy).delta (vQ px py qx qy cx cy r ux uy vx vy).list
  exact ((a0U _ _ _ _ _ _ _ _ _ _ _).bd (by omega)).pre λW=>aU (vL hl) (aU (vL hm) dY)
def tp(cx cy r ux uy vx vy dx dy q sx sy tx ty:Int):AA :=
 ⟨(dx-cx)*(dx-cx)+(dy-cy)*(dy-cy),r,q,(dx-cx)*ux+(dy-cy)*uy,(dx-cx)*vx+(dy-cy)*vy,(dx-cx)*sx+(dy-cy)*sy,(dx-cx)*tx+(dy-cy)*ty,
  (0-(dy-cy))*ux+(dx-cx)*uy,(0-(dy-cy))*vx+(dx-cx)*vy,(0-(dy-cy))*sx+(dx-cx)*sy,(0-(dy-cy))*tx+(dx-cx)*ty⟩
def AP(cx cy r ux uy vx vy dx dy q sx sy tx ty:Int):Int :=
 if (cx==dx&&cy==dy)=true then zU (r==q) (ux==sx&&uy==sy) (ux==tx&&uy==ty) (vx==sx&&vy==sy) (vx==tx&&vy==ty)
 else kx (tp cx cy r ux uy vx vy dx dy q sx sy tx ty).delta (tp cx cy r ux uy vx vy dx dy q sx sy tx ty).list
def bB(a b:Bool):List Bool:=cond a [true,b] [false]
def bH{x y a b:Bool}(_:x=a)(_:y=b):List Bool:=bB a b
def pB{x y:Bool}(a b:Bool)(ha:x=a)(hb:y=b):List Pf:=cond a [⟨x=a,ha⟩,⟨y=b,hb⟩] [⟨x=a,ha⟩]
theorem VM(cx cy r ux uy vx vy dx dy q sx sy tx ty:Int)(hc:(cx==dx&&cy==dy)=true):ae Tryz.prog 192 [qB gA [cx,cy,r,ux,uy,vx,vy],qB gA [dx,dy,q,sx,sy,tx,ty]] (.one (aj (zU (r==q) (ux==sx&&uy==sy) (ux==tx&&uy==ty) (vx==sx&&vy==sy) (vx==tx&&vy==ty)) lim)):=by
 generalize h0:(r==q)=z;generalize h1:(ux==sx&&uy==sy)=a;generalize h2:(ux==tx&&uy==ty)=b;generalize h3:(vx==sx&&vy==sy)=c;generalize h4:(vx==tx&&vy==ty)=d;cases z<;>cases a<;>cases b<;>cases c<;>cases d <;>
  exact ad KM (true::(bH h1 h0++bH h2 h0++bH h3 h0++bH h4 h0)) (pT hc::(pB _ _ h1 h0++pB _ _ h2 h0++pB _ _ h3 h0++pB _ _ h4 h0)) (by kernel_rfl)
theorem VL(cx cy r ux uy vx vy dx dy q sx sy tx ty:Int)(hc:(cx==dx&&cy==dy)=false):ae Tryz.prog 192 [qB gA [cx,cy,r,ux,uy,vx,vy],qB gA [dx,dy,q,sx,sy,tx,ty]] (.one (aj (kx (tp cx cy r ux uy vx vy dx dy q sx sy tx ty).delta (tp cx cy r ux uy vx vy dx dy q sx sy tx ty).list) lim)) :=
 ad KM [false] [pF hc] (by kernel_rfl)
theorem TL(z a b c d:Bool) : -1<=zU z a b c d/\zU z a b c d<=4:=by
 cases z<;>cases a<;>cases b<;>cases c<;>cases d<;>decide
def V8:ah where
 f:=192
 g:=λ| [⟨true,l⟩,⟨true,m⟩]=>(match s9 gA l,s9 gA m with|some [cx,cy,r,ux,uy,vx,vy],some [dx,dy,q,sx,sy,tx,ty]=>some (.one (aj (AP cx cy r ux uy vx vy dx dy q sx sy tx ty) 4),[])|_,_=>none)|_=>none
 ok:=by
  intro args res ps h hp
  split at h<;>try cases h
  split at h<;>cases h
  rename_i cx cy r ux uy vx vy dx dy q sx sy tx ty hl hm
  refine ae.pre ?_ λW=>aU (vL hl) (aU (vL hm) dY)
  unfold AP
  cases hc:(cx==dx&&cy==dy) with
  | true =>
   rw[if_pos rfl]
   have b:=TL (r==q) (ux==sx&&uy==sy) (ux==tx&&uy==ty) (vx==sx&&vy==sy) (vx==tx&&vy==ty)
   exact (VM _ _ _ _ _ _ _ _ _ _ _ _ _ _ hc).bd (by omega)
  | false =>
   rw[if_neg (by simp)]
   have b:=vl (tp cx cy r ux uy vx vy dx dy q sx sy tx ty).delta (tp cx cy r ux uy vx vy dx dy q sx sy tx ty).list
   exact (VL _ _ _ _ _ _ _ _ _ _ _ _ _ _ hc).bd (by omega)
end
set_option maxRecDepth 100000
section
theorem a3J{V W:World}{r:Nat->Nat}{k:Nat}{x y:Int}{A B:Nat}(h1:A<=aC)(h2:B<=aC):∀v,au V W r k ⟨true,[.i x A,.i y B]⟩ v->au V W r k (ew x y aC) v:=zp h1 h2
theorem a2K(ax ay bx by' cx cy px py:Int)(ho:(Ed.mk 1 ax ay bx by' cx cy).ok=true):ae Tryz.prog 189 [aO ⟨1,ax,ay,bx,by',cx,cy⟩ 3 aC,ew px py aC] (.one (aN (onE ⟨1,ax,ay,bx,by',cx,cy⟩ px py))):=by
 have E:onE ⟨1,ax,ay,bx,by',cx,cy⟩ px py=(jD (min ax bx) (min ay by') (max ax bx) (max ay by') px py&&(lV ((bx-ax)*(py-ay)-(by'-ay)*(px-ax))==0)):=by unfold onE;rw[ho];rfl
 rw[E];unfold jD;cases h0:decide (min ax bx<=px) with|false=>exact ad [bM,jW] [true,false] [pT ho,pF h0] (by kernel_rfl)|true =>
  cases h1:decide (px<=max ax bx) with|false=>exact ad [bM,jW] [true,true,false] [pT ho,pT h0,pF h1] (by kernel_rfl)|true =>
   cases h2:decide (min ay by'<=py) with|false=>exact ad [bM,jW] [true,true,true,false] [pT ho,pT h0,pT h1,pF h2] (by kernel_rfl)|true =>
    cases h3:decide (py<=max ay by') with|false=>exact ad [bM,jW] [true,true,true,true,false] [pT ho,pT h0,pT h1,pT h2,pF h3] (by kernel_rfl)|true =>
     exact ad [bM,jW] [true,true,true,true,true] [pT ho,pT h0,pT h1,pT h2,pT h3] (by kernel_rfl)
theorem a2L(ax ay bx by' cx cy px py:Int)(ho:(Ed.mk 2 ax ay bx by' cx cy).ok=true):ae Tryz.prog 189 [aO ⟨2,ax,ay,bx,by',cx,cy⟩ 3 aC,ew px py aC] (.one (aN (onE ⟨2,ax,ay,bx,by',cx,cy⟩ px py))):=by
 have E:onE ⟨2,ax,ay,bx,by',cx,cy⟩ px py=(jD (min ax bx) (min ay by') (max ax bx) (max ay by') px py&&(Jm (px-cx) (py-cy) (ax-cx) (ay-cy)==0)):=by unfold onE;rw[ho];rfl
 rw[E];unfold jD;cases h0:decide (min ax bx<=px) with|false=>exact ad [bM,jW] [true,false] [pT ho,pF h0] (by kernel_rfl)|true =>
  cases h1:decide (px<=max ax bx) with|false=>exact ad [bM,jW] [true,true,false] [pT ho,pT h0,pF h1] (by kernel_rfl)|true =>
   cases h2:decide (min ay by'<=py) with|false=>exact ad [bM,jW] [true,true,true,false] [pT ho,pT h0,pT h1,pF h2] (by kernel_rfl)|true =>
    cases h3:decide (py<=max ay by') with|false=>exact ad [bM,jW] [true,true,true,true,false] [pT ho,pT h0,pT h1,pT h2,pF h3] (by kernel_rfl)|true =>
     exact ad [bM,jW] [true,true,true,true,true] [pT ho,pT h0,pT h1,pT h2,pT h3] (by kernel_rfl)
theorem a2M(ax ay bx by' cx cy px py:Int)(ho:(Ed.mk 3 ax ay bx by' cx cy).ok=true):ae Tryz.prog 189 [aO ⟨3,ax,ay,bx,by',cx,cy⟩ 3 aC,ew px py aC] (.one (aN (onE ⟨3,ax,ay,bx,by',cx,cy⟩ px py))):=by
 have E:onE ⟨3,ax,ay,bx,by',cx,cy⟩ px py=(jD (min ax bx) (min ay by') (max ax bx) (max ay by') px py&&(Jm (px-cx) (py-cy) (ax-cx) (ay-cy)==0)):=by unfold onE;rw[ho];rfl
 rw[E];unfold jD;cases h0:decide (min ax bx<=px) with|false=>exact ad [bM,jW] [true,false] [pT ho,pF h0] (by kernel_rfl)|true =>
  cases h1:decide (px<=max ax bx) with|false=>exact ad [bM,jW] [true,true,false] [pT ho,pT h0,pF h1] (by kernel_rfl)|true =>
   cases h2:decide (min ay by'<=py) with|false=>exact ad [bM,jW] [true,true,true,false] [pT ho,pT h0,pT h1,pF h2] (by kernel_rfl)|true =>
    cases h3:decide (py<=max ay by') with|false=>exact ad [bM,jW] [true,true,true,true,false] [pT ho,pT h0,pT h1,pT h2,pF h3] (by kernel_rfl)|true =>
     exact ad [bM,jW] [true,true,true,true,true] [pT ho,pT h0,pT h1,pT h2,pT h3] (by kernel_rfl)
def Wz:ah where
 f:=189
 g:=λ| [⟨true,l⟩,⟨true,[.i x A,.i y B]⟩]=>if A<=aC/\B<=aC then (eK l).map λe=>(.one (aN (onE e x y)),[e.ok=true]) else none|_=>none
 ok:=by
  intro args res ps h hp
  split at h<;>try cases h
  rename_i l x A y B
  split at h<;>try cases h
  rename_i hb
  cases he:eK l with
  | none=>simp[he] at h
  | some e =>
   simp only[he,Option.map_some,Option.some.injEq,Prod.mk.injEq] at h
   obtain⟨rfl,rfl⟩:=h
   have ho:=hp.1
   refine ae.pre ?_ λW=>aU (nu he ho) (aU (a3J hb.1 hb.2) dY)
   obtain⟨k,ax,ay,bx,by',cx,cy⟩:=e
   rcases nE ho with h|h|h
   ·obtain rfl : k = 1 := h
    exact a2K ax ay bx by' cx cy x y ho
   ·obtain rfl : k = 2 := h
    exact a2L ax ay bx by' cx cy x y ho
   ·obtain rfl : k = 3 := h
    exact a2M ax ay bx by' cx cy x y ho
def KC:List ah:=[Be,Bg,Wz,Wp,Wn,V8]
theorem VN(e f:Ed):rG e f=AP e.cx e.cy (az e) e.ux e.uy e.vx e.vy f.cx f.cy (az f) f.ux f.uy f.vx f.vy:=by
 unfold rG AP;by_cases h:e.cx=f.cx/\e.cy=f.cy
 ·rw[if_pos h,if_pos (by simpa using h)]
 ·rw [if_neg h, if_neg (by simpa using h)];unfold xP tp;simp only[Int.zero_sub]
theorem pm(e:Ed):e.pt=(e.ax==e.bx&&e.ay==e.by'):=rfl
theorem oJ{e f:Ed}(h1:e.ok=true)(h2:f.ok=true):bK e f=if e.k=1 then
  if e.pt then iW f e.ax e.ay
  else if f.k=1 then (if f.pt then iW e f.ax f.ay else qE e.ax e.ay e.bx e.by' f.ax f.ay f.bx f.by')
  else tz e f
 else if f.k=1 then (if f.pt then iW e f.ax f.ay else tz f e)
 else rG e f:=by
 unfold bK;rw[h1,h2];rfl
theorem ey{e:Ed}(h:e.ok=true)(hk:¬e.k=1):az e≠0:=by have:=Jw h hk;omega
theorem iH{a b:Int}(h:a=b):(a != b)=false:=by simpa using h
theorem XS(e f:Ed)(h1:e.ok=true)(h2:f.ok=true)(ke:¬e.k=1)(kf:¬f.k=1):ae Tryz.prog 132 [aO e 3 aC,aO f 3 aC] (.one (aj (bK e f) lim)):=by
 rw[show bK e f=rG e f by rw[oJ h1 h2];simp only[if_neg ke,if_neg kf]];rw[VN];exact ad KC [false,false,true,true] [pF (aD h1),pF (aD h2),pT (gZ ke),pP h1,pP (ey h1 ke),pP (ey h1 ke),pP (ey h1 ke),pP (ey h1 ke),pT (gZ kf),pP h2,pP (ey h2 kf),pP (ey h2 kf),pP (ey h2 kf),pP (ey h2 kf)] (by kernel_rfl)
theorem XU(e f:Ed)(h1:e.ok=true)(h2:f.ok=true)(ke:¬e.k=1)(kf:f.k=1)(pf:(f.ax==f.bx&&f.ay==f.by')=true):ae Tryz.prog 132 [aO e 3 aC,aO f 3 aC] (.one (aj (bK e f) lim)):=by
 rw[show bK e f=iW e f.ax f.ay by rw[oJ h1 h2];simp only[if_neg ke,if_pos kf,pm f,pf,if_true]];unfold iW;cases ho:onE e f.ax f.ay with|true=>exact ad KC [false,false,true,false,true,true] [pF (aD h1),pF (aD h2),pT (gZ ke),pP h1,pP (ey h1 ke),pP (ey h1 ke),pP (ey h1 ke),pP (ey h1 ke),pF (iH kf),pT pf,pP h1,pT ho] (by kernel_rfl)|false=>exact ad KC [false,false,true,false,true,false] [pF (aD h1),pF (aD h2),pT (gZ ke),pP h1,pP (ey h1 ke),pP (ey h1 ke),pP (ey h1 ke),pP (ey h1 ke),pF (iH kf),pT pf,pP h1,pF ho] (by kernel_rfl)
theorem XT(e f:Ed)(h1:e.ok=true)(h2:f.ok=true)(ke:¬e.k=1)(kf:f.k=1)(pf:(f.ax==f.bx&&f.ay==f.by')=false):ae Tryz.prog 132 [aO e 3 aC,aO f 3 aC] (.one (aj (bK e f) lim)):=by
 rw[show bK e f=tz f e by rw[oJ h1 h2];simp only[if_neg ke,if_pos kf,pm f,pf,Bool.false_eq_true,if_false]];exact ad KC [false,false,true,false,false] [pF (aD h1),pF (aD h2),pT (gZ ke),pP h1,pP (ey h1 ke),pP (ey h1 ke),pP (ey h1 ke),pP (ey h1 ke),pF (iH kf),pF pf] (by kernel_rfl)
theorem X5(e f:Ed)(h1:e.ok=true)(h2:f.ok=true)(ke:e.k=1)(pe:(e.ax==e.bx&&e.ay==e.by')=true)(kf:¬f.k=1):ae Tryz.prog 132 [aO e 3 aC,aO f 3 aC] (.one (aj (bK e f) lim)):=by
 rw[show bK e f=iW f e.ax e.ay by rw[oJ h1 h2];simp only[if_pos ke,pm e,pe,if_true]];unfold iW;cases ho:onE f e.ax e.ay with|true=>exact ad KC [false,false,false,true,true,true] [pF (aD h1),pF (aD h2),pF (iH ke),pT pe,pT (gZ kf),pP h2,pP (ey h2 kf),pP (ey h2 kf),pP (ey h2 kf),pP (ey h2 kf),pP h2,pT ho] (by kernel_rfl)|false=>exact ad KC [false,false,false,true,true,false] [pF (aD h1),pF (aD h2),pF (iH ke),pT pe,pT (gZ kf),pP h2,pP (ey h2 kf),pP (ey h2 kf),pP (ey h2 kf),pP (ey h2 kf),pP h2,pF ho] (by kernel_rfl)
theorem X7(e f:Ed)(h1:e.ok=true)(h2:f.ok=true)(ke:e.k=1)(pe:(e.ax==e.bx&&e.ay==e.by')=true)(kf:f.k=1)(pf:(f.ax==f.bx&&f.ay==f.by')=true):ae Tryz.prog 132 [aO e 3 aC,aO f 3 aC] (.one (aj (bK e f) lim)):=by
 rw[show bK e f=iW f e.ax e.ay by rw[oJ h1 h2];simp only[if_pos ke,pm e,pe,if_true]];unfold iW;cases ho:onE f e.ax e.ay with|true=>exact ad KC [false,false,false,true,false,true,true] [pF (aD h1),pF (aD h2),pF (iH ke),pT pe,pF (iH kf),pT pf,pP h2,pT ho] (by kernel_rfl)|false=>exact ad KC [false,false,false,true,false,true,false] [pF (aD h1),pF (aD h2),pF (iH ke),pT pe,pF (iH kf),pT pf,pP h2,pF ho] (by kernel_rfl)
theorem X6(e f:Ed)(h1:e.ok=true)(h2:f.ok=true)(ke:e.k=1)(pe:(e.ax==e.bx&&e.ay==e.by')=true)(kf:f.k=1)(pf:(f.ax==f.bx&&f.ay==f.by')=false):ae Tryz.prog 132 [aO e 3 aC,aO f 3 aC] (.one (aj (bK e f) lim)):=by
 rw[show bK e f=iW f e.ax e.ay by rw[oJ h1 h2];simp only[if_pos ke,pm e,pe,if_true]];unfold iW;cases ho:onE f e.ax e.ay with|true=>exact ad KC [false,false,false,true,false,false,true] [pF (aD h1),pF (aD h2),pF (iH ke),pT pe,pF (iH kf),pF pf,pP h2,pT ho] (by kernel_rfl)|false=>exact ad KC [false,false,false,true,false,false,false] [pF (aD h1),pF (aD h2),pF (iH ke),pT pe,pF (iH kf),pF pf,pP h2,pF ho] (by kernel_rfl)
theorem XV(e f:Ed)(h1:e.ok=true)(h2:f.ok=true)(ke:e.k=1)(pe:(e.ax==e.bx&&e.ay==e.by')=false)(kf:¬f.k=1):ae Tryz.prog 132 [aO e 3 aC,aO f 3 aC] (.one (aj (bK e f) lim)):=by
 rw[show bK e f=tz e f by rw[oJ h1 h2];simp only[if_pos ke,pm e,pe,Bool.false_eq_true,if_false,if_neg kf]];exact ad KC [false,false,false,false,true] [pF (aD h1),pF (aD h2),pF (iH ke),pF pe,pT (gZ kf),pP h2,pP (ey h2 kf),pP (ey h2 kf),pP (ey h2 kf),pP (ey h2 kf)] (by kernel_rfl)
theorem XZ(e f:Ed)(h1:e.ok=true)(h2:f.ok=true)(ke:e.k=1)(pe:(e.ax==e.bx&&e.ay==e.by')=false)(kf:f.k=1)(pf:(f.ax==f.bx&&f.ay==f.by')=true):ae Tryz.prog 132 [aO e 3 aC,aO f 3 aC] (.one (aj (bK e f) lim)):=by
 rw[show bK e f=iW e f.ax f.ay by rw[oJ h1 h2];simp only[if_pos ke,pm e,pe,Bool.false_eq_true,if_false,if_pos kf,pm f,pf,if_true]];unfold iW;cases ho:onE e f.ax f.ay with|true=>exact ad KC [false,false,false,false,false,true,true] [pF (aD h1),pF (aD h2),pF (iH ke),pF pe,pF (iH kf),pT pf,pP h1,pT ho] (by kernel_rfl)|false=>exact ad KC [false,false,false,false,false,true,false] [pF (aD h1),pF (aD h2),pF (iH ke),pF pe,pF (iH kf),pT pf,pP h1,pF ho] (by kernel_rfl)
theorem XW(e f:Ed)(h1:e.ok=true)(h2:f.ok=true)(ke:e.k=1)(pe:(e.ax==e.bx&&e.ay==e.by')=false)(kf:f.k=1)(pf:(f.ax==f.bx&&f.ay==f.by')=false):ae Tryz.prog 132 [aO e 3 aC,aO f 3 aC] (.one (aj (bK e f) lim)):=by
 rw[show bK e f=qE e.ax e.ay e.bx e.by' f.ax f.ay f.bx f.by' by rw[oJ h1 h2];simp only[if_pos ke,pm e,pe,Bool.false_eq_true,if_false,if_pos kf,pm f,pf]];exact ad KC [false,false,false,false,false,false] [pF (aD h1),pF (aD h2),pF (iH ke),pF pe,pF (iH kf),pF pf] (by kernel_rfl)
theorem X2(e f:Ed)(h:(e.ok&&f.ok)=false):ae Tryz.prog 132 [aO e lim lim,aO f lim lim] (.one (aj (bK e f) lim)):=by
 rw[show bK e f=0 by unfold bK;rw[h];rfl];cases h1:e.ok with|false=>exact ad KC [true] [pT (yc h1)] (by kernel_rfl)|true =>
  rw[h1,Bool.true_and] at h;exact ad KC [false,true] [pF (aD h1),pT (yc h)] (by kernel_rfl)
theorem X4(e f:Ed)(h1:e.ok=true)(h2:f.ok=true):ae Tryz.prog 132 [aO e 3 aC,aO f 3 aC] (.one (aj (bK e f) lim)):=by
 by_cases ke:e.k=1
 ·cases pe : (e.ax == e.bx && e.ay == e.by') with
  | true =>
   by_cases kf:f.k=1
   ·cases pf : (f.ax == f.bx && f.ay == f.by') with
    | true=>exact X7 e f h1 h2 ke pe kf pf
    | false=>exact X6 e f h1 h2 ke pe kf pf
   ·exact X5 e f h1 h2 ke pe kf
  | false =>
   by_cases kf:f.k=1
   ·cases pf : (f.ax == f.bx && f.ay == f.by') with
    | true=>exact XZ e f h1 h2 ke pe kf pf
    | false=>exact XW e f h1 h2 ke pe kf pf
   ·exact XV e f h1 h2 ke pe kf
 ·by_cases kf : f.k = 1
  ·cases pf : (f.ax == f.bx && f.ay == f.by') with
   | true=>exact XU e f h1 h2 ke kf pf
   | false=>exact XT e f h1 h2 ke kf pf
  ·exact XS e f h1 h2 ke kf
theorem NG(e f:Ed):(bK e f).natAbs<=4:=by
 cases h:(e.ok&&f.ok) with
 | false=>rw[show bK e f=0 by unfold bK;rw[h];rfl];decide
 | true =>
  simp only[Bool.and_eq_true] at h;have b1:=QL e f.ax f.ay;have b2:=QL f e.ax e.ay;have b3:=PI e.ax e.ay e.bx e.by' f.ax f.ay f.bx f.by'
  have b4:=vl (vP e f).delta (vP e f).list;have b5:=vl (vP f e).delta (vP f e).list;have b6 : -1<=rG e f/\rG e f<=4:=by
   unfold rG;split
   ·exact TL _ _ _ _ _
   ·have:=vl (xP e f).delta (xP e f).list;omega
  rw[oJ h.1 h.2];unfold tz
  (repeat' split)<;>omega
def We:ah where
 f:=132
 g:=λ| [⟨true,l⟩,⟨true,m⟩]=>(match eK l,eK m with|some e,some f=>some (.one (aj (bK e f) 4),[])|_,_=>none)|_=>none
 ok:=by
  intro args res ps h hp
  split at h<;>try cases h
  split at h<;>cases h
  rename_i e f he hf
  cases h:(e.ok&&f.ok) with
  | false=>exact ((X2 e f h).bd (NG e f)).pre λW=>aU (ql he) (aU (ql hf) dY)
  | true =>
   simp only[Bool.and_eq_true] at h
   exact ((X4 e f h.1 h.2).bd (NG e f)).pre λW=>aU (nu he h.1) (aU (nu hf h.2) dY)
theorem a1h(e f:Ed):ae Tryz.prog 93 [aO e lim lim,aO f lim lim] (.one (aN (bK e f != 0))):=ad [We] [] [] (by kernel_rfl)
def FK:ah where
 f:=93
 g:=λ| [⟨true,l⟩,⟨true,m⟩]=>(match eK l,eK m with|some e,some f=>some (.one (aN (!(bK e f==0))),[])|_,_=>none)|_=>none
 ok:=by
  intro args res ps h hp
  split at h<;>try cases h
  split at h<;>cases h
  rename_i e f he hf
  exact (a1h e f).pre λW=>aU (ql he) (aU (ql hf) dY)
end
theorem wH(a b:Rat):a<=b\/b<=a:=Rat.le_total
theorem zB{a b:Rat}(ha:0<a)(hb:0<b):0<a/b:=by rw[Rat.div_def];exact Rat.mul_pos ha (Rat.inv_pos.2 hb)
structure Re where
 f:Nat->Rat
 c:∀e:Rat,0<e->∃N,∀j k,N<=j->N<=k->f j-f k<=e
theorem Re.bd(x:Re):∃(B:Rat) (N:Nat),0<B/\∀k,N<=k -> -B<=x.f k/\x.f k<=B:=by
 obtain⟨N,h⟩:=x.c 1 (by decide);refine⟨(if 0<=x.f N then x.f N else -x.f N)+1,N,?_,λk hk=>?_⟩
 ·split<;>grind
 ·have h1 := h k N hk (Nat.le_refl _);have h2:=h N k (Nat.le_refl _) hk;split<;>grind
def Re.int(z:Int):Re:=⟨λ_=>(z:Rat),λe he=>⟨0,λj k _ _=>by grind⟩⟩
def Re.add(x y:Re):Re:=⟨λk=>x.f k+y.f k,λe he=>by
 obtain⟨N,h⟩:=x.c (e/2) (by grind);obtain⟨M,g⟩:=y.c (e/2) (by grind);refine⟨N+M,λj k hj hk=>?_⟩;have h1:=h j k (by omega) (by omega);have h2:=g j k (by omega) (by omega);grind⟩
def Re.neg(x:Re):Re:=⟨λk => -x.f k,λe he=>by
 obtain⟨N,h⟩:=x.c e he;exact⟨N,λj k hj hk=>by have h1:=h k j hk hj;grind⟩⟩
theorem SL{a b B e:Rat}(hB:0<B)(h1 : -B<=a)(h2:a<=B)(h3 : -e<=b)(h4:b<=e):a*b<=B*e:=by
 have he:0<=e:=by grind
 rcases wH 0 a with h|h
 ·have k1 := Rat.mul_le_mul_of_nonneg_left h4 h;have k2:=Rat.mul_le_mul_of_nonneg_right h2 he;grind
 ·have k1 := Rat.mul_le_mul_of_nonneg_left h3 (show 0 <= -a by grind);have k2:=Rat.mul_le_mul_of_nonneg_right (show -a<=B by grind) he;grind
def Re.mul(x y:Re):Re:=⟨λk=>x.f k*y.f k,λe he=>by
 obtain⟨B,N,hB,hb⟩:=x.bd;obtain⟨C,M,hC,hc⟩:=y.bd;have e1:0<e/(2*B):=zB he (by grind);have e2:0<e/(2*C):=zB he (by grind);obtain⟨K,h⟩:=x.c _ e2;obtain⟨L,g⟩:=y.c _ e1;refine⟨N+M+K+L,λj k hj hk=>?_⟩;have b1:=hb j (by omega);have b2:=hc k (by omega);have h1:=h j k (by omega) (by omega);have h2:=h k j (by omega) (by omega);have g1:=g j k (by omega) (by omega);have g2:=g k j (by omega) (by omega);have m1:=SL (e:=e/(2*B)) hB b1.1 b1.2 (show _<=y.f j-y.f k by grind) g1;have m2:=SL (e:=e/(2*C)) hC b2.1 b2.2 (show _<=x.f j-x.f k by grind) h1;have q1:B*(e/(2*B))=e/2:=by grind
 have q2:C*(e/(2*C))=e/2:=by grind
 grind⟩
def nn(x:Re):Prop:=∀e:Rat,0<e->∃N,∀k,N<=k -> -e<=x.f k
theorem CE{x y:Re}(h:nn x)(e:∀k,x.f k=y.f k):nn y:=λd hd=>by
 obtain⟨N,g⟩:=h d hd;exact⟨N,λk hk=>by rw[<- e];exact g k hk⟩
theorem IB{x:Re}(h:∀k,0<=x.f k):nn x:=λd hd=>⟨0,λk _=>by have:=h k;grind⟩
def ps(x:Re):Prop:=∃(e:Rat) (N:Nat),0<e/\∀k,N<=k->e<=x.f k
theorem Q8{x y:Re}(h:ps x)(g:ps y):ps (x.mul y):=by
 obtain⟨d,N,hd,h⟩:=h;obtain⟨e,M,he,g⟩:=g;refine⟨d*e,N+M,Rat.mul_pos hd he,λk hk=>?_⟩;have h1:=h k (by omega);have h2:=g k (by omega);have k1:=Rat.mul_le_mul_of_nonneg_left h2 (show 0<=d by grind);have k2:=Rat.mul_le_mul_of_nonneg_right h1 (show 0<=y.f k by grind);show d*e<=x.f k*y.f k;grind
theorem Qq{x y:Re}(h:nn x)(g:nn y):nn (x.mul y):=λe he=>by
 obtain⟨B,N,hB,hb⟩:=x.bd;obtain⟨C,M,hC,hc⟩:=y.bd;have e1:0<e/(B+C):=zB he (by grind);obtain⟨K,h⟩:=h _ e1;obtain⟨L,g⟩:=g _ e1;refine⟨N+M+K+L,λk hk=>?_⟩;have b1:=hb k (by omega);have b2:=hc k (by omega);have h1:=h k (by omega);have h2:=g k (by omega);have q:(B+C)*(e/(B+C))=e:=by grind
 obtain⟨t,ht⟩:∃t,e/(B+C)=t:=⟨_,rfl⟩;rw[ht] at h1 h2 q e1;show -e<=x.f k*y.f k;obtain⟨a,ha⟩:∃a,x.f k=a:=⟨_,rfl⟩;obtain⟨b,hb'⟩:∃b,y.f k=b:=⟨_,rfl⟩;rw[ha] at b1 h1 ⊢;rw[hb'] at b2 h2 ⊢;rcases wH 0 a with s|s
 ·rcases wH 0 b with r | r
  ·have:=Rat.mul_nonneg s r;grind
  ·have k1 := Rat.mul_le_mul_of_nonneg_left h2 s;have k2:=Rat.mul_le_mul_of_nonneg_right b1.2 (show 0<=t by grind);have k3:=Rat.mul_nonneg (show 0<=C by grind) (show 0<=t by grind);grind
 ·rcases wH 0 b with r | r
  ·have k1 := Rat.mul_le_mul_of_nonneg_right h1 r;have k2:=Rat.mul_le_mul_of_nonneg_right b2.2 (show 0<=t by grind);have k3:=Rat.mul_nonneg (show 0<=B by grind) (show 0<=t by grind);grind
  ·have:=Rat.mul_nonneg (show 0 <= -a by grind) (show 0 <= -b by grind);grind
def gX:Nat->Nat
 | 0=>0|m+1=>if (gX m+1)*(gX m+1)<=m+1 then gX m+1 else gX m
theorem Pj:∀m,gX m*gX m<=m/\m<(gX m+1)*(gX m+1)
 | 0=>by decide|m+1=>by
  obtain⟨h1,h2⟩:=Pj m;unfold gX;split
  ·rename_i h;refine⟨h,?_⟩;have e:(gX m+1+1)*(gX m+1+1)=(gX m+1)*(gX m+1)+2*(gX m+1)+1:=by grind
   omega
  ·omega
theorem a3C(k:Nat):((2 ^ k:Nat):Rat)*((2 ^ k:Nat):Rat)=((4 ^ k:Nat):Rat):=by
 rw[<- Rat.natCast_mul,<- Nat.mul_pow]
theorem Dv(k:Nat):(0:Rat)<((2 ^ k:Nat):Rat):=by
 have:0<2 ^ k:=Nat.pow_pos (by decide);exact Rat.natCast_pos.2 this
theorem Uc{a b p:Rat}(hp:0<p)(h:a*(p*p)<=b*(p*p)):a<=b:=by
 rcases wH a b with g|g
 ·exact g
 ·rcases Rat.le_iff_lt_or_eq.1 g with g | g
  ·have:=Rat.mul_lt_mul_of_pos_right g (Rat.mul_pos hp hp);grind
  ·grind
theorem a6m{a b:Rat}(hb:0<=b)(h:a*a<=b*b):a<=b:=by
 rcases wH a b with g|g
 ·exact g
 ·rcases Rat.le_iff_lt_or_eq.1 g with g | g
  ·have k1 := Rat.mul_lt_mul_of_pos_right g (show 0 < a by grind);have k2:=Rat.mul_le_mul_of_nonneg_left (show b<=a by grind) hb;grind
  ·grind
def nZ(c k:Nat):Rat:=((gX (c*4 ^ k):Nat):Rat)/((2 ^ k:Nat):Rat)
def tk(k:Nat):Rat:=1/((2 ^ k:Nat):Rat)
theorem a6N(k:Nat):0<tk k:=zB (by decide) (Dv k)
theorem a5p(c k:Nat):0<=nZ c k:=by
 unfold nZ;have hp:=Dv k;have h0:(0:Rat)<=((gX (c*4 ^ k):Nat):Rat):=Rat.natCast_nonneg;rw[Rat.div_def];exact Rat.mul_nonneg h0 (by have:=Rat.inv_pos.2 hp;grind)
theorem Ti(c k:Nat):nZ c k*nZ c k<=(c:Rat)/\(c:Rat)<=(nZ c k+tk k)*(nZ c k+tk k):=by
 obtain⟨h1,h2⟩:=Pj (c*4 ^ k);have h1:((gX (c*4 ^ k)*gX (c*4 ^ k):Nat):Rat)<=((c*4 ^ k:Nat):Rat):=Rat.natCast_le_natCast.2 h1;have h2:((c*4 ^ k:Nat):Rat)<=(((gX (c*4 ^ k)+1)*(gX (c*4 ^ k)+1):Nat):Rat):=Rat.natCast_le_natCast.2 (Nat.le_of_lt h2);rw[Rat.natCast_mul,Rat.natCast_mul,<- a3C] at h1 h2;rw[Rat.natCast_add] at h2;have hp:=Dv k;unfold nZ tk;generalize ((gX (c*4 ^ k):Nat):Rat)=r at *;generalize ((2 ^ k:Nat):Rat)=p at *;generalize (c:Rat)=d at *;have hp0:p≠0:=by grind
 obtain⟨x,X⟩:∃x,r/p=x:=⟨_,rfl⟩;obtain⟨t,T⟩:∃t,1/p=t:=⟨_,rfl⟩;have e1:r=x*p:=by rw[<- X];grind
 have e2:1=t*p:=by rw[<- T];grind
 rw[X,T];have h3:((1:Nat):Rat)=1:=rfl;rw[h3] at h2;constructor
 ·refine Uc hp ?_;rw[e1] at h1;grind
 ·refine Uc hp ?_;have e3:r+1=(x+t)*p:=by grind
  rw[e3] at h2;grind
theorem a4n(e:Rat):e*(e.den:Rat)=(e.num:Rat):=by
 have h:=Rat.mkRat_self e;rw[Rat.mkRat_eq_div] at h;have hd:((e.den:Nat):Rat)≠0:=by
  have:=e.den_pos;have h2:(0:Rat)<((e.den:Nat):Rat):=Rat.natCast_pos.2 this;grind
 generalize ((e.den:Nat):Rat)=d at *;generalize ((e.num:Int):Rat)=n at *;rw[<- h];grind
theorem a4o{e:Rat}(h:0<e):0<e.num:=by
 have:=(Rat.lt_iff _ _).1 h;simpa using this
theorem VK(b:Nat){e:Rat}(he:0<e):∃N,∀k,N<=k->(b:Rat)*tk k<=e:=by
 refine⟨b*e.den,λk hk=>?_⟩;have h1:(b*e.den:Nat)<2 ^ k:=Nat.lt_of_le_of_lt hk Nat.lt_two_pow_self;have h2:((b*e.den:Nat):Rat)<=((2 ^ k:Nat):Rat):=Rat.natCast_le_natCast.2 (Nat.le_of_lt h1);rw[Rat.natCast_mul] at h2;have h3:e*(e.den:Rat)=(e.num:Rat):=a4n e;have h4:(1:Rat)<=(e.num:Rat):=by
  have:0<e.num:=a4o he;have:(1:Int)<=e.num:=this;exact Rat.intCast_le_intCast.2 this
 have h5:=Rat.mul_le_mul_of_nonneg_left h2 (show 0<=e by grind);have h6:=Rat.mul_le_mul_of_nonneg_left h4 (show (0:Rat)<=(b:Rat) from Rat.natCast_nonneg);have hp:=Dv k;unfold tk;generalize ((2 ^ k:Nat):Rat)=p at *;have h7:(b:Rat)<=e*p:=by grind
 obtain⟨t,T⟩:∃t,1/p=t:=⟨_,rfl⟩;have hp0:p≠0:=by grind
 have e2:1=t*p:=by rw[<- T];grind
 have ht:0<t:=by rw[<- T];exact zB (by decide) hp
 rw[T];have h8:=Rat.mul_le_mul_of_nonneg_right h7 (show 0<=t by grind);have h9:e*p*t=e:=by rw[Rat.mul_assoc,Rat.mul_comm p t,<- e2,Rat.mul_one]
 rw[h9] at h8;exact h8
def Re.rt(c:Nat):Re:=⟨nZ c,λe he=>by
 obtain⟨N,h⟩:=VK 1 he;refine⟨N,λj k _ hk=>?_⟩;have h1:=h k hk;have h2:((1:Nat):Rat)=1:=rfl;rw[h2] at h1;have h3:=(Ti c j).1;have h4:=(Ti c k).2;have h5:=a6m (show 0<=nZ c k+tk k by have:=a5p c k;have:=a6N k;grind) (show nZ c j*nZ c j<=_ by grind);grind⟩
theorem Dw{x y:Re}(h:ps x)(e:∀k,x.f k=y.f k):ps y:=by
 obtain⟨d,N,hd,h⟩:=h;exact⟨d,N,hd,λk hk=>by rw[<- e];exact h k hk⟩
theorem O9{z:Int}(h:0<=z):nn (Re.int z):=IB λ_=>Rat.intCast_nonneg.2 h
theorem Pg{z:Int}(h:0<z):ps (Re.int z):=⟨1,0,by decide,λ_ _=>by
 have:(1:Int)<=z:=h;exact Rat.intCast_le_intCast.2 this⟩
def lin(a b:Int)(c:Nat):Re:=(Re.int a).add ((Re.int b).mul (Re.rt c))
theorem lT(z:Int):(sgn z=1/\0<z)\/(sgn z=0/\z=0)\/(sgn z = -1/\z<0):=by
 unfold sgn eP;rcases Int.lt_trichotomy z 0 with h|h|h
 ·right;right;rw[if_pos h];exact⟨rfl,h⟩
 ·right;left;rw[if_neg (by omega),if_pos h];exact⟨rfl,h⟩
 ·left;rw[if_neg (by omega),if_neg (by omega)];exact⟨rfl,h⟩
theorem Nz(a b:Int):(eP a b=1/\b<a)\/(eP a b=0/\a=b)\/(eP a b = -1/\a<b):=by
 unfold eP;rcases Int.lt_trichotomy a b with h|h|h
 ·right;right;rw[if_pos h];exact⟨rfl,h⟩
 ·right;left;rw[if_neg (by omega),if_pos h];exact⟨rfl,h⟩
 ·left;rw[if_neg (by omega),if_neg (by omega)];exact⟨rfl,h⟩
def Sg(s:Int)(x:Re):Prop:=(s=1/\ps x)\/(s=0/\nn x/\nn x.neg)\/(s = -1/\ps x.neg)
def qd(A s n d t m e:Int):Int :=
 if cO (A*d) s (n*d)≠t then max (min (cO (A*d) s (n*d)-t) 1) (-1) else cO (A*d) s (n*d)*cO (A*A*d*e+n*e-m*d) (2*A*s*e) (n*d)
theorem Qo{x:Re}(k:Nat):x.neg.neg.f k=x.f k:=by show - -x.f k=x.f k;grind
theorem Sg.eq{s:Int}{x y:Re}(h:Sg s x)(e:∀k,x.f k=y.f k):Sg s y:=by
 have e':∀k,x.neg.f k=y.neg.f k:=λk=>by show -x.f k = -y.f k;rw[e]
 rcases h with⟨h,g⟩|⟨h,g,g'⟩|⟨h,g⟩
 ·exact .inl ⟨h,Dw g e⟩
 ·exact .inr (.inl ⟨h,CE g e,CE g' e'⟩)
 ·exact .inr (.inr ⟨h,Dw g e'⟩)
theorem Sg.neg{s:Int}{x:Re}(h:Sg s x):Sg (-s) x.neg:=by
 rcases h with⟨rfl,g⟩|⟨rfl,g,g'⟩|⟨rfl,g⟩
 ·exact .inr (.inr ⟨rfl,Dw g λk=>(Qo k).symm⟩)
 ·exact .inr (.inl ⟨rfl,g',CE g λk=>(Qo k).symm⟩)
 ·exact .inl ⟨rfl,g⟩
theorem Sg.mul{s m:Int}{x:Re}(h:Sg s x)(hm:0<m):Sg s ((Re.int m).mul x):=by
 have e:∀k,((Re.int m).mul x.neg).f k=((Re.int m).mul x).neg.f k:=λk=>by show (m:Rat) * -x.f k = -((m:Rat)*x.f k);grind
 rcases h with⟨rfl,g⟩|⟨rfl,g,g'⟩|⟨rfl,g⟩
 ·exact .inl ⟨rfl,Q8 (Pg hm) g⟩
 ·exact .inr (.inl ⟨rfl,Qq (O9 (Int.le_of_lt hm)) g,CE (Qq (O9 (Int.le_of_lt hm)) g') e⟩)
 ·exact .inr (.inr ⟨rfl,Dw (Q8 (Pg hm) g) e⟩)
theorem a0b{U V P u0 u2 high v0 v1 v2 q r:Nat}(hu0:u0<P)(hU:U=u0+P*(u2+4294967296*high))(hV:V=v0+P*(v2+4294967296*v1))(hlt:U<4294967296*V)
  (hq:q*v1+r=high) (hle:U/V<=q) (h:4294967296<=q\/r*4294967296+u2<q*v2):1<=q/\U/V<=q-1:=by
 have hV0:0<V:=by
  rcases Nat.eq_zero_or_pos V with e|e
  ·rw[e] at hlt;omega
  ·exact e
 rcases h with h|h
 ·have : U / V < 4294967296 := (Nat.div_lt_iff_lt_mul hV0).2 hlt;omega
 ·have h1:1<=q:=by
   rcases Nat.eq_zero_or_pos q with e|e
   ·subst e;simp at h
   ·exact e
  refine⟨h1,?_⟩;have:¬q<=U/V:=by
   intro hc;rw[Nat.le_div_iff_mul_le hV0] at hc;have e1:q*V=q*v0+P*(q*v2)+P*(4294967296*(q*v1)):=by rw[hV];grind
   have e2:U=u0+P*u2+P*(4294967296*(q*v1))+P*(r*4294967296):=by rw[hU,<- hq];grind
   have h2:=Nat.mul_le_mul_left P (Nat.succ_le_of_lt h);have e3:P*Nat.succ (r*4294967296+u2)=P*(r*4294967296)+P*u2+P:=by rw[Nat.succ_eq_add_one];grind
   rw[e3] at h2;rw[e1,e2] at hc;generalize P*(4294967296*(q*v1))=x1 at *;generalize P*(q*v2)=x2 at *;generalize P*(r*4294967296)=x3 at *;generalize P*u2=x4 at *;generalize q*v0=x5 at *;omega
  omega
theorem a0e{U V P w high v1 vr:Nat}(hw:w<P)(hU:U=w+P*high)(hV:V=vr+P*v1)(hv1:0<v1):U/V<=high/v1:=by
 have hP:0<P:=by omega
 have hV0:0<V:=by
  have:=Nat.mul_pos hP hv1;omega
 rw[Nat.le_div_iff_mul_le hv1];have h:=Nat.div_mul_le_self U V;generalize U/V=q at *;have e1:q*V=q*vr+P*(q*v1):=by rw[hV];grind
 have:P*(q*v1)<P*(high+1):=by
  have e2:P*(high+1)=P*high+P:=by grind
  rw[e1] at h;rw[e2];generalize P*(q*v1)=x1 at *;generalize P*high=x2 at *;generalize q*vr=x3 at *;omega
 have:=Nat.lt_of_mul_lt_mul_left this;omega
theorem a0c{U V P u0 u1 u2 ut v0 v1 v2 q r:Nat}(hv0:v0<P)(hv1:0<v1)(hv2:v2<4294967296)(hu0:u0<P)(hu1:u1<4294967296)(hU:U=u0+P*(u2+4294967296*(u1+4294967296*ut)))(hV:V=v0+P*(v2+4294967296*v1))(hlt:U<4294967296*V)
  (hq:q*v1+r=u1+4294967296*ut) (h:4294967296<=r\/(q<4294967296/\q*v2<=r*4294967296+u2)):q<4294967296/\q<=U/V+1:=by
 have hP:0<P:=by omega
 have hV0:0<V:=by
  rcases Nat.eq_zero_or_pos V with e|e
  ·rw[e] at hlt;omega
  ·exact e
 have hut:ut<=v1:=by
  have:¬v1+1<=ut:=by
   intro hc;have h1:=Nat.mul_le_mul_left (P*(4294967296*4294967296)) hc;have e1:P*(4294967296*4294967296)*(v1+1)=4294967296*(P*(4294967296*v1))+4294967296*(P*4294967296):=by grind
   have e2:U=u0+P*u2+P*(4294967296*u1)+P*(4294967296*4294967296)*ut:=by rw[hU];grind
   have e3:4294967296*V=4294967296*v0+4294967296*(P*v2)+4294967296*(P*(4294967296*v1)):=by rw[hV];grind
   have h2:P*v2+P<=P*4294967296:=by
    have h9:P*(v2+1)<=P*4294967296:=Nat.mul_le_mul_left P hv2;have e9:P*(v2+1)=P*v2+P:=by grind
    omega
   rw[e1] at h1;rw[e3,e2] at hlt;omega
  omega
 have hqb:q<4294967296:=by
  rcases h with h|h
  ·have:¬4294967296<=q:=by
    intro hc;have h1:=Nat.mul_le_mul_right v1 hc;have h2:=Nat.mul_le_mul_left 4294967296 hut;omega
   omega
  ·exact h.1
 have h2:q*v2<=r*4294967296+u2:=by
  rcases h with h|h
  ·have h1 : q * v2 <= 4294967296 * 4294967296 := Nat.mul_le_mul (by omega) (by omega);omega
  ·exact h.2
 refine⟨hqb,?_⟩;rcases Nat.eq_zero_or_pos q with e|e
 ·rw[e];exact Nat.zero_le _
 ·obtain ⟨p, rfl⟩ : ∃ p, q = p + 1 := ⟨q - 1, by omega⟩;have:p<=U/V:=by
   rw[Nat.le_div_iff_mul_le hV0];have e1:(p+1)*V=(p+1)*v0+P*((p+1)*v2)+P*(4294967296*((p+1)*v1)):=by rw[hV];grind
   have e2:U=u0+P*u2+P*(4294967296*((p+1)*v1))+P*(r*4294967296):=by rw[hU,<- hq];grind
   have e3:(p+1)*V=p*V+V:=by grind
   have h3:=Nat.mul_le_mul_left P h2;have e4:P*(r*4294967296+u2)=P*(r*4294967296)+P*u2:=by grind
   have h5:(p+1)*v0<=V:=by
    have h6:(p+1)*v0<=4294967296*P:=Nat.mul_le_mul (by omega) (by omega);have h7:P*(4294967296*1)<=P*(4294967296*v1):=Nat.mul_le_mul_left _ (Nat.mul_le_mul_left _ hv1);have e5:V=v0+P*v2+P*(4294967296*v1):=by rw[hV];grind
    have e6:P*(4294967296*1)=4294967296*P:=by grind
    rw[e5];omega
   rw[e4] at h3;rw[e3] at e1;omega
  omega
def xG(q:Nat)(u v:List Nat)(o:List Nat)(c b:Nat):Prop :=
 ao o/\c<=q/\b<=1/\val (u.take o.length)+4294967296 ^ o.length*(c+b)=val o+q*val (v.take o.length)
theorem tf(o:List Nat)(x:Nat):val (o++[x])=val o+4294967296 ^ o.length*x:=by rw[val_append];simp[val]
theorem xe(d:List Nat)(k:Nat):val (d.take (k+1))=val (d.take k)+4294967296 ^ k*(d[k]?.getD 0):=by
 by_cases h:k<d.length
 ·rw[List.take_succ_eq_append_getElem h,val_append,List.length_take,Nat.min_eq_left (by omega),List.getElem?_eq_getElem h];simp[val]
 ·rw[List.take_of_length_le (by omega),List.take_of_length_le (by omega),List.getElem?_eq_none (by omega)];simp
theorem a4z{q:Nat}{u v o:List Nat}{c b x d:Nat}(hq:q<4294967296)(h:xG q u v o c b)(hx:u[o.length]?.getD 0=x)(hd:v[o.length]?.getD 0=d)(hdb:d<4294967296)(hxb:x<4294967296) :
  xG q u v (o++[(x+8589934592-(c+q*d)%4294967296-b)%4294967296]) ((c+q*d)/4294967296) (if x<(c+q*d)%4294967296+b then 1 else 0)/\c+q*d<18446744073709551616:=by
 obtain⟨h1,h2,h3,h4⟩:=h;have hqd:q*d<=q*4294967295:=Nat.mul_le_mul_left _ (by omega);have hc:c+q*d<18446744073709551616:=by omega
 refine⟨⟨?_,by omega,by split<;>omega,?_⟩,hc⟩
 ·intro y hy;rcases List.mem_append.1 hy with g|g
  ·exact h1 y g
  ·rw[List.mem_singleton] at g;subst g;exact Nat.mod_lt _ (by omega)
 ·rw [List.length_append, List.length_singleton, xe, xe, tf, hx, hd, Nat.pow_succ];have e1:q*(val (v.take o.length)+4294967296 ^ o.length*d)=q*val (v.take o.length)+4294967296 ^ o.length*(q*d):=by grind
  rw[e1];generalize q*val (v.take o.length)=a1 at *;generalize val (u.take o.length)=a2 at *;generalize val o=a3 at *;generalize 4294967296 ^ o.length=P at *;generalize q*d=t at *;have key:∀(b' y:Nat),x+4294967296*((c+t)/4294967296+b')+(c+b)=y+t+(c+b)+0+(c+b)->a2+P*x+P*4294967296*((c+t)/4294967296+b')=a3+P*y+(a1+P*t):=by
   intro b' y hy;have e2:P*x+P*4294967296*((c+t)/4294967296+b')=P*(y+t+(c+b)):=by
    have:x+4294967296*((c+t)/4294967296+b')=y+t+(c+b):=by omega
    rw[<- this];grind
   have e3:P*(y+t+(c+b))=P*y+P*t+P*(c+b):=by grind
   rw[Nat.add_assoc,e2,e3];omega
  apply key;split<;>omega
end Go.Proofs.YtghemgdfmldoeaaGreat
