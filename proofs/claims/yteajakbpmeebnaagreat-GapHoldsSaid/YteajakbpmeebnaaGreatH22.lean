import Derived.Test.YteajakbpmeebnaaGreatH21
import Derived.ChangeKeysEq
set_option linter.unusedVariables false
set_option linter.unusedSimpArgs false

namespace Go.Proofs.YteajakbpmeebnaaGreat
open Go.RowKit

set_option maxRecDepth 100000
section
theorem addP_z{x y:Int}(hx:small x=true)(hy:small y=true)(hs:small (x+y)=true):addP (ofZ x) (ofZ y)=(ofZ (x+y),true):=by
 unfold addP fit
 rw[ofZ_right hx,ofZ_right hy,ofZ_z,ofZ_z,hs]
 rfl
theorem zadd_c(x y:Int)(A B:Nat)(h:decide (A+B<c2048)=true)(b1:x.natAbs<=A)(b2:y.natAbs<=B):(x+y).natAbs<=A+B/\addP (ofZ x) (ofZ y)=(ofZ (x+y),true):=by
 have h:=of_decide_eq_true h
 have b3:(x+y).natAbs<=A+B:=by omega
 exact⟨b3,addP_z (small_c b1 (by omega)) (small_c b2 (by omega)) (small_c b3 h)⟩
theorem cmpZ_b(a b:Int):(cmpZ a b).natAbs<=1/\I64 (cmpZ a b):=by
 have:=cmpZ_bd a b
 exact⟨by omega,by unfold I64;omega⟩
def zCmpC(f:FuncId)(H:∀(a b:Nm) (n m:Bool) (p q:Option Addr) (l c k d:Nat) (w:World),NR w n p l c a->NR w m q k d b->Calls Tryz.prog f #[NmV n p l c,NmV m q k d] w fun e w'=>e=.returned (.int .i64 (cmpP a b))/\Ext w w'):Con where
 f:=f
 g:=fun | [⟨true,l⟩,⟨true,m⟩]=>(match toZi l,toZi m with|some (x,A),some (y,B)=>if A<c2048/\B<c2048 then some (.one (inV (cmpZ x y) 1),[]) else none|_,_=>none)|_=>none
 ok:=by
  intro args res ps h hp
  split at h<;>try cases h
  split at h<;>try cases h
  split at h<;>cases h
  rename_i x A y B hx hy hb
  intro W vals hv
  obtain⟨v1,g1,l1,rfl,hv1⟩:=rvs_cons.1 hv
  obtain⟨v2,g2,l2,rfl,hv2⟩:=rvs_cons.1 hv1
  cases hv2
  obtain⟨b1,_,_,_,_,rfl,h1⟩:=toZi_rep hx g1
  obtain⟨b2,_,_,_,_,rfl,h2⟩:=toZi_rep hy g2
  exact (H _ _ _ _ _ _ _ _ _ _ W h1 h2).mono fun _ _ h=>gv_in (cmpZ_b _ _) (cmpP_side (small_c b1 hb.1) (small_c b2 hb.2) ▸ h)
def d1ZRight:Con where
 f:=109
 g:=fun | [⟨true,[.d (.zi x A)]⟩]=>if A<c2048 then some (.one ⟨false,[.b true]⟩,[]) else none|_=>none
 ok:=by
  intro args res ps h hp
  split at h<;>try cases h
  split at h<;>cases h
  rename_i x A hb
  intro W vals hv
  simp only[rvs_cons,rvs_nil,rv_t,rl_zi,rl_nil] at hv
  obtain⟨_,⟨_,⟨b1,n,p,l,c,h1,_,rfl,rfl⟩,rfl⟩,_,rfl,rfl⟩:=hv
  have e:(ofZ x).right=true:=ofZ_right (small_c b1 hb)
  exact (r01_Right _ _ _ _ _ W h1).mono fun _ _ h=>⟨_,h.1,RepI.val (i:=.b true) (by show [_]=[_];rw[e]),h.2⟩
def c672:Nat:=4294967296 ^ 21
theorem zi_up{V W:World}{r:Nat->Nat}{k:Nat}{z:Int}{A B:Nat}(h:A<=B):∀v,RepV V W r k ⟨true,[.d (.zi z A)]⟩ v->RepV V W r k (ziV z B) v:=by
 intro v hv
 obtain⟨_,hw,rfl⟩:=rv_t.1 hv
 obtain⟨b1,h2⟩:=rl_zi.1 hw
 exact rv_t.2 ⟨_,rl_zi.2 ⟨Nat.le_trans b1 h,h2⟩,rfl⟩
def sideC(f:FuncId)(M:Nat)(H:∀a b c:Int,a.natAbs<=M->b.natAbs<=M->c.natAbs<=M->0<=c->Fok Tryz.prog f [ziV a M,ziV b M,ziV c M] (.one (inV (sideZ a b c) lim))):Con where
 f:=f
 g:=fun | [⟨true,[.d (.zi x A)]⟩,⟨true,[.d (.zi y B)]⟩,⟨true,[.d (.zi d D)]⟩]=>if A<=M/\B<=M/\D<=M then some (.one (inV (sideZ x y d) 1),[0<=d]) else none|_=>none
 ok:=by
  intro args res ps h hp
  split at h<;>try cases h
  split at h<;>cases h
  rename_i x A y B d D hb
  intro W vals hv
  obtain⟨v1,g1,l1,e1,hv1⟩:=rvs_cons.1 hv
  obtain⟨v2,g2,l2,e2,hv2⟩:=rvs_cons.1 hv1
  obtain⟨v3,g3,_⟩:=rvs_cons.1 hv2
  have bd:∀ {z:Int} {A:Nat} {v:Value},RepV W W (fun _=>0) 0 ⟨true,[.d (.zi z A)]⟩ v->z.natAbs<=A:=fun h=>by
   obtain⟨_,hw,_⟩:=rv_t.1 h
   exact (rl_zi.1 hw).1
  have hs:=sideZ_bd x y d
  exact Fok.bd (H x y d (Nat.le_trans (bd g1) hb.1) (Nat.le_trans (bd g2) hb.2.1) (Nat.le_trans (bd g3) hb.2.2) hp.1) (by omega) W vals (rvs_1 (zi_up hb.1) (rvs_1 (zi_up hb.2.1) (rvs_1 (zi_up hb.2.2) fun _ h=>h)) _ hv)
end

set_option maxRecDepth 100000
section
def jn(e:Nat->Ed)(j:Nat):Bool:=(e (j+1)).ax==(e j).bx&&(e (j+1)).ay==(e j).by'
def shC(f:FuncId)(g:Sh->AV)(c:Sh->List Prop)(h:∀s,All (c s)->Fok Tryz.prog f [shpV s] (g s)):Con where
 f:=f
 g:=fun | [⟨true,l⟩]=>(toSh l).map fun z=>(g z.1,z.2++c z.1)|_=>none
 ok:=by
  intro args res ps h' hp
  split at h'<;>try cases h'
  rename_i l
  cases he:toSh l with
  | none=>simp[he] at h'
  | some z =>
   obtain⟨s,ps1⟩:=z
   simp only[he,Option.map_some,Option.some.injEq,Prod.mk.injEq] at h'
   obtain⟨rfl,rfl⟩:=h'
   obtain⟨p1,p2⟩:=All.app hp
   exact (h s p2).pre fun W=>rvs_1 (fun v hv=>toSh_rep he p1 hv) rvs_0
end

set_option maxRecDepth 100000
section
def c27:Nat:=134217728
def KM:List Con:=[cZOf,cZMul,cZSub,cMCount,cSide]
def isV(B:Nat)(zs:List Int):V1:=⟨true,zs.map fun z=>.i z B⟩
def toIs(B:Nat)(l:List It):Option (List Int):=(asIs l).bind fun xs=>if xs.all (fun x=>decide (x.2<=B))=true then some (xs.map (·.1)) else none
theorem is_low{V W:World}{r:Nat->Nat}{k:Nat}{B:Nat}{l:List It}{zs:List Int}(h:toIs B l=some zs):∀v,RepV V W r k ⟨true,l⟩ v->RepV V W r k (isV B zs) v:=by
 intro v hv
 unfold toIs at h
 cases hx:asIs l with
 | none=>simp[hx] at h
 | some xs =>
  simp only[hx,Option.bind_some] at h
  split at h<;>cases h
  rename_i ha
  simp only[List.all_eq_true,decide_eq_true_eq] at ha
  obtain⟨cs,h1,h2,h3⟩:=hv
  obtain⟨k1,k2⟩:=asIs_rep hx h1
  refine⟨cs,?_,h2,nofun⟩
  subst k1
  show RepL V W r k ((xs.map (·.1)).map fun z=>It.i z B) _
  rw[List.map_map]
  exact rl_map (f:=fun x:Int×Nat=>It.i x.1 B) (g:=fun x:Int×Nat=>Value.int .i64 x.1) fun x hx=>⟨rfl,Nat.le_trans (k2 x hx).1 (ha x hx),(k2 x hx).2⟩
theorem lines_ok(px py qx qy rx ry sx sy:Int):Fok Tryz.prog 137 [isV c26 [px,py,qx,qy],isV c26 [rx,ry,sx,sy]] (.one (inV (linesZ px py qx qy rx ry sx sy) lim)):=by
 unfold linesZ
 split
 ·rename_i h1
  split
  ·rename_i h2
   exact fok KM [true,true] [pT (ne_T h1),pT (gt_T h2)] (by kernel_rfl)
  ·rename_i h2
   split
   ·rename_i h3
    exact fok KM [true,false,true] [pT (ne_T h1),pF (gt_F h2),pT (gt_T h3)] (by kernel_rfl)
   ·rename_i h3
    exact fok KM [true,false,false] [pT (ne_T h1),pF (gt_F h2),pF (gt_F h3)] (by kernel_rfl)
 ·rename_i h1
  split
  ·rename_i h2
   exact fok KM [false,true] [pF (ne_F h1),pT (ne_T h2)] (by kernel_rfl)
  ·rename_i h2
   split
   ·rename_i h3
    exact fok KM [false,false,true] [pF (ne_F h1),pF (ne_F h2),pT (decide_eq_true h3)] (by kernel_rfl)
   ·rename_i h3
    split
    ·rename_i h4
     exact fok KM [false,false,false,true] [pF (ne_F h1),pF (ne_F h2),pF (decide_eq_false h3),pT (bq_T h4)] (by kernel_rfl)
    ·rename_i h4
     exact fok KM [false,false,false,false] [pF (ne_F h1),pF (ne_F h2),pF (decide_eq_false h3),pF (bq_F h4)] (by kernel_rfl)
def cLines:Con where
 f:=137
 g:=fun | [⟨true,l⟩,⟨true,m⟩]=>(match toIs c26 l,toIs c26 m with|some [px,py,qx,qy],some [rx,ry,sx,sy]=>some (.one (inV (linesZ px py qx qy rx ry sx sy) 1),[])|_,_=>none)|_=>none
 ok:=by
  intro args res ps h hp
  split at h<;>try cases h
  split at h<;>cases h
  rename_i px py qx qy rx ry sx sy hl hm
  have b:=linesZ_bd px py qx qy rx ry sx sy
  exact ((lines_ok _ _ _ _ _ _ _ _).bd (by omega)).pre fun W=>rvs_1 (is_low hl) (rvs_1 (is_low hm) rvs_0)
def laG(px py qx qy cx cy r ux uy vx vy:Int):LA :=
 ⟨(qx-px)*(qx-px)+(qy-py)*(qy-py),(px-cx)*(qx-px)+(py-cy)*(qy-py),(px-cx)*(px-cx)+(py-cy)*(py-cy),r,(px-cx)*ux+(py-cy)*uy,(qx-px)*ux+(qy-py)*uy,(px-cx)*vx+(py-cy)*vy,(qx-px)*vx+(qy-py)*vy⟩
theorem lineArc_ok(px py qx qy cx cy r ux uy vx vy:Int):Fok Tryz.prog 138 [isV c27 [px,py,qx,qy],isV c27 [cx,cy,r,ux,uy,vx,vy]] (.one (inV (countZ (laG px py qx qy cx cy r ux uy vx vy).delta (laG px py qx qy cx cy r ux uy vx vy).list) lim)) :=
 fok KM [] [] (by kernel_rfl)
def cLineArc:Con where
 f:=138
 g:=fun | [⟨true,l⟩,⟨true,m⟩]=>(match toIs c27 l,toIs c27 m with|some [px,py,qx,qy],some [cx,cy,r,ux,uy,vx,vy]=>some (.one (inV (countZ (laG px py qx qy cx cy r ux uy vx vy).delta (laG px py qx qy cx cy r ux uy vx vy).list) 2),[])|_,_=>none)|_=>none
 ok:=by
  intro args res ps h hp
  split at h<;>try cases h
  split at h<;>cases h
  rename_i px py qx qy cx cy r ux uy vx vy hl hm
  have b:=countZ_bd (laG px py qx qy cx cy r ux uy vx vy).delta (laG px py qx qy cx cy r ux uy vx vy).list
  exact ((lineArc_ok _ _ _ _ _ _ _ _ _ _ _).bd (by omega)).pre fun W=>rvs_1 (is_low hl) (rvs_1 (is_low hm) rvs_0)
def aaG(cx cy r ux uy vx vy dx dy q sx sy tx ty:Int):AA :=
 ⟨(dx-cx)*(dx-cx)+(dy-cy)*(dy-cy),r,q,(dx-cx)*ux+(dy-cy)*uy,(dx-cx)*vx+(dy-cy)*vy,(dx-cx)*sx+(dy-cy)*sy,(dx-cx)*tx+(dy-cy)*ty,
  (0-(dy-cy))*ux+(dx-cx)*uy,(0-(dy-cy))*vx+(dx-cx)*vy,(0-(dy-cy))*sx+(dx-cx)*sy,(0-(dy-cy))*tx+(dx-cx)*ty⟩
def arcsG(cx cy r ux uy vx vy dx dy q sx sy tx ty:Int):Int :=
 if (cx==dx&&cy==dy)=true then sameZ (r==q) (ux==sx&&uy==sy) (ux==tx&&uy==ty) (vx==sx&&vy==sy) (vx==tx&&vy==ty)
 else countZ (aaG cx cy r ux uy vx vy dx dy q sx sy tx ty).delta (aaG cx cy r ux uy vx vy dx dy q sx sy tx ty).list
def bB(a b:Bool):List Bool:=cond a [true,b] [false]
def bH{x y a b:Bool}(_:x=a)(_:y=b):List Bool:=bB a b
def pB{x y:Bool}(a b:Bool)(ha:x=a)(hb:y=b):List Pf:=cond a [⟨x=a,ha⟩,⟨y=b,hb⟩] [⟨x=a,ha⟩]
theorem arcsSame_ok(cx cy r ux uy vx vy dx dy q sx sy tx ty:Int)(hc:(cx==dx&&cy==dy)=true):Fok Tryz.prog 139 [isV c27 [cx,cy,r,ux,uy,vx,vy],isV c27 [dx,dy,q,sx,sy,tx,ty]] (.one (inV (sameZ (r==q) (ux==sx&&uy==sy) (ux==tx&&uy==ty) (vx==sx&&vy==sy) (vx==tx&&vy==ty)) lim)):=by
 generalize h0:(r==q)=z
 generalize h1:(ux==sx&&uy==sy)=a
 generalize h2:(ux==tx&&uy==ty)=b
 generalize h3:(vx==sx&&vy==sy)=c
 generalize h4:(vx==tx&&vy==ty)=d
 cases z<;>cases a<;>cases b<;>cases c<;>cases d <;>
  exact fok KM (true::(bH h1 h0++bH h2 h0++bH h3 h0++bH h4 h0)) (pT hc::(pB _ _ h1 h0++pB _ _ h2 h0++pB _ _ h3 h0++pB _ _ h4 h0)) (by kernel_rfl)
theorem arcsApart_ok(cx cy r ux uy vx vy dx dy q sx sy tx ty:Int)(hc:(cx==dx&&cy==dy)=false):Fok Tryz.prog 139 [isV c27 [cx,cy,r,ux,uy,vx,vy],isV c27 [dx,dy,q,sx,sy,tx,ty]] (.one (inV (countZ (aaG cx cy r ux uy vx vy dx dy q sx sy tx ty).delta (aaG cx cy r ux uy vx vy dx dy q sx sy tx ty).list) lim)) :=
 fok KM [false] [pF hc] (by kernel_rfl)
theorem sameZ_bd(z a b c d:Bool) : -1<=sameZ z a b c d/\sameZ z a b c d<=4:=by
 cases z<;>cases a<;>cases b<;>cases c<;>cases d<;>decide
def cArcs:Con where
 f:=139
 g:=fun | [⟨true,l⟩,⟨true,m⟩]=>(match toIs c27 l,toIs c27 m with|some [cx,cy,r,ux,uy,vx,vy],some [dx,dy,q,sx,sy,tx,ty]=>some (.one (inV (arcsG cx cy r ux uy vx vy dx dy q sx sy tx ty) 4),[])|_,_=>none)|_=>none
 ok:=by
  intro args res ps h hp
  split at h<;>try cases h
  split at h<;>cases h
  rename_i cx cy r ux uy vx vy dx dy q sx sy tx ty hl hm
  refine Fok.pre ?_ fun W=>rvs_1 (is_low hl) (rvs_1 (is_low hm) rvs_0)
  unfold arcsG
  cases hc:(cx==dx&&cy==dy) with
  | true =>
   rw[if_pos rfl]
   have b:=sameZ_bd (r==q) (ux==sx&&uy==sy) (ux==tx&&uy==ty) (vx==sx&&vy==sy) (vx==tx&&vy==ty)
   exact (arcsSame_ok _ _ _ _ _ _ _ _ _ _ _ _ _ _ hc).bd (by omega)
  | false =>
   rw[if_neg (by simp)]
   have b:=countZ_bd (aaG cx cy r ux uy vx vy dx dy q sx sy tx ty).delta (aaG cx cy r ux uy vx vy dx dy q sx sy tx ty).list
   exact (arcsApart_ok _ _ _ _ _ _ _ _ _ _ _ _ _ _ hc).bd (by omega)
end

set_option maxRecDepth 100000
section
theorem pt_c26{V W:World}{r:Nat->Nat}{k:Nat}{x y:Int}{A B:Nat}(h1:A<=c26)(h2:B<=c26):∀v,RepV V W r k ⟨true,[.i x A,.i y B]⟩ v->RepV V W r k (ptV x y c26) v:=pt_low h1 h2
theorem on_1(ax ay bx by' cx cy px py:Int)(ho:(Ed.mk 1 ax ay bx by' cx cy).ok=true):Fok Tryz.prog 136 [edV ⟨1,ax,ay,bx,by',cx,cy⟩ 3 c26,ptV px py c26] (.one (blV (onE ⟨1,ax,ay,bx,by',cx,cy⟩ px py))):=by
 have E:onE ⟨1,ax,ay,bx,by',cx,cy⟩ px py=(inB (min ax bx) (min ay by') (max ax bx) (max ay by') px py&&(sideI ((bx-ax)*(py-ay)-(by'-ay)*(px-ax))==0)):=by unfold onE;rw[ho];rfl
 rw[E]
 unfold inB
 cases h0:decide (min ax bx<=px) with
 | false=>exact fok [cOfE,cSide] [true,false] [pT ho,pF h0] (by kernel_rfl)
 | true =>
  cases h1:decide (px<=max ax bx) with
  | false=>exact fok [cOfE,cSide] [true,true,false] [pT ho,pT h0,pF h1] (by kernel_rfl)
  | true =>
   cases h2:decide (min ay by'<=py) with
   | false=>exact fok [cOfE,cSide] [true,true,true,false] [pT ho,pT h0,pT h1,pF h2] (by kernel_rfl)
   | true =>
    cases h3:decide (py<=max ay by') with
    | false=>exact fok [cOfE,cSide] [true,true,true,true,false] [pT ho,pT h0,pT h1,pT h2,pF h3] (by kernel_rfl)
    | true =>
     exact fok [cOfE,cSide] [true,true,true,true,true] [pT ho,pT h0,pT h1,pT h2,pT h3] (by kernel_rfl)
theorem on_2(ax ay bx by' cx cy px py:Int)(ho:(Ed.mk 2 ax ay bx by' cx cy).ok=true):Fok Tryz.prog 136 [edV ⟨2,ax,ay,bx,by',cx,cy⟩ 3 c26,ptV px py c26] (.one (blV (onE ⟨2,ax,ay,bx,by',cx,cy⟩ px py))):=by
 have E:onE ⟨2,ax,ay,bx,by',cx,cy⟩ px py=(inB (min ax bx) (min ay by') (max ax bx) (max ay by') px py&&(powerI (px-cx) (py-cy) (ax-cx) (ay-cy)==0)):=by unfold onE;rw[ho];rfl
 rw[E]
 unfold inB
 cases h0:decide (min ax bx<=px) with
 | false=>exact fok [cOfE,cSide] [true,false] [pT ho,pF h0] (by kernel_rfl)
 | true =>
  cases h1:decide (px<=max ax bx) with
  | false=>exact fok [cOfE,cSide] [true,true,false] [pT ho,pT h0,pF h1] (by kernel_rfl)
  | true =>
   cases h2:decide (min ay by'<=py) with
   | false=>exact fok [cOfE,cSide] [true,true,true,false] [pT ho,pT h0,pT h1,pF h2] (by kernel_rfl)
   | true =>
    cases h3:decide (py<=max ay by') with
    | false=>exact fok [cOfE,cSide] [true,true,true,true,false] [pT ho,pT h0,pT h1,pT h2,pF h3] (by kernel_rfl)
    | true =>
     exact fok [cOfE,cSide] [true,true,true,true,true] [pT ho,pT h0,pT h1,pT h2,pT h3] (by kernel_rfl)
theorem on_3(ax ay bx by' cx cy px py:Int)(ho:(Ed.mk 3 ax ay bx by' cx cy).ok=true):Fok Tryz.prog 136 [edV ⟨3,ax,ay,bx,by',cx,cy⟩ 3 c26,ptV px py c26] (.one (blV (onE ⟨3,ax,ay,bx,by',cx,cy⟩ px py))):=by
 have E:onE ⟨3,ax,ay,bx,by',cx,cy⟩ px py=(inB (min ax bx) (min ay by') (max ax bx) (max ay by') px py&&(powerI (px-cx) (py-cy) (ax-cx) (ay-cy)==0)):=by unfold onE;rw[ho];rfl
 rw[E]
 unfold inB
 cases h0:decide (min ax bx<=px) with
 | false=>exact fok [cOfE,cSide] [true,false] [pT ho,pF h0] (by kernel_rfl)
 | true =>
  cases h1:decide (px<=max ax bx) with
  | false=>exact fok [cOfE,cSide] [true,true,false] [pT ho,pT h0,pF h1] (by kernel_rfl)
  | true =>
   cases h2:decide (min ay by'<=py) with
   | false=>exact fok [cOfE,cSide] [true,true,true,false] [pT ho,pT h0,pT h1,pF h2] (by kernel_rfl)
   | true =>
    cases h3:decide (py<=max ay by') with
    | false=>exact fok [cOfE,cSide] [true,true,true,true,false] [pT ho,pT h0,pT h1,pT h2,pF h3] (by kernel_rfl)
    | true =>
     exact fok [cOfE,cSide] [true,true,true,true,true] [pT ho,pT h0,pT h1,pT h2,pT h3] (by kernel_rfl)
def cOn:Con where
 f:=136
 g:=fun | [⟨true,l⟩,⟨true,[.i x A,.i y B]⟩]=>if A<=c26/\B<=c26 then (toEd l).map fun e=>(.one (blV (onE e x y)),[e.ok=true]) else none|_=>none
 ok:=by
  intro args res ps h hp
  split at h<;>try cases h
  rename_i l x A y B
  split at h<;>try cases h
  rename_i hb
  cases he:toEd l with
  | none=>simp[he] at h
  | some e =>
   simp only[he,Option.map_some,Option.some.injEq,Prod.mk.injEq] at h
   obtain⟨rfl,rfl⟩:=h
   have ho:=hp.1
   refine Fok.pre ?_ fun W=>rvs_1 (ed_ok he ho) (rvs_1 (pt_c26 hb.1 hb.2) rvs_0)
   obtain⟨k,ax,ay,bx,by',cx,cy⟩:=e
   rcases kind_of ho with h|h|h
   ·obtain rfl : k = 1 := h
    exact on_1 ax ay bx by' cx cy x y ho
   ·obtain rfl : k = 2 := h
    exact on_2 ax ay bx by' cx cy x y ho
   ·obtain rfl : k = 3 := h
    exact on_3 ax ay bx by' cx cy x y ho
def KC:List Con:=[cChk,cRad,cOn,cLines,cLineArc,cArcs]
theorem arcsZ_eq(e f:Ed):arcsZ e f=arcsG e.cx e.cy (radZ e) e.ux e.uy e.vx e.vy f.cx f.cy (radZ f) f.ux f.uy f.vx f.vy:=by
 unfold arcsZ arcsG
 by_cases h:e.cx=f.cx/\e.cy=f.cy
 ·rw[if_pos h,if_pos (by simpa using h)]
 ·rw [if_neg h, if_neg (by simpa using h)]
  unfold aaE aaG
  simp only[Int.zero_sub]
theorem pt_eq(e:Ed):e.pt=(e.ax==e.bx&&e.ay==e.by'):=rfl
theorem countE_v{e f:Ed}(h1:e.ok=true)(h2:f.ok=true):countE e f=if e.k=1 then
  if e.pt then onZ f e.ax e.ay
  else if f.k=1 then (if f.pt then onZ e f.ax f.ay else linesZ e.ax e.ay e.bx e.by' f.ax f.ay f.bx f.by')
  else crossZ e f
 else if f.k=1 then (if f.pt then onZ e f.ax f.ay else crossZ f e)
 else arcsZ e f:=by
 unfold countE
 rw[h1,h2]
 rfl
theorem rad_ne{e:Ed}(h:e.ok=true)(hk:¬e.k=1):radZ e≠0:=by have:=rad_pos h hk;omega
theorem neq_F{a b:Int}(h:a=b):(a != b)=false:=by simpa using h
theorem count_arc_arc(e f:Ed)(h1:e.ok=true)(h2:f.ok=true)(ke:¬e.k=1)(kf:¬f.k=1):Fok Tryz.prog 82 [edV e 3 c26,edV f 3 c26] (.one (inV (countE e f) lim)):=by
 rw[show countE e f=arcsZ e f by rw[countE_v h1 h2];simp only[if_neg ke,if_neg kf]]
 rw[arcsZ_eq]
 exact fok KC [false,false,true,true] [pF (chk_F h1),pF (chk_F h2),pT (ne_T ke),pP h1,pP (rad_ne h1 ke),pP (rad_ne h1 ke),pP (rad_ne h1 ke),pP (rad_ne h1 ke),pT (ne_T kf),pP h2,pP (rad_ne h2 kf),pP (rad_ne h2 kf),pP (rad_ne h2 kf),pP (rad_ne h2 kf)] (by kernel_rfl)
theorem count_arc_pt(e f:Ed)(h1:e.ok=true)(h2:f.ok=true)(ke:¬e.k=1)(kf:f.k=1)(pf:(f.ax==f.bx&&f.ay==f.by')=true):Fok Tryz.prog 82 [edV e 3 c26,edV f 3 c26] (.one (inV (countE e f) lim)):=by
 rw[show countE e f=onZ e f.ax f.ay by rw[countE_v h1 h2];simp only[if_neg ke,if_pos kf,pt_eq f,pf,if_true]]
 unfold onZ
 cases ho:onE e f.ax f.ay with
 | true=>exact fok KC [false,false,true,false,true,true] [pF (chk_F h1),pF (chk_F h2),pT (ne_T ke),pP h1,pP (rad_ne h1 ke),pP (rad_ne h1 ke),pP (rad_ne h1 ke),pP (rad_ne h1 ke),pF (neq_F kf),pT pf,pP h1,pT ho] (by kernel_rfl)
 | false=>exact fok KC [false,false,true,false,true,false] [pF (chk_F h1),pF (chk_F h2),pT (ne_T ke),pP h1,pP (rad_ne h1 ke),pP (rad_ne h1 ke),pP (rad_ne h1 ke),pP (rad_ne h1 ke),pF (neq_F kf),pT pf,pP h1,pF ho] (by kernel_rfl)
theorem count_arc_line(e f:Ed)(h1:e.ok=true)(h2:f.ok=true)(ke:¬e.k=1)(kf:f.k=1)(pf:(f.ax==f.bx&&f.ay==f.by')=false):Fok Tryz.prog 82 [edV e 3 c26,edV f 3 c26] (.one (inV (countE e f) lim)):=by
 rw[show countE e f=crossZ f e by rw[countE_v h1 h2];simp only[if_neg ke,if_pos kf,pt_eq f,pf,Bool.false_eq_true,if_false]]
 exact fok KC [false,false,true,false,false] [pF (chk_F h1),pF (chk_F h2),pT (ne_T ke),pP h1,pP (rad_ne h1 ke),pP (rad_ne h1 ke),pP (rad_ne h1 ke),pP (rad_ne h1 ke),pF (neq_F kf),pF pf] (by kernel_rfl)
theorem count_pt_arc(e f:Ed)(h1:e.ok=true)(h2:f.ok=true)(ke:e.k=1)(pe:(e.ax==e.bx&&e.ay==e.by')=true)(kf:¬f.k=1):Fok Tryz.prog 82 [edV e 3 c26,edV f 3 c26] (.one (inV (countE e f) lim)):=by
 rw[show countE e f=onZ f e.ax e.ay by rw[countE_v h1 h2];simp only[if_pos ke,pt_eq e,pe,if_true]]
 unfold onZ
 cases ho:onE f e.ax e.ay with
 | true=>exact fok KC [false,false,false,true,true,true] [pF (chk_F h1),pF (chk_F h2),pF (neq_F ke),pT pe,pT (ne_T kf),pP h2,pP (rad_ne h2 kf),pP (rad_ne h2 kf),pP (rad_ne h2 kf),pP (rad_ne h2 kf),pP h2,pT ho] (by kernel_rfl)
 | false=>exact fok KC [false,false,false,true,true,false] [pF (chk_F h1),pF (chk_F h2),pF (neq_F ke),pT pe,pT (ne_T kf),pP h2,pP (rad_ne h2 kf),pP (rad_ne h2 kf),pP (rad_ne h2 kf),pP (rad_ne h2 kf),pP h2,pF ho] (by kernel_rfl)
theorem count_pt_pt(e f:Ed)(h1:e.ok=true)(h2:f.ok=true)(ke:e.k=1)(pe:(e.ax==e.bx&&e.ay==e.by')=true)(kf:f.k=1)(pf:(f.ax==f.bx&&f.ay==f.by')=true):Fok Tryz.prog 82 [edV e 3 c26,edV f 3 c26] (.one (inV (countE e f) lim)):=by
 rw[show countE e f=onZ f e.ax e.ay by rw[countE_v h1 h2];simp only[if_pos ke,pt_eq e,pe,if_true]]
 unfold onZ
 cases ho:onE f e.ax e.ay with
 | true=>exact fok KC [false,false,false,true,false,true,true] [pF (chk_F h1),pF (chk_F h2),pF (neq_F ke),pT pe,pF (neq_F kf),pT pf,pP h2,pT ho] (by kernel_rfl)
 | false=>exact fok KC [false,false,false,true,false,true,false] [pF (chk_F h1),pF (chk_F h2),pF (neq_F ke),pT pe,pF (neq_F kf),pT pf,pP h2,pF ho] (by kernel_rfl)
theorem count_pt_line(e f:Ed)(h1:e.ok=true)(h2:f.ok=true)(ke:e.k=1)(pe:(e.ax==e.bx&&e.ay==e.by')=true)(kf:f.k=1)(pf:(f.ax==f.bx&&f.ay==f.by')=false):Fok Tryz.prog 82 [edV e 3 c26,edV f 3 c26] (.one (inV (countE e f) lim)):=by
 rw[show countE e f=onZ f e.ax e.ay by rw[countE_v h1 h2];simp only[if_pos ke,pt_eq e,pe,if_true]]
 unfold onZ
 cases ho:onE f e.ax e.ay with
 | true=>exact fok KC [false,false,false,true,false,false,true] [pF (chk_F h1),pF (chk_F h2),pF (neq_F ke),pT pe,pF (neq_F kf),pF pf,pP h2,pT ho] (by kernel_rfl)
 | false=>exact fok KC [false,false,false,true,false,false,false] [pF (chk_F h1),pF (chk_F h2),pF (neq_F ke),pT pe,pF (neq_F kf),pF pf,pP h2,pF ho] (by kernel_rfl)
theorem count_line_arc(e f:Ed)(h1:e.ok=true)(h2:f.ok=true)(ke:e.k=1)(pe:(e.ax==e.bx&&e.ay==e.by')=false)(kf:¬f.k=1):Fok Tryz.prog 82 [edV e 3 c26,edV f 3 c26] (.one (inV (countE e f) lim)):=by
 rw[show countE e f=crossZ e f by rw[countE_v h1 h2];simp only[if_pos ke,pt_eq e,pe,Bool.false_eq_true,if_false,if_neg kf]]
 exact fok KC [false,false,false,false,true] [pF (chk_F h1),pF (chk_F h2),pF (neq_F ke),pF pe,pT (ne_T kf),pP h2,pP (rad_ne h2 kf),pP (rad_ne h2 kf),pP (rad_ne h2 kf),pP (rad_ne h2 kf)] (by kernel_rfl)
theorem count_line_pt(e f:Ed)(h1:e.ok=true)(h2:f.ok=true)(ke:e.k=1)(pe:(e.ax==e.bx&&e.ay==e.by')=false)(kf:f.k=1)(pf:(f.ax==f.bx&&f.ay==f.by')=true):Fok Tryz.prog 82 [edV e 3 c26,edV f 3 c26] (.one (inV (countE e f) lim)):=by
 rw[show countE e f=onZ e f.ax f.ay by rw[countE_v h1 h2];simp only[if_pos ke,pt_eq e,pe,Bool.false_eq_true,if_false,if_pos kf,pt_eq f,pf,if_true]]
 unfold onZ
 cases ho:onE e f.ax f.ay with
 | true=>exact fok KC [false,false,false,false,false,true,true] [pF (chk_F h1),pF (chk_F h2),pF (neq_F ke),pF pe,pF (neq_F kf),pT pf,pP h1,pT ho] (by kernel_rfl)
 | false=>exact fok KC [false,false,false,false,false,true,false] [pF (chk_F h1),pF (chk_F h2),pF (neq_F ke),pF pe,pF (neq_F kf),pT pf,pP h1,pF ho] (by kernel_rfl)
theorem count_line_line(e f:Ed)(h1:e.ok=true)(h2:f.ok=true)(ke:e.k=1)(pe:(e.ax==e.bx&&e.ay==e.by')=false)(kf:f.k=1)(pf:(f.ax==f.bx&&f.ay==f.by')=false):Fok Tryz.prog 82 [edV e 3 c26,edV f 3 c26] (.one (inV (countE e f) lim)):=by
 rw[show countE e f=linesZ e.ax e.ay e.bx e.by' f.ax f.ay f.bx f.by' by rw[countE_v h1 h2];simp only[if_pos ke,pt_eq e,pe,Bool.false_eq_true,if_false,if_pos kf,pt_eq f,pf]]
 exact fok KC [false,false,false,false,false,false] [pF (chk_F h1),pF (chk_F h2),pF (neq_F ke),pF pe,pF (neq_F kf),pF pf] (by kernel_rfl)
theorem count_no(e f:Ed)(h:(e.ok&&f.ok)=false):Fok Tryz.prog 82 [edV e lim lim,edV f lim lim] (.one (inV (countE e f) lim)):=by
 rw[show countE e f=0 by unfold countE;rw[h];rfl]
 cases h1:e.ok with
 | false=>exact fok KC [true] [pT (chk_T h1)] (by kernel_rfl)
 | true =>
  rw[h1,Bool.true_and] at h
  exact fok KC [false,true] [pF (chk_F h1),pT (chk_T h)] (by kernel_rfl)
theorem count_ok(e f:Ed)(h1:e.ok=true)(h2:f.ok=true):Fok Tryz.prog 82 [edV e 3 c26,edV f 3 c26] (.one (inV (countE e f) lim)):=by
 by_cases ke:e.k=1
 ·cases pe : (e.ax == e.bx && e.ay == e.by') with
  | true =>
   by_cases kf:f.k=1
   ·cases pf : (f.ax == f.bx && f.ay == f.by') with
    | true=>exact count_pt_pt e f h1 h2 ke pe kf pf
    | false=>exact count_pt_line e f h1 h2 ke pe kf pf
   ·exact count_pt_arc e f h1 h2 ke pe kf
  | false =>
   by_cases kf:f.k=1
   ·cases pf : (f.ax == f.bx && f.ay == f.by') with
    | true=>exact count_line_pt e f h1 h2 ke pe kf pf
    | false=>exact count_line_line e f h1 h2 ke pe kf pf
   ·exact count_line_arc e f h1 h2 ke pe kf
 ·by_cases kf : f.k = 1
  ·cases pf : (f.ax == f.bx && f.ay == f.by') with
   | true=>exact count_arc_pt e f h1 h2 ke kf pf
   | false=>exact count_arc_line e f h1 h2 ke kf pf
  ·exact count_arc_arc e f h1 h2 ke kf
theorem countE_bd(e f:Ed):(countE e f).natAbs<=4:=by
 cases h:(e.ok&&f.ok) with
 | false=>rw[show countE e f=0 by unfold countE;rw[h];rfl];decide
 | true =>
  simp only[Bool.and_eq_true] at h
  have b1:=onZ_bd e f.ax f.ay
  have b2:=onZ_bd f e.ax e.ay
  have b3:=linesZ_bd e.ax e.ay e.bx e.by' f.ax f.ay f.bx f.by'
  have b4:=countZ_bd (laE e f).delta (laE e f).list
  have b5:=countZ_bd (laE f e).delta (laE f e).list
  have b6 : -1<=arcsZ e f/\arcsZ e f<=4:=by
   unfold arcsZ
   split
   ·exact sameZ_bd _ _ _ _ _
   ·have:=countZ_bd (aaE e f).delta (aaE e f).list;omega
  rw[countE_v h.1 h.2]
  unfold crossZ
  (repeat' split)<;>omega
def cCountE:Con where
 f:=82
 g:=fun | [⟨true,l⟩,⟨true,m⟩]=>(match toEd l,toEd m with|some e,some f=>some (.one (inV (countE e f) 4),[])|_,_=>none)|_=>none
 ok:=by
  intro args res ps h hp
  split at h<;>try cases h
  split at h<;>cases h
  rename_i e f he hf
  cases h:(e.ok&&f.ok) with
  | false=>exact ((count_no e f h).bd (countE_bd e f)).pre fun W=>rvs_1 (ed_lim he) (rvs_1 (ed_lim hf) rvs_0)
  | true =>
   simp only[Bool.and_eq_true] at h
   exact ((count_ok e f h.1 h.2).bd (countE_bd e f)).pre fun W=>rvs_1 (ed_ok he h.1) (rvs_1 (ed_ok hf h.2) rvs_0)
theorem meetEdges_ok(e f:Ed):Fok Tryz.prog 40 [edV e lim lim,edV f lim lim] (.one (blV (countE e f != 0))):=fok [cCountE] [] [] (by kernel_rfl)
def cMeet:Con where
 f:=40
 g:=fun | [⟨true,l⟩,⟨true,m⟩]=>(match toEd l,toEd m with|some e,some f=>some (.one (blV (!(countE e f==0))),[])|_,_=>none)|_=>none
 ok:=by
  intro args res ps h hp
  split at h<;>try cases h
  split at h<;>cases h
  rename_i e f he hf
  exact (meetEdges_ok e f).pre fun W=>rvs_1 (ed_lim he) (rvs_1 (ed_lim hf) rvs_0)
end

set_option maxRecDepth 100000
section
theorem okk{e:Ed}(hr:e.right=true):e.ok=(if e.k=1 then e.lone else if e.k=2 then e.quarter 1 else if e.k=3 then e.quarter 3 else false):=by unfold Ed.ok;rw[hr,Bool.true_and]
end

set_option maxRecDepth 100000
section
def errN(e:Nat->Ed):Nat->Int
 | 0=>0
 | n+1=>if errN e n=0 then checkZ (e n) else errN e n
theorem errN_0{e:Nat->Ed}:∀ {n:Nat},errN e n=0->∀k,k<n->checkZ (e k)=0
 | 0,_,k,hk=>absurd hk (Nat.not_lt_zero k)
 | n+1,h,k,hk=>by
  unfold errN at h
  split at h
  ·rename_i h1
   rcases Nat.lt_or_eq_of_le (Nat.le_of_lt_succ hk) with g|g
   ·exact errN_0 h1 k g
   ·rw[g];exact h
  ·rename_i h1;exact absurd h h1
theorem errN_n{e:Nat->Ed}:∀ {n:Nat},errN e n≠0->∃m,m<n/\errN e n=checkZ (e m)/\∀k,k<m->checkZ (e k)=0
 | 0,h=>absurd rfl h
 | n+1,h=>by
  unfold errN at h ⊢
  by_cases h1:errN e n=0
  ·rw [if_pos h1] at h ⊢
   exact⟨n,by omega,rfl,errN_0 h1⟩
  ·rw [if_neg h1] at h ⊢
   obtain⟨m,k1,k2⟩:=errN_n h1
   exact⟨m,by omega,k2⟩
def clsB(s:Sh):Bool:=(s.e 0).ax==(s.e (s.n-1)).bx&&(s.e 0).ay==(s.e (s.n-1)).by'
def fewS(s:Sh):Int:=if s.k=1 then 1 else 2
def chkS(s:Sh):Int :=
 if s.k≠1/\s.k≠2 then 12 else if (s.n:Int)<fewS s then 12 else if 40<s.n then 2 else if errN s.e s.n≠0 then errN s.e s.n else if allB (jn s.e) (s.n-1)=false\/(s.k=2/\clsB s=false) then 12 else if s.k=2/\s.r≠0\/s.r<0\/4194304<s.r then 3 else 0
def shB(s:Sh):List (Option Mb):=[some ⟨30,(shpV s).l⟩]
def pSh(s:Sh):List Pf:=[⟨s.k=s.k,rfl⟩,⟨roE s.n s.e=roE s.n s.e,rfl⟩,⟨s.r=s.r,rfl⟩]
def pEd(s:Sh):Pf:=⟨∀i,i<s.n->isEd (edI (s.e i))=true,fun _ _=>rfl⟩
theorem lt_tt{a b:Int}(h:a<b):decide (a<b)=true:=by simpa using h
theorem lt_ff{a b:Int}(h:¬a<b):decide (a<b)=false:=by simpa using h
theorem Fok.vS{f:FuncId}{args:List V1}{a b:Int}{B:Nat}(h:a=b)(H:Fok Tryz.prog f args (.one (inV b B))):Fok Tryz.prog f args (.one (inV a B)):=h ▸ H
end

set_option maxRecDepth 100000
section
def x0N(e:Nat->Ed):Nat->Int
 | 0=>min (e 0).ax (e 0).bx
 | k+1=>min (x0N e k) (min (e (k+1)).ax (e (k+1)).bx)
def y0N(e:Nat->Ed):Nat->Int
 | 0=>min (e 0).ay (e 0).by'
 | k+1=>min (y0N e k) (min (e (k+1)).ay (e (k+1)).by')
def x1N(e:Nat->Ed):Nat->Int
 | 0=>max (e 0).ax (e 0).bx
 | k+1=>max (x1N e k) (max (e (k+1)).ax (e (k+1)).bx)
def y1N(e:Nat->Ed):Nat->Int
 | 0=>max (e 0).ay (e 0).by'
 | k+1=>max (y1N e k) (max (e (k+1)).ay (e (k+1)).by')
def rcV(a b c d:Int):V1:=⟨true,[.i a lim,.i b lim,.i c lim,.i d lim]⟩
def boxV(s:Sh):V1:=if s.n=0 then rcV 0 0 0 0 else
 rcV (IntKind.i64.wrap (x0N s.e (s.n-1)-s.r)) (IntKind.i64.wrap (y0N s.e (s.n-1)-s.r)) (IntKind.i64.wrap (x1N s.e (s.n-1)+s.r)) (IntKind.i64.wrap (y1N s.e (s.n-1)+s.r))
def rcB(a b c d:Int):Option Mb:=some ⟨40,(rcV a b c d).l⟩
def rcZ:Option Mb:=some ⟨40,[.k 0,.k 0,.k 0,.k 0]⟩
def ptrN(b:Nat):V1:=⟨false,[.p b 0]⟩
def bxR(e:Nat->Ed)(k:Nat):List Pf:=[⟨x0N e k=x0N e k,rfl⟩,⟨y0N e k=y0N e k,rfl⟩,⟨x1N e k=x1N e k,rfl⟩,⟨y1N e k=y1N e k,rfl⟩]
def bxB(e:Nat->Ed)(k:Nat):Option Mb:=rcB (x0N e k) (y0N e k) (x1N e k) (y1N e k)
theorem eq_tt{a b:Int}(h:a=b):(a==b)=true:=by simpa using h
theorem eq_ff{a b:Int}(h:a≠b):(a==b)=false:=by simpa using h
end

set_option maxRecDepth 100000
section
def tlE(s:Sh):V1:=⟨false,[.ro 7 (s.n-1) fun j=>edI (s.e (1+j))]⟩
def lnE(n:Nat):V1:=⟨false,[.i (n:Int) lim]⟩
def sbD(s:Sh)(j:Nat):Ds:=⟨[(21,.le (inV (j:Int) 2000)),(1,.eq (ptrN 0)),(2,.eq (ptrN 1)),(3,.eq (ptrN 2)),(19,.eq (tlE s)),(20,.eq (lnE (s.n-1)))],shB s++[rcZ,bxB s.e j]⟩
def bxS(e:Nat->Ed)(k:Nat):List Pf:=[⟨min (x0N e k) (min (e (1+k)).ax (e (1+k)).bx)=x0N e (k+1),by rw[Nat.add_comm];rfl⟩,⟨min (y0N e k) (min (e (1+k)).ay (e (1+k)).by')=y0N e (k+1),by rw[Nat.add_comm];rfl⟩,⟨max (x1N e k) (max (e (1+k)).ax (e (1+k)).bx)=x1N e (k+1),by rw[Nat.add_comm];rfl⟩,⟨max (y1N e k) (max (e (1+k)).ay (e (1+k)).by')=y1N e (k+1),by rw[Nat.add_comm];rfl⟩]
theorem sbox_ok(s:Sh)(hn:s.n<=1000):Fok Tryz.prog 11 [shpV s] (.one (boxV s)):=by
 by_cases h0:s.n=0
 ·unfold boxV
  rw[if_pos h0]
  exact fok [] [true] [pT (eq_tt (show (s.n:Int)=0 by omega))] (by kernel_rfl)
 ·unfold boxV
  rw[if_neg h0]
  have o:=orc (X:=[]) (K:=[]) (f:=11) (id:=10) (n:=nF 11) (s.n-1) (sbD s) (fun _=>[]) (e:=.ex 0) (d1:=⟨[(1,.eq (ptrN 0)),(2,.eq (ptrN 1)),(3,.eq (ptrN 2))],shB s++[rcZ,bxB s.e (s.n-1)]⟩) (by kernel_rfl) (fun _=>by kernel_rfl) (fun _ _=>LT.nil)
   (fun k hk=>⟨[true],[pT (lt_tt (show (k:Int)<((s.n-1:Nat):Int) by omega)),pP (show 0<=(k:Int)/\(k:Int)<(s.n-1:Nat) by omega),pI k (by omega),pR (ptrN 0),pR (ptrN 1),pR (ptrN 2),pR (tlE s),pR (lnE (s.n-1))]++pSh s++bxS s.e k,by kernel_rfl⟩)
   ⟨[false],[pF (lt_ff (show ¬((s.n-1:Nat):Int)<((s.n-1:Nat):Int) by omega)),pR (ptrN 0),pR (ptrN 1),pR (ptrN 2)]++pSh s++bxR s.e (s.n-1),by kernel_rfl⟩ nofun
  exact fokL [] [] _ (LT.cons o LT.nil) [false] ([pF (eq_ff (show (s.n:Int)≠0 by omega)),pP (show (0:Int)<=0/\(0:Int)<s.n by omega),pP (show (0:Int)<=1/\(1:Int)<=s.n by omega),⟨(0:Int)=((0:Nat):Int),rfl⟩,pR (ptrN 0),pR (ptrN 1),pR (ptrN 2),pR (tlE s),pR (lnE (s.n-1))]++pSh s++bxR s.e 0) (by kernel_rfl)
end

set_option maxHeartbeats 1000000
set_option maxRecDepth 100000
section
theorem shape_product(x y:Nat)(w:World)(hx:x<9223372036854775808)(hy:y<9223372036854775808):Calls Tryz.prog 75 #[.int .i64 x,.int .i64 y] w fun e w'=>e=.returned (.agg #[.int .u64 ((x:Int)*y/18446744073709551616),.int .u64 ((x:Int)*y%18446744073709551616)])/\Ext w w':=by
 have c1:IntKind.u64.wrap (x:Int)=x:=by rw[IntKind.wrap_u64];omega
 have c2:IntKind.u64.wrap (y:Int)=y:=by rw[IntKind.wrap_u64];omega
 go_enter Tryz.func75,Tryz.ntmps75
 go_wp2_with fail
 refine (Tryz.bits_Mul64 x y (by omega) (by omega) _).mono ?_
 rintro e w1 ⟨rfl,rfl⟩
 go_wp2
 refine bodyPost_ret (v:=.agg #[.int .u64 ((x:Int)*y/18446744073709551616),.int .u64 ((x:Int)*y%18446744073709551616)]) (by simp only[results,Tryz.results75];go_simp) rfl ?_
 exact⟨rfl,bxx⟩
theorem shape_atMost(a b c d:Int)(w:World):Calls Tryz.prog 76 #[.agg #[.int .u64 a,.int .u64 b],.agg #[.int .u64 c,.int .u64 d]] w fun e w'=>e=.returned (.bool (decide (a<c\/(a=c/\b<=d))))/\Ext w w':=by
 have hq:∀w,(Op.equalIn 10000 110 (.agg #[.int .u64 a,.int .u64 b]) (.agg #[.int .u64 c,.int .u64 d])).run Tryz.prog w=.ok (a==c&&b==d) w:=fun w=>by
  obtain⟨i,hi⟩:=Option.isSome_iff_exists.1 (show (Tryz.prog.info? 108).isSome=true by kernel_rfl)
  have hc:Tryz.prog.cellsOf 108=1:=by kernel_rfl
  rw[run_equalIn_array w 9999 (n:=2) _ _ (by kernel_rfl) hi,hc]
  simp only[show List.range 2=[0,1] from rfl,Op.eqItems]
  have hs:szT Tryz.prog 108=some 1:=by kernel_rfl
  have ha:agT Tryz.prog 108=some false:=by kernel_rfl
  have q0:∀x y:Int,(part 108 #[.int .u64 x,.int .u64 y] 0).run Tryz.prog w=.ok (.int .u64 x) w:=fun x y=>by
   simpa[cellsV] using run_partT (cs:=[.int .u64 x,.int .u64 y]) (o:=0) (W:=w) hs ha (by simp) (by simp)
  have q1:∀x y:Int,(part 108 #[.int .u64 x,.int .u64 y] 1).run Tryz.prog w=.ok (.int .u64 y) w:=fun x y=>by
   simpa[cellsV] using run_partT (cs:=[.int .u64 x,.int .u64 y]) (o:=1) (W:=w) hs ha (by simp) (by simp)
  have q2:∀x y:Int,(Op.equalIn 9999 108 (.int .u64 x) (.int .u64 y)).run Tryz.prog w=.ok (x==y) w:=fun x y=>run_equalIn_int w 9998 108 .u64 .u64 _ _ (by kernel_rfl)
  simp only[Nat.zero_mul,Nat.one_mul,Sem.run_bind,q0,q1,q2,Result.andThen_ok]
  cases h0:(a==c)<;>cases h1:(b==d)<;>simp[Sem.run_bind,q1,q2,h1]
 obtain⟨z,hz⟩:∃z,decide (a<c\/(a=c/\b<=d))=z:=⟨_,rfl⟩
 rw[hz]
 have hz:=Lib.hid hz
 cases h0:(a==c)<;>cases h1:decide (a<c)<;>cases h2:(b==d)<;>cases h3:decide (b<d)
 all_goals
  go_enter Tryz.func76,Tryz.ntmps76
  go_wp2_with fail
  go_ret
  refine⟨?_,bxx⟩
  have hz:=hz.out
  simp at h0 h1 h2 h3
  rw[<- hz]
  simp
  omega
def wdV(x y:Int):V1:=⟨true,[.v (.int .u64 (x*y/18446744073709551616)),.v (.int .u64 (x*y%18446744073709551616))]⟩
def cProd:Con where
 f:=75
 g:=fun | [⟨false,[.i x _]⟩,⟨false,[.i y _]⟩]=>some (.one (wdV x y),[0<=x,0<=y])|_=>none
 ok:=by
  intro args res ps h hp
  split at h<;>cases h
  rename_i x A y B
  intro W vals hv
  simp only[rvs_cons,rvs_nil,rv_i] at hv
  obtain⟨_,⟨⟨_,b1⟩,rfl⟩,_,rfl,_,⟨⟨_,b2⟩,rfl⟩,_,rfl,rfl⟩:=hv
  obtain⟨x,rfl⟩:=Int.eq_ofNat_of_zero_le hp.1
  obtain⟨y,rfl⟩:=Int.eq_ofNat_of_zero_le hp.2.1
  unfold I64 at b1 b2
  exact (shape_product x y W (by omega) (by omega)).mono fun _ _ h=>⟨_,h.1,rv_t.2 ⟨_,rl_v.2 ⟨rfl,_,rfl,rl_v.2 ⟨rfl,_,rfl,rfl⟩⟩,rfl⟩,h.2⟩
def cAtM:Con where
 f:=76
 g:=fun | [⟨true,[.v (.int .u64 a),.v (.int .u64 b)]⟩,⟨true,[.v (.int .u64 c),.v (.int .u64 d)]⟩]=>some (.one (blV (decide (a<c\/(a=c/\b<=d)))),[])|_=>none
 ok:=by
  intro args res ps h hp
  split at h<;>cases h
  intro W vals hv
  simp only[rvs_cons,rvs_nil,rv_t,rl_v,rl_nil] at hv
  obtain⟨_,⟨_,⟨_,_,rfl,_,_,rfl,rfl⟩,rfl⟩,_,rfl,_,⟨_,⟨_,_,rfl,_,_,rfl,rfl⟩,rfl⟩,_,rfl,rfl⟩:=hv
  exact (shape_atMost _ _ _ _ W).mono fun _ _ h=>gv_bl h
theorem words_le{u v:Int}(hu:0<=u)(hv:0<=v):(u/18446744073709551616<v/18446744073709551616\/(u/18446744073709551616=v/18446744073709551616/\u%18446744073709551616<=v%18446744073709551616)) <-> u<=v:=by omega
end
theorem ok_xor{e:Ed}(h:e.ok=true)(hk:¬e.k=1):e.ax-e.cx=0\/e.ay-e.cy=0:=by
 have hq:((e.ax-e.cx==0) != (e.ay-e.cy==0))=true:=by
  simp only[Ed.ok,Bool.and_eq_true,if_neg hk] at h
  have h2:=h.2
  split at h2
  ·simp only [Ed.quarter, quarterB, Bool.and_eq_true] at h2
   exact h2.1
  ·split at h2
   ·simp only [Ed.quarter, quarterB, Bool.and_eq_true] at h2
    exact h2.1
   ·cases h2
 by_cases h1:e.ax-e.cx=0
 ·exact .inl h1
 ·by_cases h2 : e.ay - e.cy = 0
  ·exact .inr h2
  ·have e1 : (e.ax - e.cx == 0) = false := by simpa using h1
   have e2:(e.ay-e.cy==0)=false:=by simpa using h2
   rw[e1,e2] at hq
   cases hq
theorem radZ_sum{e:Ed}(h:e.ok=true)(hk:¬e.k=1):max (e.ax-e.cx) (-(e.ax-e.cx))+max (e.ay-e.cy) (-(e.ay-e.cy))=radZ e:=by
 have hkb:(e.k==1)=false:=by simpa using hk
 unfold radZ
 rw[h,hkb]
 simp only[Bool.not_false,Bool.and_self,if_true]
 have:=ok_xor h hk
 omega
theorem radZ_sq{e:Ed}(h:e.ok=true)(hk:¬e.k=1):(e.ax-e.cx)*(e.ax-e.cx)+(e.ay-e.cy)*(e.ay-e.cy)=radZ e*radZ e:=by
 rw[<- radZ_sum h hk]
 have mm:∀x:Int,max x (-x)*max x (-x)=x*x:=by
  intro x
  rcases Int.le_total 0 x with h|h
  ·rw[show max x (-x)=x by omega]
  ·rw[show max x (-x) = -x by omega,Int.neg_mul_neg]
 rcases ok_xor h hk with h0|h0<;>rw[h0]
 ·rw [show max (0 : Int) (-0) = 0 by decide]
  simp only[Int.zero_add,Int.zero_mul]
  exact (mm _).symm
 ·rw [show max (0 : Int) (-0) = 0 by decide]
  simp only[Int.add_zero,Int.zero_mul]
  exact (mm _).symm

set_option maxRecDepth 100000
section
def b27:Nat:=134217728
def beyL(e:Ed)(px py:Int):Bool:=if e.ay>e.by' then decide ((px-e.bx)*(e.ay-e.by')<(py-e.by')*(e.ax-e.bx)) else decide ((px-e.ax)*(e.by'-e.ay)<(py-e.ay)*(e.bx-e.ax))
def beyA(e:Ed)(px py:Int):Bool:=if e.ax+e.bx>2*e.cx then decide ((px-e.cx)*(px-e.cx)+(py-e.cy)*(py-e.cy)<radZ e*radZ e) else decide ((px-e.cx)*(px-e.cx)+(py-e.cy)*(py-e.cy)>radZ e*radZ e)&&decide (px-e.cx<0)
def beyZ(e:Ed)(px py:Int):Bool:=if px<min e.ax e.bx then true else if px >= max e.ax e.bx then false else if e.k=1 then beyL e px py else beyA e px py
def rayZ(e:Ed)(px py:Int):Int:=if e.ay<=py/\py<e.by'/\beyZ e px py=true then 1 else if e.by'<=py/\py<e.ay/\beyZ e px py=true then -1 else 0
theorem ge_tt{a b:Int}(h:a >= b):decide (a >= b)=true:=by simpa using h
theorem ge_ff{a b:Int}(h:¬a >= b):decide (a >= b)=false:=by simpa using h
theorem le_tt{a b:Int}(h:a<=b):decide (a<=b)=true:=by simpa using h
theorem le_ff{a b:Int}(h:¬a<=b):decide (a<=b)=false:=by simpa using h
theorem Fok.bb{f:FuncId}{args:List V1}{a b:Bool}(h:a=b)(H:Fok Tryz.prog f args (.one (blV b))):Fok Tryz.prog f args (.one (blV a)):=h ▸ H
def ptB(l:List It):Option (Int×Int):=match l with | [.i x _,.i y _]=>some (x,y)|_=>none
def Bd(B:Nat)(x y:Int):Prop:=x.natAbs<=B/\y.natAbs<=B
theorem ptB_rep{V W:World}{r:Nat->Nat}{k:Nat}{l:List It}{p:Int×Int}{B:Nat}(h:ptB l=some p)(hb:Bd B p.1 p.2):∀v,RepV V W r k ⟨true,l⟩ v->RepV V W r k (ptV p.1 p.2 B) v:=by
 unfold ptB at h
 split at h<;>cases h
 intro v ⟨cs,⟨c,d,e,h1,c2,d2,e2,h2,h3⟩,h4,h5⟩
 cases h3
 exact⟨cs,⟨c,d,e,⟨h1.1,hb.1,h1.2.2⟩,c2,[],e2,⟨h2.1,hb.2,h2.2.2⟩,rfl⟩,h4,h5⟩
def epC(f:FuncId)(B:Nat)(g:Ed->Int->Int->AV)(h:∀e px py,e.ok=true->Bd B px py->Fok Tryz.prog f [edV e 3 c26,ptV px py B] (g e px py)):Con where
 f:=f
 g:=fun | [⟨true,l⟩,⟨true,m⟩]=>(match toEd l,ptB m with|some e,some p=>some (g e p.1 p.2,[e.ok=true,Bd B p.1 p.2])|_,_=>none)|_=>none
 ok:=by
  intro args res ps h' hp
  split at h'<;>try cases h'
  split at h'<;>cases h'
  rename_i he hq
  exact (h _ _ _ hp.1 hp.2.1).pre fun W=>rvs_1 (ed_ok he hp.1) (rvs_1 (ptB_rep hq hp.2.1) rvs_0)
theorem rayZ_bd(e:Ed)(px py:Int):(rayZ e px py).natAbs<=1:=by unfold rayZ;split;decide;split<;>decide
end
end Go.Proofs.YteajakbpmeebnaaGreat
