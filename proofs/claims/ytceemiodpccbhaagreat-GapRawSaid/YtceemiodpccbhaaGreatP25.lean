import Derived.Test.YtceemiodpccbhaaGreatP24
set_option linter.unusedVariables false
set_option linter.unusedSimpArgs false

namespace Go.Proofs.YtceemiodpccbhaaGreat
open Go.RowKit
structure Sh where
 k:Int
 n:Nat
 e:Nat->Ed
 r:Int
def edI(e:Ed):List It:=[.i e.k lim,.i e.ax lim,.i e.ay lim,.i e.bx lim,.i e.by' lim,.i e.cx lim,.i e.cy lim]
def roE(n:Nat)(e:Nat->Ed):It:=.ro 7 n fun i=>edI (e i)
def shpV(s:Sh):V1:=⟨true,[.i s.k lim,roE s.n s.e,.i s.r lim]⟩
def ed7(l:List It):Option Ed :=
 match asIs l with
 | some [k,ax,ay,bx,by',cx,cy]=>some ⟨k.1,ax.1,ay.1,bx.1,by'.1,cx.1,cy.1⟩
 | _=>none
def edAt(l:List It):Ed:=(ed7 l).getD ⟨0,0,0,0,0,0,0⟩
def isEd(l:List It):Bool:=(ed7 l).isSome
def toRo:It->Option (Nat×(Nat->List It))
 | .ro z n f=>if z=7 then some (n,f) else none
 | .fs _ l n z=>if z=7/\(l.all fun i=>i.n==1)=true then some (n,fun i=>(l.drop (i*7)).take 7) else none
 | .v (.slice none 0 0)=>some (0,fun _=>[])
 | _=>none
def toSh:List It->Option (Sh×List Prop)
 | [i,j,k]=>match asI i,toRo j,asI k with
  | some x,some (n,f),some y=>some (⟨x.1,n,fun i=>edAt (f i),y.1⟩,[∀i,i<n->isEd (f i)=true])
  | _,_,_=>none
 | _=>none
theorem i64_lim{z:Int}(h:I64 z):z.natAbs<=lim:=by unfold I64 at h;unfold lim;omega
theorem ed7_F{V:World}{l:List It}{cs:List Value}(h:isEd l=true)(hr:RepF V l cs):RepF V (edI (edAt l)) cs:=by
 unfold isEd edAt at *
 cases he:ed7 l with
 | none=>rw[he] at h;cases h
 | some e =>
  unfold ed7 at he
  split at he
  ·rename_i k ax ay bx by' cx cy hx
   cases he
   have hup:∀ {l:List It} {xs:List (Int×Nat)} {cs:List Value},asIs l=some xs->RepF V l cs->RepL V V (fun _=>0) 0 l cs:=by
    intro l
    induction l with
    | nil=>intro xs cs _ e;exact e
    | cons i l ih =>
     intro xs cs h ⟨c,d,e,h1,h2⟩
     unfold asIs at h
     split at h
     ·rename_i y z hy hz
      refine⟨c,d,e,?_,ih hz h2⟩
      cases i<;>first|exact h1|cases hy
     ·cases h
   obtain⟨e1,e2⟩:=asIs_rep hx (hup hx hr)
   rw[e1]
   have b:∀x ∈ [k,ax,ay,bx,by',cx,cy],I64 x.1:=fun x hx=>(e2 x hx).2
   simp only[List.mem_cons,List.not_mem_nil,or_false,forall_eq_or_imp,forall_eq] at b
   obtain⟨b0,b1,b2,b3,b4,b5,b6⟩:=b
   exact⟨[_],_,rfl,⟨rfl,i64_lim b0,b0⟩,[_],_,rfl,⟨rfl,i64_lim b1,b1⟩,[_],_,rfl,⟨rfl,i64_lim b2,b2⟩,[_],_,rfl,⟨rfl,i64_lim b3,b3⟩,[_],_,rfl,⟨rfl,i64_lim b4,b4⟩,[_],_,rfl,⟨rfl,i64_lim b5,b5⟩,[_],_,rfl,⟨rfl,i64_lim b6,b6⟩,rfl⟩
  ·cases he
theorem repF_drop{V:World}:∀ {l:List It} {m:Nat} {cs:List Value},(l.all fun i=>i.n==1)=true->RepF V l cs->RepF V (l.drop m) (cs.drop m)
 | l,0,cs,_,h=>by simpa using h
 | [],m+1,cs,_,h=>by cases h;simp[RepF]
 | i::l,m+1,cs,hl,⟨c,d,e,h1,h2⟩=>by
  simp only[List.all_cons,Bool.and_eq_true,beq_iff_eq] at hl
  have:=h1.n
  subst e
  rw[List.drop_succ_cons,show m+1=c.length+m by omega,<- List.drop_drop,List.drop_left]
  exact repF_drop (by simpa using hl.2) h2
theorem repF_take{V:World}:∀ {l:List It} {m:Nat} {cs:List Value},(l.all fun i=>i.n==1)=true->RepF V l cs->RepF V (l.take m) (cs.take m)
 | l,0,cs,_,h=>by simp[RepF]
 | [],m+1,cs,_,h=>by cases h;simp[RepF]
 | i::l,m+1,cs,hl,⟨c,d,e,h1,h2⟩=>by
  simp only[List.all_cons,Bool.and_eq_true,beq_iff_eq] at hl
  have hc:=h1.n
  subst e
  refine⟨c,d.take m,?_,h1,repF_take (by simpa using hl.2) h2⟩
  rw[List.take_append,List.take_of_length_le (by omega),show m+1-c.length=m by omega]
theorem toRo_rep{V W:World}{r:Nat->Nat}{k:Nat}{i:It}{n:Nat}{f:Nat->List It}{cs:List Value}(h:toRo i=some (n,f))(hp:∀i,i<n->isEd (f i)=true)(hr:RepI V W r k i cs):RepI V W r k (roE n fun i=>edAt (f i)) cs:=by
 unfold toRo at h
 split at h
 ·split at h <;> cases h
  rename_i hz
  subst hz
  obtain⟨v,e,a,c,e2,h1,h2,h3⟩:=hr
  refine⟨v,e,a,c,e2,h1,h2,fun j hj=>?_⟩
  obtain⟨g,o,xs,T,k1,k2,k3,cs,d,k4,k5⟩:=h3 j hj
  exact⟨g,o,xs,T,k1,k2,k3,cs,d,k4,ed7_F (hp j hj) k5⟩
 ·split at h <;> cases h
  rename_i l z hb
  obtain⟨rfl,hl⟩:=hb
  obtain⟨g,q,xs,T,e,h1,h2,h3,h4,c,d,h5,h6,h7⟩:=hr
  refine⟨_,e,_,q,rfl,h2,h3,fun j hj=>?_⟩
  have hlen:=congrArg List.length h5
  rw[List.length_drop,List.length_append,Array.length_toList] at hlen
  refine⟨g,_,xs,T,rfl,h1,by omega,(c.drop (j*7)).take 7,(c.drop (j*7)).drop 7++d,?_,ed7_F (hp j hj) (repF_take (by rw[List.all_eq_true] at hl ⊢;exact fun x hx=>hl x (List.mem_of_mem_drop hx)) (repF_drop hl h6))⟩
  rw[<- List.drop_drop,h5,List.drop_append_of_le_length (by omega),<- List.append_assoc,List.take_append_drop]
 ·cases h
  obtain⟨e,_⟩:=hr
  exact⟨_,e,none,0,rfl,Nat.le_refl _,Nat.zero_le _,fun j hj=>absurd hj (Nat.not_lt_zero _)⟩
 ·cases h
theorem asI_lim{V W:World}{r:Nat->Nat}{k:Nat}{i:It}{x:Int×Nat}{cs:List Value}(h:asI i=some x)(hr:RepI V W r k i cs):RepI V W r k (.i x.1 lim) cs:=by
 obtain⟨z,B⟩:=x
 unfold asI at h
 split at h<;>cases h
 ·exact⟨hr.1,i64_lim hr.2.2,hr.2.2⟩
 ·exact⟨hr.1,i64_lim hr.2,hr.2⟩
theorem toSh_rep{V W:World}{r:Nat->Nat}{k:Nat}{l:List It}{s:Sh}{ps:List Prop}{x:Value}(h:toSh l=some (s,ps))(hp:All ps)(hr:RepV V W r k ⟨true,l⟩ x):RepV V W r k (shpV s) x:=by
 unfold toSh at h
 split at h
 ·rename_i i j z
  split at h<;>cases h
  rename_i x1 n f y hx hj hy
  obtain⟨cs,⟨c1,d1,e1,h1,c2,d2,e2,h2,c3,d3,e3,h3,h4⟩,h5,_⟩:=hr
  cases h4
  subst e3 e2 e1
  refine⟨_,⟨c1,_,rfl,asI_lim hx h1,c2,_,rfl,toRo_rep hj hp.1 h2,c3,[],rfl,asI_lim hy h3,rfl⟩,by simpa[shpV] using h5,nofun⟩
 ·cases h
def allB(p:Nat->Bool):Nat->Bool
 | 0=>true
 | n+1=>allB p n&&p n
theorem allB_t{p:Nat->Bool}:∀ {n:Nat},allB p n=true <-> ∀k,k<n->p k=true
 | 0=>⟨fun _ k hk=>absurd hk (Nat.not_lt_zero k),fun _=>rfl⟩
 | n+1=>by
  unfold allB
  rw[Bool.and_eq_true,allB_t]
  exact⟨fun ⟨h1,h2⟩ k hk=>(Nat.lt_or_eq_of_le (Nat.le_of_lt_succ hk)).elim (h1 k) fun h=>h ▸ h2,fun h=>⟨fun k hk=>h k (by omega),h n (by omega)⟩⟩
theorem allB_f{p:Nat->Bool}:∀ {n:Nat},allB p n=false->∃m,m<n/\p m=false/\∀k,k<m->p k=true
 | 0,h=>by cases h
 | n+1,h=>by
  cases h1:allB p n with
  | false =>
   obtain⟨m,k1,k2⟩:=allB_f h1
   exact⟨m,by omega,k2⟩
  | true =>
   unfold allB at h
   rw[h1,Bool.true_and] at h
   exact⟨n,by omega,h,allB_t.1 h1⟩
def pI(j:Nat)(h:j+1<=2000):Pf:=⟨((j:Nat):Int)+1=((j+1:Nat):Int)/\(((j:Nat):Int)+1).natAbs<=2000,by omega⟩
def pR(v:V1):Pf:=⟨v=v,rfl⟩
noncomputable def nF(f:FuncId):Nat:=((Tryz.prog.funcs[f]?).map (·.ntmps)).getD 0

set_option maxRecDepth 100000
section
def jn(e:Nat->Ed)(j:Nat):Bool:=(e (j+1)).ax==(e j).bx&&(e (j+1)).ay==(e j).by'
theorem chain_ok(n:Nat)(e:Nat->Ed)(hn:n<=1000):Fok Tryz.prog 130 [⟨false,[roE n e]⟩] (.one (blV (allB (jn e) (n-1)))):=by
 let D:Nat->Ds:=fun j=>⟨[(3,.le (inV ((j+1:Nat):Int) 2000)),(0,.eq ⟨false,[roE n e]⟩)],[]⟩
 have c1:∀k b,jn e k=b->(!((e (k+1)).ax==(e (((k+1:Nat):Int)-1).toNat).bx&&(e (k+1)).ay==(e (((k+1:Nat):Int)-1).toNat).by'))=!b:=fun k b h=>by
  rw[show (((k+1:Nat):Int)-1).toNat=k by omega,<- h];rfl
 have R:∀k,k<n-1->jn e k=true->Rnd [] [] 130 4 [] (nF 130) (D k) (D (k+1)) .nm:=fun k hk h =>
  ⟨[true,false],[pT (show decide (((k+1:Nat):Int)<(n:Int))=true by simp;omega),pP (show 0<=((k+1:Nat):Int)/\((k+1:Nat):Int)<n by omega),pP (show 0<=((k+1:Nat):Int)-1/\((k+1:Nat):Int)-1<n by omega),pF (c1 k _ h),pI (k+1) (by omega),pR ⟨false,[roE n e]⟩],by kernel_rfl⟩
 cases hb:allB (jn e) (n-1) with
 | true =>
  have hr:=allB_t.1 hb
  have o:=orc (X:=[]) (K:=[]) (f:=130) (id:=4) (n:=nF 130) (n-1) D (fun _=>[]) (e:=.ex 0) (d1:=⟨[],[]⟩) (by kernel_rfl) (fun _=>by kernel_rfl) (fun _ _=>LT.nil) (fun k hk=>R k hk (hr k hk))
   ⟨[false],[pF (show decide (((n-1+1:Nat):Int)<(n:Int))=false by simp;omega)],by kernel_rfl⟩ nofun
  exact fokL [] [] _ (LT.cons o LT.nil) [] [pP (show (1:Int)=((0+1:Nat):Int) from rfl),pR ⟨false,[roE n e]⟩] (by kernel_rfl)
 | false =>
  obtain⟨m,hm,h1,h2⟩:=allB_f hb
  have o:=orc (X:=[]) (K:=[]) (f:=130) (id:=4) (n:=nF 130) m D (fun _=>[]) (e:=.rt) (d1:=⟨[(2,.eq ⟨false,[.b false]⟩)],[]⟩) (by kernel_rfl) (fun _=>by kernel_rfl) (fun _ _=>LT.nil) (fun k hk=>R k (by omega) (h2 k hk))
   ⟨[true,true],[pT (show decide (((m+1:Nat):Int)<(n:Int))=true by simp;omega),pP (show 0<=((m+1:Nat):Int)/\((m+1:Nat):Int)<n by omega),pP (show 0<=((m+1:Nat):Int)-1/\((m+1:Nat):Int)-1<n by omega),pT (c1 m _ h1),pR ⟨false,[.b false]⟩],by kernel_rfl⟩ nofun
  exact fokL [] [] _ (LT.cons o LT.nil) [] [pP (show (1:Int)=((0+1:Nat):Int) from rfl),pR ⟨false,[roE n e]⟩] (by kernel_rfl)
def shC(f:FuncId)(g:Sh->AV)(c:Sh->List Prop)(h:∀s,All (c s)->Fok Tryz.prog f [shpV s] (g s)):Con where
 f:=f
 g:=fun | [⟨true,l⟩]=>(toSh l).map fun z=>(g z.1,z.2++c z.1)|_=>none
 ok:=by
  intro args res ps h' hp
  split at h'<;>try cases h'
  rename_i l
  cases he:toSh l with
  | none=>simp[he] at h'
  | some z =>
   obtain⟨s,ps1⟩:=z
   simp only[he,Option.map_some,Option.some.injEq,Prod.mk.injEq] at h'
   obtain⟨rfl,rfl⟩:=h'
   obtain⟨p1,p2⟩:=All.app hp
   exact (h s p2).pre fun W=>rvs_1 (fun v hv=>toSh_rep he p1 hv) rvs_0
def dChain:Con where
 f:=130
 g:=fun | [⟨false,[i]⟩]=>(toRo i).map fun z=>(.one (blV (allB (jn fun j=>edAt (z.2 j)) (z.1-1))),[(∀i,i<z.1->isEd (z.2 i)=true),z.1<=1000])|_=>none
 ok:=by
  intro args res ps h' hp
  split at h'<;>try cases h'
  rename_i i
  cases he:toRo i with
  | none=>simp[he] at h'
  | some z =>
   obtain⟨n,f⟩:=z
   simp only[he,Option.map_some,Option.some.injEq,Prod.mk.injEq] at h'
   obtain⟨rfl,rfl⟩:=h'
   exact (chain_ok n _ hp.2.1).pre fun W=>rvs_1 (fun v hv=>RepI.val (toRo_rep he hp.1 hv.scal)) rvs_0
end

set_option maxRecDepth 100000
section
def c27:Nat:=134217728
def KM:List Con:=[cZOf,cZMul,cZSub,cMCount,cSide]
def isV(B:Nat)(zs:List Int):V1:=⟨true,zs.map fun z=>.i z B⟩
def toIs(B:Nat)(l:List It):Option (List Int):=(asIs l).bind fun xs=>if xs.all (fun x=>decide (x.2<=B))=true then some (xs.map (·.1)) else none
theorem is_low{V W:World}{r:Nat->Nat}{k:Nat}{B:Nat}{l:List It}{zs:List Int}(h:toIs B l=some zs):∀v,RepV V W r k ⟨true,l⟩ v->RepV V W r k (isV B zs) v:=by
 intro v hv
 unfold toIs at h
 cases hx:asIs l with
 | none=>simp[hx] at h
 | some xs =>
  simp only[hx,Option.bind_some] at h
  split at h<;>cases h
  rename_i ha
  simp only[List.all_eq_true,decide_eq_true_eq] at ha
  obtain⟨cs,h1,h2,h3⟩:=hv
  obtain⟨k1,k2⟩:=asIs_rep hx h1
  refine⟨cs,?_,h2,nofun⟩
  subst k1
  show RepL V W r k ((xs.map (·.1)).map fun z=>It.i z B) _
  rw[List.map_map]
  exact rl_map (f:=fun x:Int×Nat=>It.i x.1 B) (g:=fun x:Int×Nat=>Value.int .i64 x.1) fun x hx=>⟨rfl,Nat.le_trans (k2 x hx).1 (ha x hx),(k2 x hx).2⟩
theorem lines_ok(px py qx qy rx ry sx sy:Int):Fok Tryz.prog 148 [isV c26 [px,py,qx,qy],isV c26 [rx,ry,sx,sy]] (.one (inV (linesZ px py qx qy rx ry sx sy) lim)):=by
 unfold linesZ
 split
 ·rename_i h1
  split
  ·rename_i h2
   exact fok KM [true,true] [pT (ne_T h1),pT (gt_T h2)] (by kernel_rfl)
  ·rename_i h2
   split
   ·rename_i h3
    exact fok KM [true,false,true] [pT (ne_T h1),pF (gt_F h2),pT (gt_T h3)] (by kernel_rfl)
   ·rename_i h3
    exact fok KM [true,false,false] [pT (ne_T h1),pF (gt_F h2),pF (gt_F h3)] (by kernel_rfl)
 ·rename_i h1
  split
  ·rename_i h2
   exact fok KM [false,true] [pF (ne_F h1),pT (ne_T h2)] (by kernel_rfl)
  ·rename_i h2
   split
   ·rename_i h3
    exact fok KM [false,false,true] [pF (ne_F h1),pF (ne_F h2),pT (decide_eq_true h3)] (by kernel_rfl)
   ·rename_i h3
    split
    ·rename_i h4
     exact fok KM [false,false,false,true] [pF (ne_F h1),pF (ne_F h2),pF (decide_eq_false h3),pT (bq_T h4)] (by kernel_rfl)
    ·rename_i h4
     exact fok KM [false,false,false,false] [pF (ne_F h1),pF (ne_F h2),pF (decide_eq_false h3),pF (bq_F h4)] (by kernel_rfl)
def cLines:Con where
 f:=148
 g:=fun | [⟨true,l⟩,⟨true,m⟩]=>(match toIs c26 l,toIs c26 m with|some [px,py,qx,qy],some [rx,ry,sx,sy]=>some (.one (inV (linesZ px py qx qy rx ry sx sy) 1),[])|_,_=>none)|_=>none
 ok:=by
  intro args res ps h hp
  split at h<;>try cases h
  split at h<;>cases h
  rename_i px py qx qy rx ry sx sy hl hm
  have b:=linesZ_bd px py qx qy rx ry sx sy
  exact ((lines_ok _ _ _ _ _ _ _ _).bd (by omega)).pre fun W=>rvs_1 (is_low hl) (rvs_1 (is_low hm) rvs_0)
def laG(px py qx qy cx cy r ux uy vx vy:Int):LA :=
 ⟨(qx-px)*(qx-px)+(qy-py)*(qy-py),(px-cx)*(qx-px)+(py-cy)*(qy-py),(px-cx)*(px-cx)+(py-cy)*(py-cy),r,(px-cx)*ux+(py-cy)*uy,(qx-px)*ux+(qy-py)*uy,(px-cx)*vx+(py-cy)*vy,(qx-px)*vx+(qy-py)*vy⟩
theorem lineArc_ok(px py qx qy cx cy r ux uy vx vy:Int):Fok Tryz.prog 149 [isV c27 [px,py,qx,qy],isV c27 [cx,cy,r,ux,uy,vx,vy]] (.one (inV (countZ (laG px py qx qy cx cy r ux uy vx vy).delta (laG px py qx qy cx cy r ux uy vx vy).list) lim)) :=
 fok KM [] [] (by kernel_rfl)
def cLineArc:Con where
 f:=149
 g:=fun | [⟨true,l⟩,⟨true,m⟩]=>(match toIs c27 l,toIs c27 m with|some [px,py,qx,qy],some [cx,cy,r,ux,uy,vx,vy]=>some (.one (inV (countZ (laG px py qx qy cx cy r ux uy vx vy).delta (laG px py qx qy cx cy r ux uy vx vy).list) 2),[])|_,_=>none)|_=>none
 ok:=by
  intro args res ps h hp
  split at h<;>try cases h
  split at h<;>cases h
  rename_i px py qx qy cx cy r ux uy vx vy hl hm
  have b:=countZ_bd (laG px py qx qy cx cy r ux uy vx vy).delta (laG px py qx qy cx cy r ux uy vx vy).list
  exact ((lineArc_ok _ _ _ _ _ _ _ _ _ _ _).bd (by omega)).pre fun W=>rvs_1 (is_low hl) (rvs_1 (is_low hm) rvs_0)
def aaG(cx cy r ux uy vx vy dx dy q sx sy tx ty:Int):AA :=
 ⟨(dx-cx)*(dx-cx)+(dy-cy)*(dy-cy),r,q,(dx-cx)*ux+(dy-cy)*uy,(dx-cx)*vx+(dy-cy)*vy,(dx-cx)*sx+(dy-cy)*sy,(dx-cx)*tx+(dy-cy)*ty,
  (0-(dy-cy))*ux+(dx-cx)*uy,(0-(dy-cy))*vx+(dx-cx)*vy,(0-(dy-cy))*sx+(dx-cx)*sy,(0-(dy-cy))*tx+(dx-cx)*ty⟩
def arcsG(cx cy r ux uy vx vy dx dy q sx sy tx ty:Int):Int :=
 if (cx==dx&&cy==dy)=true then sameZ (r==q) (ux==sx&&uy==sy) (ux==tx&&uy==ty) (vx==sx&&vy==sy) (vx==tx&&vy==ty)
 else countZ (aaG cx cy r ux uy vx vy dx dy q sx sy tx ty).delta (aaG cx cy r ux uy vx vy dx dy q sx sy tx ty).list
def bB(a b:Bool):List Bool:=cond a [true,b] [false]
def bH{x y a b:Bool}(_:x=a)(_:y=b):List Bool:=bB a b
def pB{x y:Bool}(a b:Bool)(ha:x=a)(hb:y=b):List Pf:=cond a [⟨x=a,ha⟩,⟨y=b,hb⟩] [⟨x=a,ha⟩]
theorem arcsSame_ok(cx cy r ux uy vx vy dx dy q sx sy tx ty:Int)(hc:(cx==dx&&cy==dy)=true):Fok Tryz.prog 150 [isV c27 [cx,cy,r,ux,uy,vx,vy],isV c27 [dx,dy,q,sx,sy,tx,ty]] (.one (inV (sameZ (r==q) (ux==sx&&uy==sy) (ux==tx&&uy==ty) (vx==sx&&vy==sy) (vx==tx&&vy==ty)) lim)):=by
 generalize h0:(r==q)=z
 generalize h1:(ux==sx&&uy==sy)=a
 generalize h2:(ux==tx&&uy==ty)=b
 generalize h3:(vx==sx&&vy==sy)=c
 generalize h4:(vx==tx&&vy==ty)=d
 cases z<;>cases a<;>cases b<;>cases c<;>cases d <;>
  exact fok KM (true::(bH h1 h0++bH h2 h0++bH h3 h0++bH h4 h0)) (pT hc::(pB _ _ h1 h0++pB _ _ h2 h0++pB _ _ h3 h0++pB _ _ h4 h0)) (by kernel_rfl)
theorem arcsApart_ok(cx cy r ux uy vx vy dx dy q sx sy tx ty:Int)(hc:(cx==dx&&cy==dy)=false):Fok Tryz.prog 150 [isV c27 [cx,cy,r,ux,uy,vx,vy],isV c27 [dx,dy,q,sx,sy,tx,ty]] (.one (inV (countZ (aaG cx cy r ux uy vx vy dx dy q sx sy tx ty).delta (aaG cx cy r ux uy vx vy dx dy q sx sy tx ty).list) lim)) :=
 fok KM [false] [pF hc] (by kernel_rfl)
theorem sameZ_bd(z a b c d:Bool) : -1<=sameZ z a b c d/\sameZ z a b c d<=4:=by
 cases z<;>cases a<;>cases b<;>cases c<;>cases d<;>decide
def cArcs:Con where
 f:=150
 g:=fun | [⟨true,l⟩,⟨true,m⟩]=>(match toIs c27 l,toIs c27 m with|some [cx,cy,r,ux,uy,vx,vy],some [dx,dy,q,sx,sy,tx,ty]=>some (.one (inV (arcsG cx cy r ux uy vx vy dx dy q sx sy tx ty) 4),[])|_,_=>none)|_=>none
 ok:=by
  intro args res ps h hp
  split at h<;>try cases h
  split at h<;>cases h
  rename_i cx cy r ux uy vx vy dx dy q sx sy tx ty hl hm
  refine Fok.pre ?_ fun W=>rvs_1 (is_low hl) (rvs_1 (is_low hm) rvs_0)
  unfold arcsG
  cases hc:(cx==dx&&cy==dy) with
  | true =>
   rw[if_pos rfl]
   have b:=sameZ_bd (r==q) (ux==sx&&uy==sy) (ux==tx&&uy==ty) (vx==sx&&vy==sy) (vx==tx&&vy==ty)
   exact (arcsSame_ok _ _ _ _ _ _ _ _ _ _ _ _ _ _ hc).bd (by omega)
  | false =>
   rw[if_neg (by simp)]
   have b:=countZ_bd (aaG cx cy r ux uy vx vy dx dy q sx sy tx ty).delta (aaG cx cy r ux uy vx vy dx dy q sx sy tx ty).list
   exact (arcsApart_ok _ _ _ _ _ _ _ _ _ _ _ _ _ _ hc).bd (by omega)
end

set_option maxRecDepth 100000
section
theorem pt_c26{V W:World}{r:Nat->Nat}{k:Nat}{x y:Int}{A B:Nat}(h1:A<=c26)(h2:B<=c26):∀v,RepV V W r k ⟨true,[.i x A,.i y B]⟩ v->RepV V W r k (ptV x y c26) v:=pt_low h1 h2
theorem on_1(ax ay bx by' cx cy px py:Int)(ho:(Ed.mk 1 ax ay bx by' cx cy).ok=true):Fok Tryz.prog 147 [edV ⟨1,ax,ay,bx,by',cx,cy⟩ 3 c26,ptV px py c26] (.one (blV (onE ⟨1,ax,ay,bx,by',cx,cy⟩ px py))):=by
 have E:onE ⟨1,ax,ay,bx,by',cx,cy⟩ px py=(inB (min ax bx) (min ay by') (max ax bx) (max ay by') px py&&(sideI ((bx-ax)*(py-ay)-(by'-ay)*(px-ax))==0)):=by unfold onE;rw[ho];rfl
 rw[E]
 unfold inB
 cases h0:decide (min ax bx<=px) with
 | false=>exact fok [cOfE,cSide] [true,false] [pT ho,pF h0] (by kernel_rfl)
 | true =>
  cases h1:decide (px<=max ax bx) with
  | false=>exact fok [cOfE,cSide] [true,true,false] [pT ho,pT h0,pF h1] (by kernel_rfl)
  | true =>
   cases h2:decide (min ay by'<=py) with
   | false=>exact fok [cOfE,cSide] [true,true,true,false] [pT ho,pT h0,pT h1,pF h2] (by kernel_rfl)
   | true =>
    cases h3:decide (py<=max ay by') with
    | false=>exact fok [cOfE,cSide] [true,true,true,true,false] [pT ho,pT h0,pT h1,pT h2,pF h3] (by kernel_rfl)
    | true =>
     exact fok [cOfE,cSide] [true,true,true,true,true] [pT ho,pT h0,pT h1,pT h2,pT h3] (by kernel_rfl)
theorem on_2(ax ay bx by' cx cy px py:Int)(ho:(Ed.mk 2 ax ay bx by' cx cy).ok=true):Fok Tryz.prog 147 [edV ⟨2,ax,ay,bx,by',cx,cy⟩ 3 c26,ptV px py c26] (.one (blV (onE ⟨2,ax,ay,bx,by',cx,cy⟩ px py))):=by
 have E:onE ⟨2,ax,ay,bx,by',cx,cy⟩ px py=(inB (min ax bx) (min ay by') (max ax bx) (max ay by') px py&&(powerI (px-cx) (py-cy) (ax-cx) (ay-cy)==0)):=by unfold onE;rw[ho];rfl
 rw[E]
 unfold inB
 cases h0:decide (min ax bx<=px) with
 | false=>exact fok [cOfE,cSide] [true,false] [pT ho,pF h0] (by kernel_rfl)
 | true =>
  cases h1:decide (px<=max ax bx) with
  | false=>exact fok [cOfE,cSide] [true,true,false] [pT ho,pT h0,pF h1] (by kernel_rfl)
  | true =>
   cases h2:decide (min ay by'<=py) with
   | false=>exact fok [cOfE,cSide] [true,true,true,false] [pT ho,pT h0,pT h1,pF h2] (by kernel_rfl)
   | true =>
    cases h3:decide (py<=max ay by') with
    | false=>exact fok [cOfE,cSide] [true,true,true,true,false] [pT ho,pT h0,pT h1,pT h2,pF h3] (by kernel_rfl)
    | true =>
     exact fok [cOfE,cSide] [true,true,true,true,true] [pT ho,pT h0,pT h1,pT h2,pT h3] (by kernel_rfl)
theorem on_3(ax ay bx by' cx cy px py:Int)(ho:(Ed.mk 3 ax ay bx by' cx cy).ok=true):Fok Tryz.prog 147 [edV ⟨3,ax,ay,bx,by',cx,cy⟩ 3 c26,ptV px py c26] (.one (blV (onE ⟨3,ax,ay,bx,by',cx,cy⟩ px py))):=by
 have E:onE ⟨3,ax,ay,bx,by',cx,cy⟩ px py=(inB (min ax bx) (min ay by') (max ax bx) (max ay by') px py&&(powerI (px-cx) (py-cy) (ax-cx) (ay-cy)==0)):=by unfold onE;rw[ho];rfl
 rw[E]
 unfold inB
 cases h0:decide (min ax bx<=px) with
 | false=>exact fok [cOfE,cSide] [true,false] [pT ho,pF h0] (by kernel_rfl)
 | true =>
  cases h1:decide (px<=max ax bx) with
  | false=>exact fok [cOfE,cSide] [true,true,false] [pT ho,pT h0,pF h1] (by kernel_rfl)
  | true =>
   cases h2:decide (min ay by'<=py) with
   | false=>exact fok [cOfE,cSide] [true,true,true,false] [pT ho,pT h0,pT h1,pF h2] (by kernel_rfl)
   | true =>
    cases h3:decide (py<=max ay by') with
    | false=>exact fok [cOfE,cSide] [true,true,true,true,false] [pT ho,pT h0,pT h1,pT h2,pF h3] (by kernel_rfl)
    | true =>
     exact fok [cOfE,cSide] [true,true,true,true,true] [pT ho,pT h0,pT h1,pT h2,pT h3] (by kernel_rfl)
def cOn:Con where
 f:=147
 g:=fun | [⟨true,l⟩,⟨true,[.i x A,.i y B]⟩]=>if A<=c26/\B<=c26 then (toEd l).map fun e=>(.one (blV (onE e x y)),[e.ok=true]) else none|_=>none
 ok:=by
  intro args res ps h hp
  split at h<;>try cases h
  rename_i l x A y B
  split at h<;>try cases h
  rename_i hb
  cases he:toEd l with
  | none=>simp[he] at h
  | some e =>
   simp only[he,Option.map_some,Option.some.injEq,Prod.mk.injEq] at h
   obtain⟨rfl,rfl⟩:=h
   have ho:=hp.1
   refine Fok.pre ?_ fun W=>rvs_1 (ed_ok he ho) (rvs_1 (pt_c26 hb.1 hb.2) rvs_0)
   obtain⟨k,ax,ay,bx,by',cx,cy⟩:=e
   rcases kind_of ho with h|h|h
   ·obtain rfl : k = 1 := h
    exact on_1 ax ay bx by' cx cy x y ho
   ·obtain rfl : k = 2 := h
    exact on_2 ax ay bx by' cx cy x y ho
   ·obtain rfl : k = 3 := h
    exact on_3 ax ay bx by' cx cy x y ho
def KC:List Con:=[cChk,cRad,cOn,cLines,cLineArc,cArcs]
theorem arcsZ_eq(e f:Ed):arcsZ e f=arcsG e.cx e.cy (radZ e) e.ux e.uy e.vx e.vy f.cx f.cy (radZ f) f.ux f.uy f.vx f.vy:=by
 unfold arcsZ arcsG
 by_cases h:e.cx=f.cx/\e.cy=f.cy
 ·rw[if_pos h,if_pos (by simpa using h)]
 ·rw [if_neg h, if_neg (by simpa using h)]
  unfold aaE aaG
  simp only[Int.zero_sub]
theorem pt_eq(e:Ed):e.pt=(e.ax==e.bx&&e.ay==e.by'):=rfl
theorem countE_v{e f:Ed}(h1:e.ok=true)(h2:f.ok=true):countE e f=if e.k=1 then
  if e.pt then onZ f e.ax e.ay
  else if f.k=1 then (if f.pt then onZ e f.ax f.ay else linesZ e.ax e.ay e.bx e.by' f.ax f.ay f.bx f.by')
  else crossZ e f
 else if f.k=1 then (if f.pt then onZ e f.ax f.ay else crossZ f e)
 else arcsZ e f:=by
 unfold countE
 rw[h1,h2]
 rfl
theorem rad_ne{e:Ed}(h:e.ok=true)(hk:¬e.k=1):radZ e≠0:=by have:=rad_pos h hk;omega
theorem neq_F{a b:Int}(h:a=b):(a != b)=false:=by simpa using h
theorem count_arc_arc(e f:Ed)(h1:e.ok=true)(h2:f.ok=true)(ke:¬e.k=1)(kf:¬f.k=1):Fok Tryz.prog 91 [edV e 3 c26,edV f 3 c26] (.one (inV (countE e f) lim)):=by
 rw[show countE e f=arcsZ e f by rw[countE_v h1 h2];simp only[if_neg ke,if_neg kf]]
 rw[arcsZ_eq]
 exact fok KC [false,false,true,true] [pF (chk_F h1),pF (chk_F h2),pT (ne_T ke),pP h1,pP (rad_ne h1 ke),pP (rad_ne h1 ke),pP (rad_ne h1 ke),pP (rad_ne h1 ke),pT (ne_T kf),pP h2,pP (rad_ne h2 kf),pP (rad_ne h2 kf),pP (rad_ne h2 kf),pP (rad_ne h2 kf)] (by kernel_rfl)
theorem count_arc_pt(e f:Ed)(h1:e.ok=true)(h2:f.ok=true)(ke:¬e.k=1)(kf:f.k=1)(pf:(f.ax==f.bx&&f.ay==f.by')=true):Fok Tryz.prog 91 [edV e 3 c26,edV f 3 c26] (.one (inV (countE e f) lim)):=by
 rw[show countE e f=onZ e f.ax f.ay by rw[countE_v h1 h2];simp only[if_neg ke,if_pos kf,pt_eq f,pf,if_true]]
 unfold onZ
 cases ho:onE e f.ax f.ay with
 | true=>exact fok KC [false,false,true,false,true,true] [pF (chk_F h1),pF (chk_F h2),pT (ne_T ke),pP h1,pP (rad_ne h1 ke),pP (rad_ne h1 ke),pP (rad_ne h1 ke),pP (rad_ne h1 ke),pF (neq_F kf),pT pf,pP h1,pT ho] (by kernel_rfl)
 | false=>exact fok KC [false,false,true,false,true,false] [pF (chk_F h1),pF (chk_F h2),pT (ne_T ke),pP h1,pP (rad_ne h1 ke),pP (rad_ne h1 ke),pP (rad_ne h1 ke),pP (rad_ne h1 ke),pF (neq_F kf),pT pf,pP h1,pF ho] (by kernel_rfl)
theorem count_arc_line(e f:Ed)(h1:e.ok=true)(h2:f.ok=true)(ke:¬e.k=1)(kf:f.k=1)(pf:(f.ax==f.bx&&f.ay==f.by')=false):Fok Tryz.prog 91 [edV e 3 c26,edV f 3 c26] (.one (inV (countE e f) lim)):=by
 rw[show countE e f=crossZ f e by rw[countE_v h1 h2];simp only[if_neg ke,if_pos kf,pt_eq f,pf,Bool.false_eq_true,if_false]]
 exact fok KC [false,false,true,false,false] [pF (chk_F h1),pF (chk_F h2),pT (ne_T ke),pP h1,pP (rad_ne h1 ke),pP (rad_ne h1 ke),pP (rad_ne h1 ke),pP (rad_ne h1 ke),pF (neq_F kf),pF pf] (by kernel_rfl)
theorem count_pt_arc(e f:Ed)(h1:e.ok=true)(h2:f.ok=true)(ke:e.k=1)(pe:(e.ax==e.bx&&e.ay==e.by')=true)(kf:¬f.k=1):Fok Tryz.prog 91 [edV e 3 c26,edV f 3 c26] (.one (inV (countE e f) lim)):=by
 rw[show countE e f=onZ f e.ax e.ay by rw[countE_v h1 h2];simp only[if_pos ke,pt_eq e,pe,if_true]]
 unfold onZ
 cases ho:onE f e.ax e.ay with
 | true=>exact fok KC [false,false,false,true,true,true] [pF (chk_F h1),pF (chk_F h2),pF (neq_F ke),pT pe,pT (ne_T kf),pP h2,pP (rad_ne h2 kf),pP (rad_ne h2 kf),pP (rad_ne h2 kf),pP (rad_ne h2 kf),pP h2,pT ho] (by kernel_rfl)
 | false=>exact fok KC [false,false,false,true,true,false] [pF (chk_F h1),pF (chk_F h2),pF (neq_F ke),pT pe,pT (ne_T kf),pP h2,pP (rad_ne h2 kf),pP (rad_ne h2 kf),pP (rad_ne h2 kf),pP (rad_ne h2 kf),pP h2,pF ho] (by kernel_rfl)
theorem count_pt_pt(e f:Ed)(h1:e.ok=true)(h2:f.ok=true)(ke:e.k=1)(pe:(e.ax==e.bx&&e.ay==e.by')=true)(kf:f.k=1)(pf:(f.ax==f.bx&&f.ay==f.by')=true):Fok Tryz.prog 91 [edV e 3 c26,edV f 3 c26] (.one (inV (countE e f) lim)):=by
 rw[show countE e f=onZ f e.ax e.ay by rw[countE_v h1 h2];simp only[if_pos ke,pt_eq e,pe,if_true]]
 unfold onZ
 cases ho:onE f e.ax e.ay with
 | true=>exact fok KC [false,false,false,true,false,true,true] [pF (chk_F h1),pF (chk_F h2),pF (neq_F ke),pT pe,pF (neq_F kf),pT pf,pP h2,pT ho] (by kernel_rfl)
 | false=>exact fok KC [false,false,false,true,false,true,false] [pF (chk_F h1),pF (chk_F h2),pF (neq_F ke),pT pe,pF (neq_F kf),pT pf,pP h2,pF ho] (by kernel_rfl)
theorem count_pt_line(e f:Ed)(h1:e.ok=true)(h2:f.ok=true)(ke:e.k=1)(pe:(e.ax==e.bx&&e.ay==e.by')=true)(kf:f.k=1)(pf:(f.ax==f.bx&&f.ay==f.by')=false):Fok Tryz.prog 91 [edV e 3 c26,edV f 3 c26] (.one (inV (countE e f) lim)):=by
 rw[show countE e f=onZ f e.ax e.ay by rw[countE_v h1 h2];simp only[if_pos ke,pt_eq e,pe,if_true]]
 unfold onZ
 cases ho:onE f e.ax e.ay with
 | true=>exact fok KC [false,false,false,true,false,false,true] [pF (chk_F h1),pF (chk_F h2),pF (neq_F ke),pT pe,pF (neq_F kf),pF pf,pP h2,pT ho] (by kernel_rfl)
 | false=>exact fok KC [false,false,false,true,false,false,false] [pF (chk_F h1),pF (chk_F h2),pF (neq_F ke),pT pe,pF (neq_F kf),pF pf,pP h2,pF ho] (by kernel_rfl)
theorem count_line_arc(e f:Ed)(h1:e.ok=true)(h2:f.ok=true)(ke:e.k=1)(pe:(e.ax==e.bx&&e.ay==e.by')=false)(kf:¬f.k=1):Fok Tryz.prog 91 [edV e 3 c26,edV f 3 c26] (.one (inV (countE e f) lim)):=by
 rw[show countE e f=crossZ e f by rw[countE_v h1 h2];simp only[if_pos ke,pt_eq e,pe,Bool.false_eq_true,if_false,if_neg kf]]
 exact fok KC [false,false,false,false,true] [pF (chk_F h1),pF (chk_F h2),pF (neq_F ke),pF pe,pT (ne_T kf),pP h2,pP (rad_ne h2 kf),pP (rad_ne h2 kf),pP (rad_ne h2 kf),pP (rad_ne h2 kf)] (by kernel_rfl)
theorem count_line_pt(e f:Ed)(h1:e.ok=true)(h2:f.ok=true)(ke:e.k=1)(pe:(e.ax==e.bx&&e.ay==e.by')=false)(kf:f.k=1)(pf:(f.ax==f.bx&&f.ay==f.by')=true):Fok Tryz.prog 91 [edV e 3 c26,edV f 3 c26] (.one (inV (countE e f) lim)):=by
 rw[show countE e f=onZ e f.ax f.ay by rw[countE_v h1 h2];simp only[if_pos ke,pt_eq e,pe,Bool.false_eq_true,if_false,if_pos kf,pt_eq f,pf,if_true]]
 unfold onZ
 cases ho:onE e f.ax f.ay with
 | true=>exact fok KC [false,false,false,false,false,true,true] [pF (chk_F h1),pF (chk_F h2),pF (neq_F ke),pF pe,pF (neq_F kf),pT pf,pP h1,pT ho] (by kernel_rfl)
 | false=>exact fok KC [false,false,false,false,false,true,false] [pF (chk_F h1),pF (chk_F h2),pF (neq_F ke),pF pe,pF (neq_F kf),pT pf,pP h1,pF ho] (by kernel_rfl)
theorem count_line_line(e f:Ed)(h1:e.ok=true)(h2:f.ok=true)(ke:e.k=1)(pe:(e.ax==e.bx&&e.ay==e.by')=false)(kf:f.k=1)(pf:(f.ax==f.bx&&f.ay==f.by')=false):Fok Tryz.prog 91 [edV e 3 c26,edV f 3 c26] (.one (inV (countE e f) lim)):=by
 rw[show countE e f=linesZ e.ax e.ay e.bx e.by' f.ax f.ay f.bx f.by' by rw[countE_v h1 h2];simp only[if_pos ke,pt_eq e,pe,Bool.false_eq_true,if_false,if_pos kf,pt_eq f,pf]]
 exact fok KC [false,false,false,false,false,false] [pF (chk_F h1),pF (chk_F h2),pF (neq_F ke),pF pe,pF (neq_F kf),pF pf] (by kernel_rfl)
theorem count_no(e f:Ed)(h:(e.ok&&f.ok)=false):Fok Tryz.prog 91 [edV e lim lim,edV f lim lim] (.one (inV (countE e f) lim)):=by
 rw[show countE e f=0 by unfold countE;rw[h];rfl]
 cases h1:e.ok with
 | false=>exact fok KC [true] [pT (chk_T h1)] (by kernel_rfl)
 | true =>
  rw[h1,Bool.true_and] at h
  exact fok KC [false,true] [pF (chk_F h1),pT (chk_T h)] (by kernel_rfl)
theorem count_ok(e f:Ed)(h1:e.ok=true)(h2:f.ok=true):Fok Tryz.prog 91 [edV e 3 c26,edV f 3 c26] (.one (inV (countE e f) lim)):=by
 by_cases ke:e.k=1
 ·cases pe : (e.ax == e.bx && e.ay == e.by') with
  | true =>
   by_cases kf:f.k=1
   ·cases pf : (f.ax == f.bx && f.ay == f.by') with
    | true=>exact count_pt_pt e f h1 h2 ke pe kf pf
    | false=>exact count_pt_line e f h1 h2 ke pe kf pf
   ·exact count_pt_arc e f h1 h2 ke pe kf
  | false =>
   by_cases kf:f.k=1
   ·cases pf : (f.ax == f.bx && f.ay == f.by') with
    | true=>exact count_line_pt e f h1 h2 ke pe kf pf
    | false=>exact count_line_line e f h1 h2 ke pe kf pf
   ·exact count_line_arc e f h1 h2 ke pe kf
 ·by_cases kf : f.k = 1
  ·cases pf : (f.ax == f.bx && f.ay == f.by') with
   | true=>exact count_arc_pt e f h1 h2 ke kf pf
   | false=>exact count_arc_line e f h1 h2 ke kf pf
  ·exact count_arc_arc e f h1 h2 ke kf
theorem countE_bd(e f:Ed):(countE e f).natAbs<=4:=by
 cases h:(e.ok&&f.ok) with
 | false=>rw[show countE e f=0 by unfold countE;rw[h];rfl];decide
 | true =>
  simp only[Bool.and_eq_true] at h
  have b1:=onZ_bd e f.ax f.ay
  have b2:=onZ_bd f e.ax e.ay
  have b3:=linesZ_bd e.ax e.ay e.bx e.by' f.ax f.ay f.bx f.by'
  have b4:=countZ_bd (laE e f).delta (laE e f).list
  have b5:=countZ_bd (laE f e).delta (laE f e).list
  have b6 : -1<=arcsZ e f/\arcsZ e f<=4:=by
   unfold arcsZ
   split
   ·exact sameZ_bd _ _ _ _ _
   ·have:=countZ_bd (aaE e f).delta (aaE e f).list;omega
  rw[countE_v h.1 h.2]
  unfold crossZ
  (repeat' split)<;>omega
def cCountE:Con where
 f:=91
 g:=fun | [⟨true,l⟩,⟨true,m⟩]=>(match toEd l,toEd m with|some e,some f=>some (.one (inV (countE e f) 4),[])|_,_=>none)|_=>none
 ok:=by
  intro args res ps h hp
  split at h<;>try cases h
  split at h<;>cases h
  rename_i e f he hf
  cases h:(e.ok&&f.ok) with
  | false=>exact ((count_no e f h).bd (countE_bd e f)).pre fun W=>rvs_1 (ed_lim he) (rvs_1 (ed_lim hf) rvs_0)
  | true =>
   simp only[Bool.and_eq_true] at h
   exact ((count_ok e f h.1 h.2).bd (countE_bd e f)).pre fun W=>rvs_1 (ed_ok he h.1) (rvs_1 (ed_ok hf h.2) rvs_0)
theorem meetEdges_ok(e f:Ed):Fok Tryz.prog 50 [edV e lim lim,edV f lim lim] (.one (blV (countE e f != 0))):=fok [cCountE] [] [] (by kernel_rfl)
def cMeet:Con where
 f:=50
 g:=fun | [⟨true,l⟩,⟨true,m⟩]=>(match toEd l,toEd m with|some e,some f=>some (.one (blV (!(countE e f==0))),[])|_,_=>none)|_=>none
 ok:=by
  intro args res ps h hp
  split at h<;>try cases h
  split at h<;>cases h
  rename_i e f he hf
  exact (meetEdges_ok e f).pre fun W=>rvs_1 (ed_lim he) (rvs_1 (ed_lim hf) rvs_0)
end

set_option maxRecDepth 100000
section
def d05Right:Con where
 f:=175
 g:=fun | [⟨true,[.i x _,.i y _]⟩]=>some (.one (blV (coordB x y)),[])|_=>none
 ok:=by
  intro args res ps h _
  split at h<;>cases h
  intro W vals hv
  simp only[rvs_cons,rvs_nil,rv_t,rl_i,rl_nil] at hv
  obtain⟨_,⟨_,⟨_,_,rfl,_,_,rfl,rfl⟩,rfl⟩,_,rfl,rfl⟩:=hv
  exact (r05_Right _ _ W).mono fun _ _ h=>gv_bl h
theorem nok{e:Ed}(h:¬(e.k=1\/e.k=2\/e.k=3)):e.ok=false:=by
 cases ho:e.ok with
 | false=>rfl
 | true=>exact absurd (kind_of ho) h
theorem lt_T{a b:Int}(h:a<b):decide (a<b)=true:=by simpa using h
theorem lt_F{a b:Int}(h:¬a<b):decide (a<b)=false:=by simpa using h
theorem beq_ne{a b c d:Int}{x:Bool}(h:(a==c&&b==d)=x):(!eqZ [.i a,.i b] [.i c,.i d])=!x:=by rw[<- h];rfl
theorem chk_b{e:Ed}{b:Bool}(hA:coordB e.ax e.ay=true)(hB:coordB e.bx e.by'=true)(hC:coordB e.cx e.cy=true)(h:e.ok=b):checkZ e=cond b 0 11:=by
 cases b with
 | true=>exact checkZ_z h
 | false=>exact checkZ_11c h hA hB hC
def K6:List Con:=[d05Right]
theorem dchk_2(e:Ed)(hk:e.k=2)(hA:coordB e.ax e.ay=true)(hB:coordB e.bx e.by'=true)(hC:coordB e.cx e.cy=true)(k0:decide (e.k<1)=false)(k9:decide (e.k>3)=false):Fok Tryz.prog 129 [edV e lim c26] (.one (inV (checkZ e) lim)):=by
 have k1:(e.k==1)=false:=by simp[hk]
 have k3:(e.k==3)=false:=by simp[hk]
 have E:e.ok=((!((e.ax-e.cx==0)==(e.ay-e.cy==0)))&&(e.bx-e.cx==0-(e.ay-e.cy)&&e.by'-e.cy==e.ax-e.cx)):=by
  simp[Ed.ok,Ed.right,Ed.quarter,quarterB,rot,hA,hB,hC,hk,bne]
 cases hq:((e.ax-e.cx==0)==(e.ay-e.cy==0)) with
 | true =>
  rw[chk_b hA hB hC (b:=false) (by rw[E,hq];rfl)]
  exact fok K6 [false,false,false,false,false,false,false,true] [pF k0,pF k9,pF (not_F hA),pF (not_F hB),pF (not_F hC),pF k1,pF k3,pT hq] (by kernel_rfl)
 | false =>
  cases hz:(e.bx-e.cx==0-(e.ay-e.cy)&&e.by'-e.cy==e.ax-e.cx) with
  | true =>
   rw[chk_b hA hB hC (b:=true) (by rw[E,hq,hz];rfl)]
   exact fok K6 [false,false,false,false,false,false,false,false,false] [pF k0,pF k9,pF (not_F hA),pF (not_F hB),pF (not_F hC),pF k1,pF k3,pF hq,pF (beq_ne hz)] (by kernel_rfl)
  | false =>
   rw[chk_b hA hB hC (b:=false) (by rw[E,hq,hz];rfl)]
   exact fok K6 [false,false,false,false,false,false,false,false,true] [pF k0,pF k9,pF (not_F hA),pF (not_F hB),pF (not_F hC),pF k1,pF k3,pF hq,pT (beq_ne hz)] (by kernel_rfl)
theorem dchk_3(e:Ed)(hk:e.k=3)(hA:coordB e.ax e.ay=true)(hB:coordB e.bx e.by'=true)(hC:coordB e.cx e.cy=true)(k0:decide (e.k<1)=false)(k9:decide (e.k>3)=false):Fok Tryz.prog 129 [edV e lim c26] (.one (inV (checkZ e) lim)):=by
 have k1:(e.k==1)=false:=by simp[hk]
 have k3:(e.k==3)=true:=by simp[hk]
 have E:e.ok=((!((e.ax-e.cx==0)==(e.ay-e.cy==0)))&&(e.bx-e.cx==e.ay-e.cy&&e.by'-e.cy==0-(e.ax-e.cx))):=by
  simp[Ed.ok,Ed.right,Ed.quarter,quarterB,rot,hA,hB,hC,hk,bne]
 cases hq:((e.ax-e.cx==0)==(e.ay-e.cy==0)) with
 | true =>
  rw[chk_b hA hB hC (b:=false) (by rw[E,hq];rfl)]
  exact fok K6 [false,false,false,false,false,false,true,true] [pF k0,pF k9,pF (not_F hA),pF (not_F hB),pF (not_F hC),pF k1,pT k3,pT hq] (by kernel_rfl)
 | false =>
  cases hz:(e.bx-e.cx==e.ay-e.cy&&e.by'-e.cy==0-(e.ax-e.cx)) with
  | true =>
   rw[chk_b hA hB hC (b:=true) (by rw[E,hq,hz];rfl)]
   exact fok K6 [false,false,false,false,false,false,true,false,false] [pF k0,pF k9,pF (not_F hA),pF (not_F hB),pF (not_F hC),pF k1,pT k3,pF hq,pF (beq_ne hz)] (by kernel_rfl)
  | false =>
   rw[chk_b hA hB hC (b:=false) (by rw[E,hq,hz];rfl)]
   exact fok K6 [false,false,false,false,false,false,true,false,true] [pF k0,pF k9,pF (not_F hA),pF (not_F hB),pF (not_F hC),pF k1,pT k3,pF hq,pT (beq_ne hz)] (by kernel_rfl)
theorem dchk_1(e:Ed)(hk:e.k=1)(hA:coordB e.ax e.ay=true)(hB:coordB e.bx e.by'=true)(hC:coordB e.cx e.cy=true)(k0:decide (e.k<1)=false)(k9:decide (e.k>3)=false):Fok Tryz.prog 129 [edV e lim c26] (.one (inV (checkZ e) lim)):=by
 have k1:(e.k==1)=true:=by simp[hk]
 have E:e.ok=(e.cx==0&&e.cy==0):=by simp[Ed.ok,Ed.right,Ed.lone,hA,hB,hC,hk]
 cases hz:(e.cx==0&&e.cy==0) with
 | true =>
  rw[chk_b hA hB hC (b:=true) (by rw[E,hz])]
  exact fok K6 [false,false,false,false,false,true,false] [pF k0,pF k9,pF (not_F hA),pF (not_F hB),pF (not_F hC),pT k1,pF (beq_ne hz)] (by kernel_rfl)
 | false =>
  rw[chk_b hA hB hC (b:=false) (by rw[E,hz])]
  exact fok K6 [false,false,false,false,false,true,true] [pF k0,pF k9,pF (not_F hA),pF (not_F hB),pF (not_F hC),pT k1,pT (beq_ne hz)] (by kernel_rfl)
theorem c26_rt{e:Ed}(hA:coordB e.ax e.ay=true)(hB:coordB e.bx e.by'=true)(hC:coordB e.cx e.cy=true)(W:World)(vals:List Value)(hv:RepVs W W (fun _=>0) 0 [edV e lim lim] vals):RepVs W W (fun _=>0) 0 [edV e lim c26] vals :=
 rvs_1 (ed_rt (toEd_V e lim lim) (by simp[Ed.right,hA,hB,hC])) rvs_0 vals hv
theorem dchk_ok(e:Ed):Fok Tryz.prog 129 [edV e lim lim] (.one (inV (checkZ e) lim)):=by
 by_cases h1:e.k<1
 ·rw [checkZ_11a (nok (by omega)) (by omega)]
  exact fok K6 [true] [pT (lt_T h1)] (by kernel_rfl)
 by_cases h3:3<e.k
 ·rw [checkZ_11b (nok (by omega)) (by omega)]
  exact fok K6 [false,true] [pF (lt_F h1),pT (gt_T h3)] (by kernel_rfl)
 have k0:=lt_F h1
 have k9:=gt_F h3
 cases hA:coordB e.ax e.ay with
 | false =>
  rw[checkZ_10 (okA hA) (by omega) (by omega) (.inl hA)]
  exact fok K6 [false,false,true] [pF k0,pF k9,pT (not_T hA)] (by kernel_rfl)
 | true =>
  cases hB:coordB e.bx e.by' with
  | false =>
   rw[checkZ_10 (okB hB) (by omega) (by omega) (.inr (.inl hB))]
   exact fok K6 [false,false,false,true] [pF k0,pF k9,pF (not_F hA),pT (not_T hB)] (by kernel_rfl)
  | true =>
   cases hC:coordB e.cx e.cy with
   | false =>
    rw[checkZ_10 (okC hC) (by omega) (by omega) (.inr (.inr hC))]
    exact fok K6 [false,false,false,false,true] [pF k0,pF k9,pF (not_F hA),pF (not_F hB),pT (not_T hC)] (by kernel_rfl)
   | true =>
    refine Fok.pre ?_ (c26_rt hA hB hC)
    obtain hk|hk|hk:e.k=1\/e.k=2\/e.k=3:=by omega
    ·exact dchk_1 e hk hA hB hC k0 k9
    ·exact dchk_2 e hk hA hB hC k0 k9
    ·exact dchk_3 e hk hA hB hC k0 k9
def d06Chk:Con where
 f:=129
 g:=fun | [⟨true,l⟩]=>(toEd l).map fun e=>(.one (inV (checkZ e) 11),[])|_=>none
 ok:=by
  intro args res ps h _
  split at h<;>try cases h
  rename_i l
  cases he:toEd l with
  | none=>simp[he] at h
  | some e =>
   simp only[he,Option.map_some,Option.some.injEq,Prod.mk.injEq] at h
   obtain⟨rfl,rfl⟩:=h
   exact ((dchk_ok e).bd (checkZ_64 e).1).pre fun W=>rvs_1 (ed_lim he) rvs_0
theorem radZ_two{e:Ed}(h:e.ok=true)(hk:(e.k==1)=false):radZ e=max (e.ax-e.cx) (0-(e.ax-e.cx))+max (e.ay-e.cy) (0-(e.ay-e.cy)):=by
 rw[radZ_arc h hk]
 have hk':¬e.k=1:=by simpa using hk
 have hq:((e.ax-e.cx==0) != (e.ay-e.cy==0))=true:=by
  simp only[Ed.ok,Bool.and_eq_true,if_neg hk'] at h
  have h2:=h.2
  split at h2
  ·simp only[Ed.quarter,quarterB,Bool.and_eq_true] at h2;exact h2.1
  ·split at h2
   ·simp only[Ed.quarter,quarterB,Bool.and_eq_true] at h2;exact h2.1
   ·cases h2
 by_cases h1:e.ax-e.cx=0
 ·omega
 ·by_cases h2 : e.ay - e.cy = 0
  ·omega
  ·exfalso
   rw[beq_false_of_ne h1,beq_false_of_ne h2] at hq
   cases hq
theorem drad_ok(e:Ed)(ho:e.ok=true):Fok Tryz.prog 221 [edV e 3 c26] (.one (inV (radZ e) lim)):=by
 cases hk:(e.k==1) with
 | true =>
  rw[radZ_line (by simpa using hk)]
  exact fok [d06Chk] [true] [pT hk] (by kernel_rfl)
 | false =>
  rw[radZ_two ho hk]
  exact fok [d06Chk] [false,false] [pF hk,pF (chk_F ho)] (by kernel_rfl)
def d06Rad:Con where
 f:=221
 g:=fun | [⟨true,l⟩]=>(toEd l).map fun e=>(.one (inV (radZ e) 134217728),[e.ok=true])|_=>none
 ok:=by
  intro args res ps h hp
  split at h<;>try cases h
  rename_i l
  cases he:toEd l with
  | none=>simp[he] at h
  | some e =>
   simp only[he,Option.map_some,Option.some.injEq,Prod.mk.injEq] at h
   obtain⟨rfl,rfl⟩:=h
   exact ((drad_ok e hp.1).bd (rad_b hp.1).1).pre fun W=>rvs_1 (ed_ok he hp.1) rvs_0
end
end Go.Proofs.YtceemiodpccbhaaGreat
