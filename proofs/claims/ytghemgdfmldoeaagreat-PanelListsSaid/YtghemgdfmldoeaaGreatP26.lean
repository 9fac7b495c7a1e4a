import Derived.Test.YtghemgdfmldoeaaGreatP25
set_option linter.unusedVariables false
set_option linter.unusedSimpArgs false
namespace Go.Proofs.YtghemgdfmldoeaaGreat
open Go.RowKit
set_option maxRecDepth 100000
section
def kA(a b:aI):Bool:=a.c==b.c&&iE a.s b.s
def lC(a b:cA):Bool:=a.f==b.f&&(a.t==b.t&&(a.p==b.p&&iE a.s b.s))
def iD{α:Type}(eq:α->α->Bool)(n m:Nat)(F G:Nat->α):Bool:=decide (n=m)&&eh (λi=>eq (F i) (G i)) n
def rH(L M:V1)(j:Nat):Ds:=⟨[(5,.le (aj (j:Int) 2000)),(0,.eq L),(1,.eq M)],[]⟩
def uW:List ah:=[YA]
def iT{n m j:Nat}(hn:j<n)(hm:j<m):List Pf:=[pP (show 0<=(j:Int)/\(j:Int)<(n:Int) by omega),pP (show 0<=(j:Int)/\(j:Int)<(m:Int) by omega)]
theorem MQ{a b:Bool}(h:(a==b)=false):(!(a==b))=true:=by rw[h];rfl
theorem A7{a b:Bool}(h:(a==b)=true):(!(a==b))=false:=by rw[h];rfl
section
variable (n m:Nat)
section
variable (F G:Nat->aI)
def rR:FuncId:=16
abbrev bP(n:Nat)(F:Nat->aI):V1:=cN 4 aS n F
theorem a5M(hn:n<=1000)(hs:∀i,i<n->(F i).s.n<=1000):ae Tryz.prog rR [bP n F,bP m G] (.one (aN (iD kA n m F G))):=by
 by_cases h1:n=m;rotate_left
 ·exact ae.bb (show iD kA n m F G=false by simp[iD,h1]) (ad [] [true] [pT (o8 (a:=n) (b:=m) (by omega))] (by kernel_rfl))
 subst h1;have hb:iD kA n n F G=eh (λi=>kA (F i) (G i)) n:=by simp[iD]
 have R:∀k,k<n->kA (F k) (G k)=true->Rnd [] uW rR 8 [] (nF rR) (rH (bP n F) (bP n G) k) (rH (bP n F) (bP n G) (k+1)) .nm:=λk hk h=>by
  unfold kA at h;rw[Bool.and_eq_true] at h;exact⟨[true,false,false],[pT (aZ (show (k:Int)<(n:Int) by omega))]++iT hk hk++[pF (A7 h.1)]++iT hk hk++[pP (hs k hk),bN (F k).s,bN (G k).s,pF (show (!iE (F k).s (G k).s)=false by rw[h.2];rfl),pI k (by omega),pR (bP n F),pR (bP n G)],by kernel_rfl⟩
 have B:=λ(e:Ex) (d1:Ds) (m:Nat) (hm:m<=n) hr he hne=>bW (X:=[]) (K:=uW) (f:=rR) (id:=8) (n:=nF rR) m (rH (bP n F) (bP n G)) (λ_=>[]) (e:=e) (d1:=d1) (by kernel_rfl) (λ_=>by kernel_rfl) (λ_ _=>LT.nil) hr he hne
 cases h4:eh (λi=>kA (F i) (G i)) n with|true =>
  have o:=B (.ex 0) ⟨[],[]⟩ n (Nat.le_refl _) (λk hk=>R k hk (md.1 h4 k hk)) ⟨[false],[pF (ce (show ¬(n:Int)<(n:Int) by omega))],by kernel_rfl⟩ nofun
  exact ae.bb (by rw[hb,h4]) (cD [] [] _ (LT.cons o LT.nil) [false] [pF (eD (a:=n) (b:=n) rfl),q0,pR (bP n F),pR (bP n G)] (by kernel_rfl))|false =>
  obtain⟨m,hm,k1,k2⟩:=AL h4;have fin:Rnd [] uW rR 8 [] (nF rR) (rH (bP n F) (bP n G) m) ⟨[(4,.eq ⟨false,[.b false]⟩)],[]⟩ .rt:=by
   cases h5:(F m).c==(G m).c with|false=>exact⟨[true,true],[pT (aZ (show (m:Int)<(n:Int) by omega))]++iT hm hm++[pT (MQ h5),pR ⟨false,[.b false]⟩],by kernel_rfl⟩|true =>
    have h6:iE (F m).s (G m).s=false:=by simpa[kA,h5] using k1
    exact⟨[true,false,true],[pT (aZ (show (m:Int)<(n:Int) by omega))]++iT hm hm++[pF (A7 h5)]++iT hm hm++[pP (hs m hm),bN (F m).s,bN (G m).s,pT (show (!iE (F m).s (G m).s)=true by rw[h6];rfl),pR ⟨false,[.b false]⟩],by kernel_rfl⟩
  have o:=B .rt _ m (by omega) (λk hk=>R k (by omega) (k2 k hk)) fin nofun
  exact ae.bb (by rw[hb,h4]) (cD [] [] _ (LT.cons o LT.nil) [false] [pF (eD (a:=n) (b:=n) rfl),q0,pR (bP n F),pR (bP n G)] (by kernel_rfl))
end
section
variable (F G:Nat->cA)
def rS:FuncId:=19
abbrev bR(n:Nat)(F:Nat->cA):V1:=cN 6 aY n F
theorem a54(hn:n<=1000)(hs:∀i,i<n->(F i).s.n<=1000):ae Tryz.prog rS [bR n F,bR m G] (.one (aN (iD lC n m F G))):=by
 by_cases h1:n=m;rotate_left
 ·exact ae.bb (show iD lC n m F G=false by simp[iD,h1]) (ad [] [true] [pT (o8 (a:=n) (b:=m) (by omega))] (by kernel_rfl))
 subst h1;have hb:iD lC n n F G=eh (λi=>lC (F i) (G i)) n:=by simp[iD]
 have R:∀k,k<n->lC (F k) (G k)=true->Rnd [] uW rS 8 [] (nF rS) (rH (bR n F) (bR n G) k) (rH (bR n F) (bR n G) (k+1)) .nm:=λk hk h=>by
  unfold lC at h;simp only[Bool.and_eq_true,beq_iff_eq] at h;exact⟨[true,false,false,false,false],[pT (aZ (show (k:Int)<(n:Int) by omega))]++iT hk hk++[pF (eD h.1)]++iT hk hk++[pF (eD h.2.1)]++iT hk hk++[pF (A7 (a:=(F k).p) (b:=(G k).p) (by simpa using h.2.2.1))]++iT hk hk++[pP (hs k hk),bN (F k).s,bN (G k).s,pF (show (!iE (F k).s (G k).s)=false by rw[h.2.2.2];rfl),pI k (by omega),pR (bR n F),pR (bR n G)],by kernel_rfl⟩
 have B:=λ(e:Ex) (d1:Ds) (m:Nat) (hm:m<=n) hr he hne=>bW (X:=[]) (K:=uW) (f:=rS) (id:=8) (n:=nF rS) m (rH (bR n F) (bR n G)) (λ_=>[]) (e:=e) (d1:=d1) (by kernel_rfl) (λ_=>by kernel_rfl) (λ_ _=>LT.nil) hr he hne
 cases h4:eh (λi=>lC (F i) (G i)) n with|true =>
  have o:=B (.ex 0) ⟨[],[]⟩ n (Nat.le_refl _) (λk hk=>R k hk (md.1 h4 k hk)) ⟨[false],[pF (ce (show ¬(n:Int)<(n:Int) by omega))],by kernel_rfl⟩ nofun
  exact ae.bb (by rw[hb,h4]) (cD [] [] _ (LT.cons o LT.nil) [false] [pF (eD (a:=n) (b:=n) rfl),q0,pR (bR n F),pR (bR n G)] (by kernel_rfl))|false =>
  obtain⟨m,hm,k1,k2⟩:=AL h4;have fin:Rnd [] uW rS 8 [] (nF rS) (rH (bR n F) (bR n G) m) ⟨[(4,.eq ⟨false,[.b false]⟩)],[]⟩ .rt:=by
   by_cases h5:(F m).f=(G m).f;rotate_left
   ·exact⟨[true,true],[pT (aZ (show (m:Int)<(n:Int) by omega))]++iT hm hm++[pT (o8 h5),pR ⟨false,[.b false]⟩],by kernel_rfl⟩
   by_cases h6:(F m).t=(G m).t;rotate_left
   ·exact⟨[true,false,true],[pT (aZ (show (m:Int)<(n:Int) by omega))]++iT hm hm++[pF (eD h5)]++iT hm hm++[pT (o8 h6),pR ⟨false,[.b false]⟩],by kernel_rfl⟩
   cases h7:(F m).p==(G m).p with|false=>exact⟨[true,false,false,true],[pT (aZ (show (m:Int)<(n:Int) by omega))]++iT hm hm++[pF (eD h5)]++iT hm hm++[pF (eD h6)]++iT hm hm++[pT (MQ h7),pR ⟨false,[.b false]⟩],by kernel_rfl⟩|true =>
    have h8:iE (F m).s (G m).s=false:=by simpa[lC,h5,h6,h7] using k1
    exact⟨[true,false,false,false,true],[pT (aZ (show (m:Int)<(n:Int) by omega))]++iT hm hm++[pF (eD h5)]++iT hm hm++[pF (eD h6)]++iT hm hm++[pF (A7 h7)]++iT hm hm++[pP (hs m hm),bN (F m).s,bN (G m).s,pT (show (!iE (F m).s (G m).s)=true by rw[h8];rfl),pR ⟨false,[.b false]⟩],by kernel_rfl⟩
  have o:=B .rt _ m (by omega) (λk hk=>R k (by omega) (k2 k hk)) fin nofun
  exact ae.bb (by rw[hb,h4]) (cD [] [] _ (LT.cons o LT.nil) [false] [pF (eD (a:=n) (b:=n) rfl),q0,pR (bR n F),pR (bR n G)] (by kernel_rfl))
end
end
def NV:ah:=gi tB tB rR (λa b=>.one (aN (iD kA a.1 b.1 a.2 b.2))) (λa _=>[a.1<=1000,∀i,i<a.1->(a.2 i).s.n<=1000]) λa b h=>a5M a.1 b.1 a.2 b.2 h.1 h.2.1
def NW:ah:=gi tC tC rS (λa b=>.one (aN (iD lC a.1 b.1 a.2 b.2))) (λa _=>[a.1<=1000,∀i,i<a.1->(a.2 i).s.n<=1000]) λa b h=>a54 a.1 b.1 a.2 b.2 h.1 h.2.1
end
def eW(ax ay bx by':Int):Ed:=⟨1,ax,ay,bx,by',0,0⟩
def jt(l:List Ed)(i:Nat):Ed:=(l[i]?).getD ⟨0,0,0,0,0,0,0⟩
def cU(k:Int)(l:List Ed)(r:Int):Sh:=⟨k,l.length,jt l,r⟩
def jK(x0 y0 x1 y1:Int):Sh:=cU 2 [eW x0 y0 x1 y0,eW x1 y0 x1 y1,eW x1 y1 x0 y1,eW x0 y1 x0 y0] 0
def fB(x y r:Int):Sh:=cU 1 [eW x y x y] r
def il(px py r t:Int)(right:Bool):Ed :=
 let c:=dO 0 0 t false r 0;let v:=dO 0 0 (if right then 3 else 1) false (px-(px+c.1)) (py-(py+c.2))
 ⟨if right then 3 else 2,px,py,px+c.1+v.1,py+c.2+v.2,px+c.1,py+c.2⟩
def zN(px py r w h:Int):Sh :=
 cU 2 [eW (px+r) py (px+r+w) py,⟨2,px+r+w,py,px+r+w+r,py+r,px+r+w,py+r⟩,
  eW (px+r+w+r) (py+r) (px+r+w+r) (py+r+h),⟨2,px+r+w+r,py+r+h,px+r+w,py+r+h+r,px+r+w,py+r+h⟩,
  eW (px+r+w) (py+r+h+r) (px+r) (py+r+h+r),⟨2,px+r,py+r+h+r,px,py+r+h,px+r,py+r+h⟩,
  eW px (py+r+h) px (py+r),⟨2,px,py+r,px+r,py,px+r,py+r⟩] 0
def wo(L:List Int)(a:Nat):Bool:=decide (nV L (a+2) 2=1)
def eI(L:List Int)(a:Nat)(px py:Int):Ed :=
 if wo L a then il px py (1+nV L (a+3) 9) (nV L (a+4) 4) (decide (nV L (a+5) 2=1))
 else eW px py (max 0 (px+nV L a 21-10)) (max 0 (py+nV L (a+1) 21-10))
def jG(L:List Int)(a:Nat):Nat:=if wo L a then a+6 else a+3
def dK(L:List Int):Nat->Nat->Int->Int->List Ed
 | 0,_,_,_=>[]|n+1,a,px,py=>eI L a px py::dK L n (jG L a) (eI L a px py).bx (eI L a px py).by'
def bS(L:List Int):Sh :=
 let x:=nV L 0 50;let y:=nV L 1 50;if nV L 2 6=0 then jK x y (x+1+nV L 3 20) (y+1+nV L 4 20)
 else if nV L 2 6=1 then zN x y (1+nV L 3 6) (1+nV L 4 9) (1+nV L 5 9)
 else if nV L 2 6=2 then cU 2 [eW x y (x+1+nV L 3 20) (y+nV L 4 9),eW (x+1+nV L 3 20) (y+nV L 4 9) (x+nV L 5 9) (y+10+nV L 6 20),eW (x+nV L 5 9) (y+10+nV L 6 20) x y] 0
 else if nV L 2 6=3 then fB x y (nV L 3 9)
 else cU 1 (dK L (1+nV L 4 3).toNat 5 x y) (nV L 3 6)
set_option maxRecDepth 100000
section
def tN(m:List It)(n:Nat):List Ed:=(List.range n).map λi=>qj ((m.drop (i*7)).take 7)
def Ef(z:AV×List Mb):Option (Int×List Ed×Int) :=
 match z.1 with|.one ⟨true,[i,.sl b n c,k]⟩=>(match asI i,AU (z.2.map some) (.sl b n c),asI k with|some x,some (.fs _ m n c),some y=>if c=7/\(m.all λi=>i.n==1)=true/\((List.range n).all λi=>qz ((m.drop (i*7)).take 7))=true/\((z.2[b]?).any λx=>x.T==tE)=true then some (x.1,tN m n,y.1) else none|_,_,_=>none)|_=>none
theorem a44(m:List It)(n i:Nat)(h:i<n):jt (tN m n) i=qj ((m.drop (i*7)).take 7):=by
 unfold jt tN;simp[h]
theorem a5R{V W:World}{r:Nat->Nat}{cm:Nat->List Value}{z:AV×List Mb}{x:Int×List Ed×Int}{v:Value}(h:Ef z=some x)(hM:RM V r cm (z.2.map some) W)(hv:bT V W r z.2.length z.1 v):au V W (λ_=>0) 0 (bf (cU x.1 x.2.1 x.2.2)) v:=by
 obtain⟨z1,ms⟩:=z;unfold Ef at h;split at h
 ·rename_i i b n c k hz;subst hz;split at h
  ·rename_i x o m n' c' y hx ha hy;split at h
   ·rename_i hc;obtain⟨rfl,c1,c2,c3⟩:=hc;cases h;obtain⟨cs,⟨a0,_,rfl,q0,a1,_,rfl,q1,a2,_,rfl,q2,rfl⟩,h2,h3⟩:=hv;have k1:=Md hM ha (show af V W r (ms.map some).length (.sl b n c) a1 by rw[List.length_map];exact q1);have k0:=vc hx q0;have k2:=vc hy q2;obtain⟨rfl,p0⟩:=k0;obtain⟨rfl,p2⟩:=k2;have ht:td (.fs o m n' 7)=some (n',λi=>(m.drop (i*7)).take 7):=by
     unfold td;simp only[c1,and_self,if_true]
    obtain⟨v',rfl,hro⟩:=KT ht (λi hi=>by rw[List.all_eq_true] at c2;exact c2 i (List.mem_range.2 hi)) k1;have hT:∀g o m c,v'=.slice (some ⟨g,o,none⟩) m c->∀(xs:Array Value) (T:TypeId) (fr:Nat×Nat),W.heap[g]? = some (.cells xs T fr)->T=tE:=by
     intro g o m' c e xs T fr hg;obtain⟨_,q,ys,U,e2,e3,_⟩:=q1;cases hb:ms[b]? with|none=>rw[hb] at c3;cases c3|some y =>
      rw[hb] at c3;have c3:y.T=tE:=by simpa using c3
      have hm:mb (ms.map some) b=some y:=cf.2 (by simp[hb]);have e4:=(hM.blk b y hm).1;subst e;simp only[List.cons.injEq,Value.slice.injEq,Option.some.injEq,Addr.mk.injEq,and_true] at e2;obtain⟨⟨rfl,_⟩,_⟩:=e2;rw[e4] at hg;simp only[Option.some.injEq,Obj.cells.injEq] at hg;rw[<- hg.2.1,c3]
    refine⟨_,⟨[_],_,rfl,⟨rfl,p0⟩,[_],_,rfl,⟨_,rfl,a43 (e:=jt (tN m n')) ?_ hT⟩,[_],[],rfl,⟨rfl,p2⟩,rfl⟩,h2,nofun⟩;have hl:(tN m n').length=n':=by unfold tN;simp
    show fU (aE W) W 7 (tN m n').length _ _;rw[hl];exact D7 (λi hi=>congrArg cV (a44 m n' i hi).symm) hro
   ·cases h
  ·cases h
 ·cases h
theorem dw{f:FuncId}{args:List V1}{k:Int}{l:List Ed}{r:Int}(X:List Eff)(K:List ah)(q:List Bool)(pf:List Pf)(h:((kK Tryz.prog (env X) (tab K) 40 f args q).bind λz=>(Ef z.1).map λy=>(y,z.2))=some ((k,l,r),pf.map Pf.p,[])):ae Tryz.prog f args (.one (bf (cU k l r))):=by
 cases hz:kK Tryz.prog (env X) (tab K) 40 f args q with|none=>rw[hz] at h;cases h|some z =>
  obtain⟨z0,z2,z3⟩:=z;rw[hz] at h;cases hs:Ef z0 with|none=>simp[hs] at h|some y =>
   simp only[Option.bind_some,hs,Option.map_some,Option.some.injEq,Prod.mk.injEq] at h;obtain⟨rfl,rfl,rfl⟩:=h;have hB:=(xO qU EK (G0 X) EW E9 (Ek K) 40).ok f args q _ _ [] hz (ku pf);intro W vals hv;refine (hB W vals hv).mono ?_;rintro e w' ⟨v,r,cm,rfl,hM,hr⟩;refine⟨v,rfl,?_,hM.ext⟩;exact a5R hs hM hr
def qV(e:Ed)(A B:Nat):V1:=⟨true,[.i e.k 3,.i e.ax A,.i e.ay B,.i e.bx (A+64),.i e.by' (B+64),.i e.cx (A+64),.i e.cy (B+64)]⟩
theorem a3T(px py r t:Int)(g:Bool):ae Tryz.prog 104 [ew px py 1000,aj r 16,aj t 16,aN g] (.one (aO (il px py r t g) lim lim)):=by
 unfold il;cases g with|true=>exact ad [Gg] [true] [pT rfl] (by kernel_rfl)|false=>exact ad [Gg] [false] [pF rfl] (by kernel_rfl)
theorem Rm{px py r t:Int}{g:Bool}{A B:Nat}(h1:px.natAbs<=A)(h2:py.natAbs<=B)(h3:r.natAbs<=16):((il px py r t g).k.natAbs<=3/\(il px py r t g).ax.natAbs<=A/\(il px py r t g).ay.natAbs<=B)/\((il px py r t g).bx.natAbs<=A+64/\(il px py r t g).by'.natAbs<=B+64)/\(il px py r t g).cx.natAbs<=A+64/\(il px py r t g).cy.natAbs<=B+64:=by
 obtain⟨u1,u2⟩:=AO (ax:=0) (ay:=0) (n:=t) (x:=r) (y:=0) (m:=false) (A:=0) (B:=0) (D:=16) (E:=0) (by decide) (by decide) h3 (by decide);unfold il;simp only;generalize dO 0 0 t false r 0=c at *;obtain⟨v1,v2⟩:=AO (ax:=0) (ay:=0) (n:=if g then 3 else 1) (x:=px-(px+c.1)) (y:=py-(py+c.2)) (m:=false) (A:=0) (B:=0) (D:=16) (E:=16) (by decide) (by decide) (by omega) (by omega);generalize dO 0 0 (if g then 3 else 1) false (px-(px+c.1)) (py-(py+c.2))=v at *;refine⟨⟨by split<;>decide,h1,h2⟩,⟨by omega,by omega⟩,by omega,by omega⟩
def Yv:ah where
 f:=104
 g:=λ| [⟨true,[.i px A,.i py B]⟩,⟨false,[.i r C]⟩,⟨false,[.i t D]⟩,⟨false,[.v (.bool g)]⟩]=>if (A<=1000/\B<=1000)/\C<=16/\D<=16 then some (.one (qV (il px py r t g) A B),[]) else none|_=>none
 ok:=by
  intro args res ps h hp
  split at h<;>try cases h
  split at h<;>cases h
  rename_i px A py B r C t D g hb
  intro W vals hv
  have hv2:=hv
  simp only[aK,iL,bL,dL,lg,bi,fh] at hv2
  obtain⟨_,⟨_,⟨⟨a1,i1⟩,_,rfl,⟨a2,i2⟩,_,rfl,rfl⟩,rfl⟩,_,rfl,_,⟨⟨a3,i3⟩,rfl⟩,_,rfl,_,⟨⟨a4,i4⟩,rfl⟩,_,rfl,_,⟨ok,rfl⟩,_,rfl,rfl⟩:=hv2
  obtain⟨⟨q1,q2,q3⟩,⟨q4,q5⟩,q6,q7⟩:=Rm (t:=t) (g:=g) a1 a2 (show r.natAbs<=16 by omega)
  refine (a3T px py r t g W _ (aK.2 ⟨_,bL.2 ⟨_,bi.2 ⟨⟨by omega,i1⟩,_,rfl,bi.2 ⟨⟨by omega,i2⟩,_,rfl,rfl⟩⟩,rfl⟩,_,rfl,aK.2 ⟨_,dL.2 ⟨⟨by omega,i3⟩,rfl⟩,_,rfl,aK.2 ⟨_,dL.2 ⟨⟨by omega,i4⟩,rfl⟩,_,rfl,aK.2 ⟨_,lg.2 ⟨ok,rfl⟩,_,rfl,rfl⟩⟩⟩⟩)).mono λe w' ⟨v,e1,h1,h2⟩=>⟨v,e1,?_,h2⟩
  simp only[bT,aO,qV,bL,bi,fh] at h1 ⊢
  obtain⟨cs,⟨⟨_,g1⟩,_,rfl,⟨_,g2⟩,_,rfl,⟨_,g3⟩,_,rfl,⟨_,g4⟩,_,rfl,⟨_,g5⟩,_,rfl,⟨_,g6⟩,_,rfl,⟨_,g7⟩,_,rfl,rfl⟩,e2⟩:=h1
  exact⟨_,⟨⟨q1,g1⟩,_,rfl,⟨q2,g2⟩,_,rfl,⟨q3,g3⟩,_,rfl,⟨q4,g4⟩,_,rfl,⟨q5,g5⟩,_,rfl,⟨q6,g6⟩,_,rfl,⟨q7,g7⟩,_,rfl,rfl⟩,e2⟩
end
set_option maxRecDepth 100000
section
def jd:List ah:=[Yv,Gg]
def S4(px py r w h:Int):Sh :=
 let q:=λ(t x y:Int)=>dO 0 0 t false x y
 let n0:=(px+r+(q 0 w 0).1,py+(q 0 w 0).2);let c0:=(n0.1+(q 0 0 r).1,n0.2+(q 0 0 r).2);let e0:=(c0.1+(q 0 r 0).1,c0.2+(q 0 r 0).2);let n1:=(e0.1+(q 1 h 0).1,e0.2+(q 1 h 0).2);let c1:=(n1.1+(q 1 0 r).1,n1.2+(q 1 0 r).2);let e1:=(c1.1+(q 1 r 0).1,c1.2+(q 1 r 0).2);let n2:=(e1.1+(q 2 w 0).1,e1.2+(q 2 w 0).2);let c2:=(n2.1+(q 2 0 r).1,n2.2+(q 2 0 r).2);let e2:=(c2.1+(q 2 r 0).1,c2.2+(q 2 r 0).2);let n3:=(e2.1+(q 3 h 0).1,e2.2+(q 3 h 0).2);let c3:=(n3.1+(q 3 0 r).1,n3.2+(q 3 0 r).2);let e3:=(c3.1+(q 3 r 0).1,c3.2+(q 3 r 0).2)
 cU 2 [eW (px+r) py n0.1 n0.2,⟨2,n0.1,n0.2,e0.1,e0.2,c0.1,c0.2⟩,eW e0.1 e0.2 n1.1 n1.2,⟨2,n1.1,n1.2,e1.1,e1.2,c1.1,c1.2⟩,
  eW e1.1 e1.2 n2.1 n2.2,⟨2,n2.1,n2.2,e2.1,e2.2,c2.1,c2.2⟩,eW e2.1 e2.2 n3.1 n3.2,⟨2,n3.1,n3.2,e3.1,e3.2,c3.1,c3.2⟩] 0
theorem a40(px py r w h:Int):S4 px py r w h=zN px py r w h:=by
 have m0:am 0 4=0:=by decide
 have m1:am 1 4=1:=by decide
 have m2:am 2 4=2:=by decide
 have m3:am 3 4=3:=by decide
 have ex:∀ {a b c d e f a' b' c' d' e' f':Int},a=a'->b=b'->c=c'->d=d'->e=e'->f=f'->(⟨2,a,b,c,d,e,f⟩:Ed)=⟨2,a',b',c',d',e',f'⟩:=λh1 h2 h3 h4 h5 h6=>by rw[h1,h2,h3,h4,h5,h6]
 have lx:∀ {a b c d a' b' c' d':Int},a=a'->b=b'->c=c'->d=d'->eW a b c d=eW a' b' c' d':=λh1 h2 h3 h4=>by rw[h1,h2,h3,h4]
 unfold S4 zN;simp only[uK m0,uL m1,uM m2,wX m3,Bool.false_eq_true,if_false];refine congrArg (λl=>cU 2 l 0) ?_;refine congr (congrArg List.cons (lx ?_ ?_ ?_ ?_)) (congr (congrArg List.cons (ex ?_ ?_ ?_ ?_ ?_ ?_)) (congr (congrArg List.cons (lx ?_ ?_ ?_ ?_)) (congr (congrArg List.cons (ex ?_ ?_ ?_ ?_ ?_ ?_)) (congr (congrArg List.cons (lx ?_ ?_ ?_ ?_)) (congr (congrArg List.cons (ex ?_ ?_ ?_ ?_ ?_ ?_)) (congr (congrArg List.cons (lx ?_ ?_ ?_ ?_)) (congr (congrArg List.cons (ex ?_ ?_ ?_ ?_ ?_ ?_)) rfl)))))))<;>omega
theorem a1b(L:List Int)(h0:nV L 2 6=0):ae Tryz.prog 40 [⟨false,[.ds L]⟩] (.one (bf (bS L))):=by
 unfold bS;simp only[if_pos h0];exact dw [dZ] jd [true] [pT (dD h0)] (by kernel_rfl)
theorem a1c(L:List Int)(h0:¬nV L 2 6=0)(h1:nV L 2 6=1):ae Tryz.prog 40 [⟨false,[.ds L]⟩] (.one (bf (bS L))):=by
 unfold bS;simp only[if_neg h0,if_pos h1];rw[<- a40];exact dw [dZ] jd [false,true] [pF (aB h0),pT (dD h1)] (by kernel_rfl)
theorem a1d(L:List Int)(h0:¬nV L 2 6=0)(h1:¬nV L 2 6=1)(h2:nV L 2 6=2):ae Tryz.prog 40 [⟨false,[.ds L]⟩] (.one (bf (bS L))):=by
 unfold bS;simp only[if_neg h0,if_neg h1,if_pos h2];exact dw [dZ] jd [false,false,true] [pF (aB h0),pF (aB h1),pT (dD h2)] (by kernel_rfl)
theorem a1e(L:List Int)(h0:¬nV L 2 6=0)(h1:¬nV L 2 6=1)(h2:¬nV L 2 6=2)(h3:nV L 2 6=3):ae Tryz.prog 40 [⟨false,[.ds L]⟩] (.one (bf (bS L))):=by
 unfold bS;simp only[if_neg h0,if_neg h1,if_neg h2,if_pos h3];exact dw [dZ] jd [false,false,false,true] [pF (aB h0),pF (aB h1),pF (aB h2),pT (dD h3)] (by kernel_rfl)
theorem jI{L:List Int}{a:Nat}(h:nV L (a+2) 2=1):wo L a=true:=by unfold wo;simpa using h
theorem jH{L:List Int}{a:Nat}(h:¬nV L (a+2) 2=1):wo L a=false:=by unfold wo;simpa using h
def kr(L:List Int):Prop:=¬nV L 2 6=0/\¬nV L 2 6=1/\¬nV L 2 6=2/\¬nV L 2 6=3
theorem a22(L:List Int)(k:kr L)(hm:nV L 4 3=0)(g0:nV L 7 2=1):ae Tryz.prog 40 [⟨false,[.ds L]⟩] (.one (bf (cU 1 (dK L 1 5 (nV L 0 50) (nV L 1 50)) (nV L 3 6)))):=by
 simp only[dK,eI,jG,Nat.reduceAdd,jI (a:=5) g0,if_true,if_false,Bool.false_eq_true];exact dw [dZ] jd [false,false,false,false,true,true,false] [pF (aB k.1),pF (aB k.2.1),pF (aB k.2.2.1),pF (aB k.2.2.2),pT (decide_eq_true (show (0:Int)<1+nV L 4 3 by omega)),pT (dD g0),pF (decide_eq_false (show ¬(0+1:Int)<1+nV L 4 3 by omega))] (by kernel_rfl)
theorem a21(L:List Int)(k:kr L)(hm:nV L 4 3=0)(g0:¬nV L 7 2=1):ae Tryz.prog 40 [⟨false,[.ds L]⟩] (.one (bf (cU 1 (dK L 1 5 (nV L 0 50) (nV L 1 50)) (nV L 3 6)))):=by
 simp only[dK,eI,jG,Nat.reduceAdd,jH (a:=5) g0,if_true,if_false,Bool.false_eq_true];exact dw [dZ] jd [false,false,false,false,true,false,false] [pF (aB k.1),pF (aB k.2.1),pF (aB k.2.2.1),pF (aB k.2.2.2),pT (decide_eq_true (show (0:Int)<1+nV L 4 3 by omega)),pF (aB g0),pF (decide_eq_false (show ¬(0+1:Int)<1+nV L 4 3 by omega))] (by kernel_rfl)
theorem a26(L:List Int)(k:kr L)(hm:nV L 4 3=1)(g0:nV L 7 2=1)(g1:nV L 13 2=1):ae Tryz.prog 40 [⟨false,[.ds L]⟩] (.one (bf (cU 1 (dK L 2 5 (nV L 0 50) (nV L 1 50)) (nV L 3 6)))):=by
 simp only[dK,eI,jG,Nat.reduceAdd,jI (a:=5) g0,jI (a:=11) g1,if_true,if_false,Bool.false_eq_true];exact dw [dZ] jd [false,false,false,false,true,true,true,true,false] [pF (aB k.1),pF (aB k.2.1),pF (aB k.2.2.1),pF (aB k.2.2.2),pT (decide_eq_true (show (0:Int)<1+nV L 4 3 by omega)),pT (dD g0),pT (decide_eq_true (show (0+1:Int)<1+nV L 4 3 by omega)),pT (dD g1),pF (decide_eq_false (show ¬(0+1+1:Int)<1+nV L 4 3 by omega))] (by kernel_rfl)
theorem a25(L:List Int)(k:kr L)(hm:nV L 4 3=1)(g0:nV L 7 2=1)(g1:¬nV L 13 2=1):ae Tryz.prog 40 [⟨false,[.ds L]⟩] (.one (bf (cU 1 (dK L 2 5 (nV L 0 50) (nV L 1 50)) (nV L 3 6)))):=by
 simp only[dK,eI,jG,Nat.reduceAdd,jI (a:=5) g0,jH (a:=11) g1,if_true,if_false,Bool.false_eq_true];exact dw [dZ] jd [false,false,false,false,true,true,true,false,false] [pF (aB k.1),pF (aB k.2.1),pF (aB k.2.2.1),pF (aB k.2.2.2),pT (decide_eq_true (show (0:Int)<1+nV L 4 3 by omega)),pT (dD g0),pT (decide_eq_true (show (0+1:Int)<1+nV L 4 3 by omega)),pF (aB g1),pF (decide_eq_false (show ¬(0+1+1:Int)<1+nV L 4 3 by omega))] (by kernel_rfl)
theorem a24(L:List Int)(k:kr L)(hm:nV L 4 3=1)(g0:¬nV L 7 2=1)(g1:nV L 10 2=1):ae Tryz.prog 40 [⟨false,[.ds L]⟩] (.one (bf (cU 1 (dK L 2 5 (nV L 0 50) (nV L 1 50)) (nV L 3 6)))):=by
 simp only[dK,eI,jG,Nat.reduceAdd,jH (a:=5) g0,jI (a:=8) g1,if_true,if_false,Bool.false_eq_true];exact dw [dZ] jd [false,false,false,false,true,false,true,true,false] [pF (aB k.1),pF (aB k.2.1),pF (aB k.2.2.1),pF (aB k.2.2.2),pT (decide_eq_true (show (0:Int)<1+nV L 4 3 by omega)),pF (aB g0),pT (decide_eq_true (show (0+1:Int)<1+nV L 4 3 by omega)),pT (dD g1),pF (decide_eq_false (show ¬(0+1+1:Int)<1+nV L 4 3 by omega))] (by kernel_rfl)
theorem a23(L:List Int)(k:kr L)(hm:nV L 4 3=1)(g0:¬nV L 7 2=1)(g1:¬nV L 10 2=1):ae Tryz.prog 40 [⟨false,[.ds L]⟩] (.one (bf (cU 1 (dK L 2 5 (nV L 0 50) (nV L 1 50)) (nV L 3 6)))):=by
 simp only[dK,eI,jG,Nat.reduceAdd,jH (a:=5) g0,jH (a:=8) g1,if_true,if_false,Bool.false_eq_true];exact dw [dZ] jd [false,false,false,false,true,false,true,false,false] [pF (aB k.1),pF (aB k.2.1),pF (aB k.2.2.1),pF (aB k.2.2.2),pT (decide_eq_true (show (0:Int)<1+nV L 4 3 by omega)),pF (aB g0),pT (decide_eq_true (show (0+1:Int)<1+nV L 4 3 by omega)),pF (aB g1),pF (decide_eq_false (show ¬(0+1+1:Int)<1+nV L 4 3 by omega))] (by kernel_rfl)
theorem a3e(L:List Int)(k:kr L)(hm:nV L 4 3=2)(g0:nV L 7 2=1)(g1:nV L 13 2=1)(g2:nV L 19 2=1):ae Tryz.prog 40 [⟨false,[.ds L]⟩] (.one (bf (cU 1 (dK L 3 5 (nV L 0 50) (nV L 1 50)) (nV L 3 6)))):=by
 simp only[dK,eI,jG,Nat.reduceAdd,jI (a:=5) g0,jI (a:=11) g1,jI (a:=17) g2,if_true,if_false,Bool.false_eq_true];exact dw [dZ] jd [false,false,false,false,true,true,true,true,true,true,false] [pF (aB k.1),pF (aB k.2.1),pF (aB k.2.2.1),pF (aB k.2.2.2),pT (decide_eq_true (show (0:Int)<1+nV L 4 3 by omega)),pT (dD g0),pT (decide_eq_true (show (0+1:Int)<1+nV L 4 3 by omega)),pT (dD g1),pT (decide_eq_true (show (0+1+1:Int)<1+nV L 4 3 by omega)),pT (dD g2),pF (decide_eq_false (show ¬(0+1+1+1:Int)<1+nV L 4 3 by omega))] (by kernel_rfl)
theorem a3d(L:List Int)(k:kr L)(hm:nV L 4 3=2)(g0:nV L 7 2=1)(g1:nV L 13 2=1)(g2:¬nV L 19 2=1):ae Tryz.prog 40 [⟨false,[.ds L]⟩] (.one (bf (cU 1 (dK L 3 5 (nV L 0 50) (nV L 1 50)) (nV L 3 6)))):=by
 simp only[dK,eI,jG,Nat.reduceAdd,jI (a:=5) g0,jI (a:=11) g1,jH (a:=17) g2,if_true,if_false,Bool.false_eq_true];exact dw [dZ] jd [false,false,false,false,true,true,true,true,true,false,false] [pF (aB k.1),pF (aB k.2.1),pF (aB k.2.2.1),pF (aB k.2.2.2),pT (decide_eq_true (show (0:Int)<1+nV L 4 3 by omega)),pT (dD g0),pT (decide_eq_true (show (0+1:Int)<1+nV L 4 3 by omega)),pT (dD g1),pT (decide_eq_true (show (0+1+1:Int)<1+nV L 4 3 by omega)),pF (aB g2),pF (decide_eq_false (show ¬(0+1+1+1:Int)<1+nV L 4 3 by omega))] (by kernel_rfl)
theorem a3c(L:List Int)(k:kr L)(hm:nV L 4 3=2)(g0:nV L 7 2=1)(g1:¬nV L 13 2=1)(g2:nV L 16 2=1):ae Tryz.prog 40 [⟨false,[.ds L]⟩] (.one (bf (cU 1 (dK L 3 5 (nV L 0 50) (nV L 1 50)) (nV L 3 6)))):=by
 simp only[dK,eI,jG,Nat.reduceAdd,jI (a:=5) g0,jH (a:=11) g1,jI (a:=14) g2,if_true,if_false,Bool.false_eq_true];exact dw [dZ] jd [false,false,false,false,true,true,true,false,true,true,false] [pF (aB k.1),pF (aB k.2.1),pF (aB k.2.2.1),pF (aB k.2.2.2),pT (decide_eq_true (show (0:Int)<1+nV L 4 3 by omega)),pT (dD g0),pT (decide_eq_true (show (0+1:Int)<1+nV L 4 3 by omega)),pF (aB g1),pT (decide_eq_true (show (0+1+1:Int)<1+nV L 4 3 by omega)),pT (dD g2),pF (decide_eq_false (show ¬(0+1+1+1:Int)<1+nV L 4 3 by omega))] (by kernel_rfl)
theorem a3b(L:List Int)(k:kr L)(hm:nV L 4 3=2)(g0:nV L 7 2=1)(g1:¬nV L 13 2=1)(g2:¬nV L 16 2=1):ae Tryz.prog 40 [⟨false,[.ds L]⟩] (.one (bf (cU 1 (dK L 3 5 (nV L 0 50) (nV L 1 50)) (nV L 3 6)))):=by
 simp only[dK,eI,jG,Nat.reduceAdd,jI (a:=5) g0,jH (a:=11) g1,jH (a:=14) g2,if_true,if_false,Bool.false_eq_true];exact dw [dZ] jd [false,false,false,false,true,true,true,false,true,false,false] [pF (aB k.1),pF (aB k.2.1),pF (aB k.2.2.1),pF (aB k.2.2.2),pT (decide_eq_true (show (0:Int)<1+nV L 4 3 by omega)),pT (dD g0),pT (decide_eq_true (show (0+1:Int)<1+nV L 4 3 by omega)),pF (aB g1),pT (decide_eq_true (show (0+1+1:Int)<1+nV L 4 3 by omega)),pF (aB g2),pF (decide_eq_false (show ¬(0+1+1+1:Int)<1+nV L 4 3 by omega))] (by kernel_rfl)
theorem a3a(L:List Int)(k:kr L)(hm:nV L 4 3=2)(g0:¬nV L 7 2=1)(g1:nV L 10 2=1)(g2:nV L 16 2=1):ae Tryz.prog 40 [⟨false,[.ds L]⟩] (.one (bf (cU 1 (dK L 3 5 (nV L 0 50) (nV L 1 50)) (nV L 3 6)))):=by
 simp only[dK,eI,jG,Nat.reduceAdd,jH (a:=5) g0,jI (a:=8) g1,jI (a:=14) g2,if_true,if_false,Bool.false_eq_true];exact dw [dZ] jd [false,false,false,false,true,false,true,true,true,true,false] [pF (aB k.1),pF (aB k.2.1),pF (aB k.2.2.1),pF (aB k.2.2.2),pT (decide_eq_true (show (0:Int)<1+nV L 4 3 by omega)),pF (aB g0),pT (decide_eq_true (show (0+1:Int)<1+nV L 4 3 by omega)),pT (dD g1),pT (decide_eq_true (show (0+1+1:Int)<1+nV L 4 3 by omega)),pT (dD g2),pF (decide_eq_false (show ¬(0+1+1+1:Int)<1+nV L 4 3 by omega))] (by kernel_rfl)
theorem a29(L:List Int)(k:kr L)(hm:nV L 4 3=2)(g0:¬nV L 7 2=1)(g1:nV L 10 2=1)(g2:¬nV L 16 2=1):ae Tryz.prog 40 [⟨false,[.ds L]⟩] (.one (bf (cU 1 (dK L 3 5 (nV L 0 50) (nV L 1 50)) (nV L 3 6)))):=by
 simp only[dK,eI,jG,Nat.reduceAdd,jH (a:=5) g0,jI (a:=8) g1,jH (a:=14) g2,if_true,if_false,Bool.false_eq_true];exact dw [dZ] jd [false,false,false,false,true,false,true,true,true,false,false] [pF (aB k.1),pF (aB k.2.1),pF (aB k.2.2.1),pF (aB k.2.2.2),pT (decide_eq_true (show (0:Int)<1+nV L 4 3 by omega)),pF (aB g0),pT (decide_eq_true (show (0+1:Int)<1+nV L 4 3 by omega)),pT (dD g1),pT (decide_eq_true (show (0+1+1:Int)<1+nV L 4 3 by omega)),pF (aB g2),pF (decide_eq_false (show ¬(0+1+1+1:Int)<1+nV L 4 3 by omega))] (by kernel_rfl)
theorem a28(L:List Int)(k:kr L)(hm:nV L 4 3=2)(g0:¬nV L 7 2=1)(g1:¬nV L 10 2=1)(g2:nV L 13 2=1):ae Tryz.prog 40 [⟨false,[.ds L]⟩] (.one (bf (cU 1 (dK L 3 5 (nV L 0 50) (nV L 1 50)) (nV L 3 6)))):=by
 simp only[dK,eI,jG,Nat.reduceAdd,jH (a:=5) g0,jH (a:=8) g1,jI (a:=11) g2,if_true,if_false,Bool.false_eq_true];exact dw [dZ] jd [false,false,false,false,true,false,true,false,true,true,false] [pF (aB k.1),pF (aB k.2.1),pF (aB k.2.2.1),pF (aB k.2.2.2),pT (decide_eq_true (show (0:Int)<1+nV L 4 3 by omega)),pF (aB g0),pT (decide_eq_true (show (0+1:Int)<1+nV L 4 3 by omega)),pF (aB g1),pT (decide_eq_true (show (0+1+1:Int)<1+nV L 4 3 by omega)),pT (dD g2),pF (decide_eq_false (show ¬(0+1+1+1:Int)<1+nV L 4 3 by omega))] (by kernel_rfl)
theorem a27(L:List Int)(k:kr L)(hm:nV L 4 3=2)(g0:¬nV L 7 2=1)(g1:¬nV L 10 2=1)(g2:¬nV L 13 2=1):ae Tryz.prog 40 [⟨false,[.ds L]⟩] (.one (bf (cU 1 (dK L 3 5 (nV L 0 50) (nV L 1 50)) (nV L 3 6)))):=by
 simp only[dK,eI,jG,Nat.reduceAdd,jH (a:=5) g0,jH (a:=8) g1,jH (a:=11) g2,if_true,if_false,Bool.false_eq_true];exact dw [dZ] jd [false,false,false,false,true,false,true,false,true,false,false] [pF (aB k.1),pF (aB k.2.1),pF (aB k.2.2.1),pF (aB k.2.2.2),pT (decide_eq_true (show (0:Int)<1+nV L 4 3 by omega)),pF (aB g0),pT (decide_eq_true (show (0+1:Int)<1+nV L 4 3 by omega)),pF (aB g1),pT (decide_eq_true (show (0+1+1:Int)<1+nV L 4 3 by omega)),pF (aB g2),pF (decide_eq_false (show ¬(0+1+1+1:Int)<1+nV L 4 3 by omega))] (by kernel_rfl)
theorem a1f(L:List Int):ae Tryz.prog 40 [⟨false,[.ds L]⟩] (.one (bf (bS L))):=by
 by_cases h0:nV L 2 6=0
 ·exact a1b L h0
 by_cases h1:nV L 2 6=1
 ·exact a1c L h0 h1
 by_cases h2:nV L 2 6=2
 ·exact a1d L h0 h1 h2
 by_cases h3:nV L 2 6=3
 ·exact a1e L h0 h1 h2 h3
 have k:kr L:=⟨h0,h1,h2,h3⟩;have hb:=eG L 4 (m:=3) (by omega);unfold bS;simp only[if_neg h0,if_neg h1,if_neg h2,if_neg h3];obtain hm|hm|hm:nV L 4 3=0\/nV L 4 3=1\/nV L 4 3=2:=by omega
 ·rw [show (1 + nV L 4 3).toNat = 1 by omega];by_cases g0:nV L 7 2=1
  ·exact a22 L k hm g0
  ·exact a21 L k hm g0
 ·rw [show (1 + nV L 4 3).toNat = 2 by omega];by_cases g0:nV L 7 2=1
  ·by_cases g1 : nV L 13 2 = 1
   ·exact a26 L k hm g0 g1
   ·exact a25 L k hm g0 g1
  ·by_cases g1 : nV L 10 2 = 1
   ·exact a24 L k hm g0 g1
   ·exact a23 L k hm g0 g1
 ·rw [show (1 + nV L 4 3).toNat = 3 by omega];by_cases g0:nV L 7 2=1
  ·by_cases g1 : nV L 13 2 = 1
   ·by_cases g2 : nV L 19 2 = 1
    ·exact a3e L k hm g0 g1 g2
    ·exact a3d L k hm g0 g1 g2
   ·by_cases g2 : nV L 16 2 = 1
    ·exact a3c L k hm g0 g1 g2
    ·exact a3b L k hm g0 g1 g2
  ·by_cases g1 : nV L 10 2 = 1
   ·by_cases g2 : nV L 16 2 = 1
    ·exact a3a L k hm g0 g1 g2
    ·exact a29 L k hm g0 g1 g2
   ·by_cases g2 : nV L 13 2 = 1
    ·exact a28 L k hm g0 g1 g2
    ·exact a27 L k hm g0 g1 g2
end
set_option maxRecDepth 100000
section
def NS:gg where
 α:=Ed
 C:=λe=>⟨true,cV e⟩
 d:=fun|⟨true,[.i k _,.i ax _,.i ay _,.i bx _,.i by' _,.i cx _,.i cy _]⟩=>some (⟨k,ax,ay,bx,by',cx,cy⟩,[])|_=>none
 ok:=by
  intro v a ps h hp W x hr;split at h<;>cases h;obtain⟨cs,⟨_,_,rfl,⟨rfl,_,i1⟩,_,_,rfl,⟨rfl,_,i2⟩,_,_,rfl,⟨rfl,_,i3⟩,_,_,rfl,⟨rfl,_,i4⟩,_,_,rfl,⟨rfl,_,i5⟩,_,_,rfl,⟨rfl,_,i6⟩,_,_,rfl,⟨rfl,_,i7⟩,rfl⟩,e,_⟩:=hr;exact⟨_,⟨_,_,rfl,⟨rfl,aQ i1,i1⟩,_,_,rfl,⟨rfl,aQ i2,i2⟩,_,_,rfl,⟨rfl,aQ i3,i3⟩,_,_,rfl,⟨rfl,aQ i4,i4⟩,_,_,rfl,⟨rfl,aQ i5,i5⟩,_,_,rfl,⟨rfl,aQ i6,i6⟩,_,[],rfl,⟨rfl,aQ i7,i7⟩,rfl⟩,e,nofun⟩
def eC(m:bG)(e:Ed):Ed :=
 let a:=gI m (e.ax,e.ay);let b:=gI m (e.bx,e.by');let c:=if e.k=1 then (e.cx,e.cy) else gI m (e.cx,e.cy)
 ⟨e.k,a.1,a.2,b.1,b.2,c.1,c.2⟩
structure rz (e:Ed) (m:bG):Prop where
 mf:m.m=false
 a:ul m (e.ax,e.ay)
 b:ul m (e.bx,e.by')
 c:ul m (e.cx,e.cy)
theorem Yl(e:Ed)(m:bG)(h:rz e m):ae Tryz.prog 118 [⟨true,cV e⟩,⟨true,aX m⟩] (.one ⟨true,cV (eC m e)⟩):=by
 by_cases hk:e.k=1
 ·rw [show eC m e = ⟨e.k, (gI m (e.ax, e.ay)).1, (gI m (e.ax, e.ay)).2, (gI m (e.bx, e.by')).1, (gI m (e.bx, e.by')).2, e.cx, e.cy⟩ by unfold eC; simp only [if_pos hk]];exact ad [NN] [false,false] [pP h.a,pP h.b,pF (eD hk),pF h.mf] (by kernel_rfl)
 ·rw [show eC m e = ⟨e.k, (gI m (e.ax, e.ay)).1, (gI m (e.ax, e.ay)).2, (gI m (e.bx, e.by')).1, (gI m (e.bx, e.by')).2, (gI m (e.cx, e.cy)).1, (gI m (e.cx, e.cy)).2⟩ by unfold eC; simp only [if_neg hk]];exact ad [NN] [true,false] [pP h.a,pP h.b,pT (o8 hk),pP h.c,pF h.mf] (by kernel_rfl)
def Yi:ah:=gi NS oL 118 (λe m=>.one ⟨true,cV (eC m e)⟩) (λe m=>[rz e m]) λe m h=>Yl e m h.1
def xt:List ah:=[Yi]
theorem a3Z(k r:Int)(e:Nat->Ed)(m:bG)(h:∀i,i<1->rz (e i) m):ae Tryz.prog 58 [bh ⟨k,1,e,r⟩,⟨true,aX m⟩] (.one (bf (cU k [eC m (e 0)] r))) :=
 dw [] xt [true,false] [pT (show decide ((0:Int)<((1:Nat):Int))=true by decide),pP (show 0<=(0:Int)/\(0:Int)<((1:Nat):Int) by decide),pP (h 0 (by decide)),pF (show decide ((0:Int)+1<((1:Nat):Int))=false by decide)] (by kernel_rfl)
theorem a30(k r:Int)(e:Nat->Ed)(m:bG)(h:∀i,i<2->rz (e i) m):ae Tryz.prog 58 [bh ⟨k,2,e,r⟩,⟨true,aX m⟩] (.one (bf (cU k [eC m (e 0),eC m (e 1)] r))) :=
 dw [] xt [true,true,false] [pT (show decide ((0:Int)<((2:Nat):Int))=true by decide),pP (show 0<=(0:Int)/\(0:Int)<((2:Nat):Int) by decide),pP (h 0 (by decide)),pT (show decide ((0:Int)+1<((2:Nat):Int))=true by decide),pP (show 0<=(0:Int)+1/\(0:Int)+1<((2:Nat):Int) by decide),pP (h 1 (by decide)),pF (show decide ((0:Int)+1+1<((2:Nat):Int))=false by decide)] (by kernel_rfl)
theorem a31(k r:Int)(e:Nat->Ed)(m:bG)(h:∀i,i<3->rz (e i) m):ae Tryz.prog 58 [bh ⟨k,3,e,r⟩,⟨true,aX m⟩] (.one (bf (cU k [eC m (e 0),eC m (e 1),eC m (e 2)] r))) :=
 dw [] xt [true,true,true,false] [pT (show decide ((0:Int)<((3:Nat):Int))=true by decide),pP (show 0<=(0:Int)/\(0:Int)<((3:Nat):Int) by decide),pP (h 0 (by decide)),pT (show decide ((0:Int)+1<((3:Nat):Int))=true by decide),pP (show 0<=(0:Int)+1/\(0:Int)+1<((3:Nat):Int) by decide),pP (h 1 (by decide)),pT (show decide ((0:Int)+1+1<((3:Nat):Int))=true by decide),pP (show 0<=(0:Int)+1+1/\(0:Int)+1+1<((3:Nat):Int) by decide),pP (h 2 (by decide)),pF (show decide ((0:Int)+1+1+1<((3:Nat):Int))=false by decide)] (by kernel_rfl)
theorem a32(k r:Int)(e:Nat->Ed)(m:bG)(h:∀i,i<4->rz (e i) m):ae Tryz.prog 58 [bh ⟨k,4,e,r⟩,⟨true,aX m⟩] (.one (bf (cU k [eC m (e 0),eC m (e 1),eC m (e 2),eC m (e 3)] r))) :=
 dw [] xt [true,true,true,true,false] [pT (show decide ((0:Int)<((4:Nat):Int))=true by decide),pP (show 0<=(0:Int)/\(0:Int)<((4:Nat):Int) by decide),pP (h 0 (by decide)),pT (show decide ((0:Int)+1<((4:Nat):Int))=true by decide),pP (show 0<=(0:Int)+1/\(0:Int)+1<((4:Nat):Int) by decide),pP (h 1 (by decide)),pT (show decide ((0:Int)+1+1<((4:Nat):Int))=true by decide),pP (show 0<=(0:Int)+1+1/\(0:Int)+1+1<((4:Nat):Int) by decide),pP (h 2 (by decide)),pT (show decide ((0:Int)+1+1+1<((4:Nat):Int))=true by decide),pP (show 0<=(0:Int)+1+1+1/\(0:Int)+1+1+1<((4:Nat):Int) by decide),pP (h 3 (by decide)),pF (show decide ((0:Int)+1+1+1+1<((4:Nat):Int))=false by decide)] (by kernel_rfl)
theorem a33(k r:Int)(e:Nat->Ed)(m:bG)(h:∀i,i<8->rz (e i) m):ae Tryz.prog 58 [bh ⟨k,8,e,r⟩,⟨true,aX m⟩] (.one (bf (cU k [eC m (e 0),eC m (e 1),eC m (e 2),eC m (e 3),eC m (e 4),eC m (e 5),eC m (e 6),eC m (e 7)] r))) :=
 dw [] xt [true,true,true,true,true,true,true,true,false] [pT (show decide ((0:Int)<((8:Nat):Int))=true by decide),pP (show 0<=(0:Int)/\(0:Int)<((8:Nat):Int) by decide),pP (h 0 (by decide)),pT (show decide ((0:Int)+1<((8:Nat):Int))=true by decide),pP (show 0<=(0:Int)+1/\(0:Int)+1<((8:Nat):Int) by decide),pP (h 1 (by decide)),pT (show decide ((0:Int)+1+1<((8:Nat):Int))=true by decide),pP (show 0<=(0:Int)+1+1/\(0:Int)+1+1<((8:Nat):Int) by decide),pP (h 2 (by decide)),pT (show decide ((0:Int)+1+1+1<((8:Nat):Int))=true by decide),pP (show 0<=(0:Int)+1+1+1/\(0:Int)+1+1+1<((8:Nat):Int) by decide),pP (h 3 (by decide)),pT (show decide ((0:Int)+1+1+1+1<((8:Nat):Int))=true by decide),pP (show 0<=(0:Int)+1+1+1+1/\(0:Int)+1+1+1+1<((8:Nat):Int) by decide),pP (h 4 (by decide)),pT (show decide ((0:Int)+1+1+1+1+1<((8:Nat):Int))=true by decide),pP (show 0<=(0:Int)+1+1+1+1+1/\(0:Int)+1+1+1+1+1<((8:Nat):Int) by decide),pP (h 5 (by decide)),pT (show decide ((0:Int)+1+1+1+1+1+1<((8:Nat):Int))=true by decide),pP (show 0<=(0:Int)+1+1+1+1+1+1/\(0:Int)+1+1+1+1+1+1<((8:Nat):Int) by decide),pP (h 6 (by decide)),pT (show decide ((0:Int)+1+1+1+1+1+1+1<((8:Nat):Int))=true by decide),pP (show 0<=(0:Int)+1+1+1+1+1+1+1/\(0:Int)+1+1+1+1+1+1+1<((8:Nat):Int) by decide),pP (h 7 (by decide)),pF (show decide ((0:Int)+1+1+1+1+1+1+1+1<((8:Nat):Int))=false by decide)] (by kernel_rfl)
theorem GN{W:World}{n:Nat}{f g:Nat->List (Int×Nat)}{v:Value}(h:∀i,i<n->f i=g i):lY W n f v->lY W n g v
 | ⟨a,c,e,h1,h2,h3⟩=>⟨a,c,e,h1,h2,λi hi=>by rw[<- h i hi];exact h3 i hi⟩
theorem lj{k r:Int}{n:Nat}{e e':Nat->Ed}(h:∀i,i<n->e i=e' i){V W:World}{x:Value}:bT V W (λ_=>0) 0 (.one (bf ⟨k,n,e,r⟩)) x->bT V W (λ_=>0) 0 (.one (bf ⟨k,n,e',r⟩)) x
 | ⟨cs,⟨c1,_,e1,h1,c2,_,e2,⟨v,e3,h2⟩,h3⟩,h4⟩=>⟨cs,⟨c1,_,e1,h1,c2,_,e2,⟨v,e3,GN (λi hi=>congrArg e7 (h i hi)) h2⟩,h3⟩,h4⟩
def Iy(m:bG)(s:Sh):Sh:=⟨s.k,s.n,λi=>eC m (s.e i),s.r⟩
structure EX (s:Sh) (m:bG):Prop where
 n:s.n=1\/s.n=2\/s.n=3\/s.n=4\/s.n=8
 e:∀i,i<s.n->rz (s.e i) m
theorem a34(s:Sh)(m:bG)(h:EX s m):ae Tryz.prog 58 [bh s,⟨true,aX m⟩] (.one (bf (Iy m s))):=by
 obtain⟨k,n,e,r⟩:=s;obtain⟨hn,he⟩:=h;simp only at hn he;rcases hn with rfl|rfl|rfl|rfl|rfl
 ·refine (a3Z k r e m he).mono λ_ _ _ => lj (k := k) (r := r) (n := 1) (e' := λi => eC m (e i)) λi hi => ?_
  rcases (by omega:i=0) with rfl
  all_goals rfl
 ·refine (a30 k r e m he).mono λ_ _ _ => lj (k := k) (r := r) (n := 2) (e' := λi => eC m (e i)) λi hi => ?_
  rcases (by omega:i=0\/i=1) with rfl|rfl
  all_goals rfl
 ·refine (a31 k r e m he).mono λ_ _ _ => lj (k := k) (r := r) (n := 3) (e' := λi => eC m (e i)) λi hi => ?_
  rcases (by omega:i=0\/i=1\/i=2) with rfl|rfl|rfl
  all_goals rfl
 ·refine (a32 k r e m he).mono λ_ _ _ => lj (k := k) (r := r) (n := 4) (e' := λi => eC m (e i)) λi hi => ?_
  rcases (by omega:i=0\/i=1\/i=2\/i=3) with rfl|rfl|rfl|rfl
  all_goals rfl
 ·refine (a33 k r e m he).mono λ_ _ _ => lj (k := k) (r := r) (n := 8) (e' := λi => eC m (e i)) λi hi => ?_
  rcases (by omega:i=0\/i=1\/i=2\/i=3\/i=4\/i=5\/i=6\/i=7) with rfl|rfl|rfl|rfl|rfl|rfl|rfl|rfl
  all_goals rfl
def Yo:ah:=gi qh oL 58 (λs m=>.one (bf (Iy m s))) (λs m=>[EX s m]) λs m h=>a34 s m h.1
end
set_option maxRecDepth 100000
section
def MX:ah where
 f:=40;g:=λ| [⟨false,[.ds L]⟩]=>some (.one (bf (bS L)),[])|_=>none
 ok:=by
  intro args res ps h hp;split at h<;>cases h;exact a1f _
def BC:gg where
 α:=Int×Int×Int×Int
 C:=λa=>⟨true,[.i a.1 lim,.i a.2.1 lim,.i a.2.2.1 lim,.i a.2.2.2 lim]⟩
 d:=fun|⟨true,[.i x _,.i y _,.i z _,.i u _]⟩=>some ((x,y,z,u),[])|_=>none
 ok:=by
  intro v a ps h hp W x hr;split at h<;>cases h;obtain⟨cs,⟨_,_,rfl,⟨rfl,_,i1⟩,_,_,rfl,⟨rfl,_,i2⟩,_,_,rfl,⟨rfl,_,i3⟩,_,_,rfl,⟨rfl,_,i4⟩,rfl⟩,e,_⟩:=hr;exact⟨_,⟨_,_,rfl,⟨rfl,aQ i1,i1⟩,_,_,rfl,⟨rfl,aQ i2,i2⟩,_,_,rfl,⟨rfl,aQ i3,i3⟩,_,[],rfl,⟨rfl,aQ i4,i4⟩,rfl⟩,e,nofun⟩
theorem a4u(x y z u:Int):ae Tryz.prog 50 [BC.C (x,y,z,u)] (.one (bf (jK x y z u))):=dw [] [] [] [] (by kernel_rfl)
def Gi:ah:=qe BC 50 (λa=>.one (bf (jK a.1 a.2.1 a.2.2.1 a.2.2.2))) (λ_=>[]) λa _=>a4u _ _ _ _
def iV(L:List Int)(k:Nat):aI :=
 if decide ((k:Int)<5)&&!(nV L 0 8==7) then ⟨jK (nV L 1 40) (nV L 2 40) (nV L 1 40+1+nV L 3 40) (nV L 2 40+1+nV L 4 40),nV L 5 3==0⟩
 else ⟨bS L,(nV L 0 8==7)&&(nV L 1 2==0)⟩
def qn:FuncId:=12
def ky(L:List Int):List It:=[.ds L]
def BB(n:Nat)(Ls:Nat->List Int)(j:Nat):Ds:=⟨[(0,.eq (cN 1 ky n Ls)),(3,.le (fK j λi=>iV (Ls i) i)),(4,.le (aj (j:Int) 2000))],[]⟩
def rl:List ah:=[MX,Gi]
theorem Ea{d d':aI}(h:d'=d):(aS d).map dB=aS d':=by rw[h];rfl
def q37(n j:Nat)(Ls:Nat->List Int)(hj:j+1<=9)(r:List It)(h:r.map dB=aS (iV (Ls j) j)):List Pf:=[pP (show j+1<=1000 by omega),pR (cN 1 ky n Ls),qA aS (λi=>iV (Ls i) i) j (j+1) r rfl h,pI j (by omega)]
theorem xX{a b:Int}(h:a=b):(a==b)=true:=by simpa using h
theorem ME{a b:Int}(h:¬a=b):(a==b)=false:=by simpa using h
theorem a05(n:Nat)(Ls:Nat->List Int)(j:Nat)(hn:j<n)(hj:j<9):Rnd [aJ,dZ] rl qn 6 [] (nF qn) (BB n Ls j) (BB n Ls (j+1)) .nm:=by
 have c0:Pf:=pT (aZ (show (j:Int)<(n:Int) by omega));have ix:0<=(j:Int)/\(j:Int)<(n:Int):=by omega
 by_cases h5:j<5
 ·have h5' : decide ((j : Int) < 5) = true := aZ (by omega);by_cases h7:nV (Ls j) 0 8=7
  ·have h7' : (nV (Ls j) 0 8 == 7) = true := xX h7;exact⟨[true,true,true,false,true],[pT (aZ (show (j:Int)<(n:Int) by omega)),pT (aZ (show (j:Int)<9 by omega)),pP ix,pT h5',pF (show (!(nV (Ls j) 0 8==7))=false by rw[h7'];rfl),pP ix,pT h7']++q37 n j Ls hj (aS ⟨bS (Ls j),nV (Ls j) 1 2==0⟩) (Ea (by simp[iV,h7])),by kernel_rfl⟩
  ·have h7' : (nV (Ls j) 0 8 == 7) = false := ME h7;exact⟨[true,true,true,true],[pT (aZ (show (j:Int)<(n:Int) by omega)),pT (aZ (show (j:Int)<9 by omega)),pP ix,pT h5',pT (show (!(nV (Ls j) 0 8==7))=true by rw[h7'];rfl)]++q37 n j Ls hj (aS ⟨jK (nV (Ls j) 1 40) (nV (Ls j) 2 40) (nV (Ls j) 1 40+1+nV (Ls j) 3 40) (nV (Ls j) 2 40+1+nV (Ls j) 4 40),nV (Ls j) 5 3==0⟩) (Ea (by unfold iV;rw[h5',h7'];rfl)),by kernel_rfl⟩
 ·have h5' : decide ((j : Int) < 5) = false := ce (by omega);by_cases h7:nV (Ls j) 0 8=7
  ·have h7' : (nV (Ls j) 0 8 == 7) = true := xX h7;exact⟨[true,true,false,true],[pT (aZ (show (j:Int)<(n:Int) by omega)),pT (aZ (show (j:Int)<9 by omega)),pP ix,pF h5',pP ix,pT h7']++q37 n j Ls hj (aS ⟨bS (Ls j),nV (Ls j) 1 2==0⟩) (Ea (by simp[iV,h7])),by kernel_rfl⟩
  ·have h7' : (nV (Ls j) 0 8 == 7) = false := ME h7;exact⟨[true,true,false,false],[pT (aZ (show (j:Int)<(n:Int) by omega)),pT (aZ (show (j:Int)<9 by omega)),pP ix,pF h5',pP ix,pF h7']++q37 n j Ls hj [.i (bS (Ls j)).k lim,fW (bS (Ls j)).n (bS (Ls j)).e,.i (bS (Ls j)).r lim,.b false] (Ea (d:=⟨bS (Ls j),false⟩) (by unfold iV;rw[h5',h7'];rfl)),by kernel_rfl⟩
def US(m:Nat)(Ls:Nat->List Int):Ds:=⟨[(3,.le (fK m λi=>iV (Ls i) i))],[]⟩
theorem a04(n:Nat)(Ls:Nat->List Int):ae Tryz.prog qn [cN 1 ky n Ls] (.one (fK (min n 9) λi=>iV (Ls i) i)):=by
 have B:=λ(m:Nat) (e1:min n 9=m) he=>bW (X:=[aJ,dZ]) (K:=rl) (f:=qn) (id:=6) (n:=nF qn) m (BB n Ls) (λ_=>[]) (e:=.ex 0) (d1:=US m Ls) (by kernel_rfl) (λ_=>by kernel_rfl) (λ_ _=>LT.nil) (λk hk=>a05 n Ls k (by omega) (by omega)) he nofun
 have fin:∀m,min n 9=m->Rnd [aJ,dZ] rl qn 6 [] (nF qn) (BB n Ls m) (US m Ls) (.ex 0)->ae Tryz.prog qn [cN 1 ky n Ls] (.one (fK m λi=>iV (Ls i) i)):=λm e1 he =>
  cD [aJ,dZ] rl _ (LT.cons (B m e1 he) LT.nil) [] [pR (cN 1 ky n Ls),⟨(0:Nat)=0,rfl⟩,q0] (by kernel_rfl)
 by_cases h9:n<=9
 ·rw [Nat.min_eq_left h9];exact fin n (Nat.min_eq_left h9) ⟨[false],[pF (ce (show ¬(n:Int)<(n:Int) by omega)),qL aS (λi=>iV (Ls i) i) n n rfl],by kernel_rfl⟩
 ·rw [Nat.min_eq_right (by omega)];exact fin 9 (Nat.min_eq_right (by omega)) ⟨[true,false],[pT (aZ (show ((9:Nat):Int)<(n:Int) by omega)),pF (ce (show ¬((9:Nat):Int)<9 by omega)),qL aS (λi=>iV (Ls i) i) 9 9 rfl],by kernel_rfl⟩
end
end Go.Proofs.YtghemgdfmldoeaaGreat
