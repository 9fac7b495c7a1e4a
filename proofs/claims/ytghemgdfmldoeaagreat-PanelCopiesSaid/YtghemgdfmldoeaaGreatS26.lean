import Derived.Test.YtghemgdfmldoeaaGreatS25
set_option linter.unusedVariables false
set_option linter.unusedSimpArgs false

namespace Go.Proofs.YtghemgdfmldoeaaGreat
open Go.RowKit

set_option maxRecDepth 100000
section
def eqDr(a b:Drw):Bool:=a.c==b.c&&eqSh a.s b.s
def eqHo(a b:Hol):Bool:=a.f==b.f&&(a.t==b.t&&(a.p==b.p&&eqSh a.s b.s))
def eqRows{α:Type}(eq:α->α->Bool)(n m:Nat)(F G:Nat->α):Bool:=decide (n=m)&&allB (fun i=>eq (F i) (G i)) n
def cpD(L M:V1)(j:Nat):Ds:=⟨[(5,.le (inV (j:Int) 2000)),(0,.eq L),(1,.eq M)],[]⟩
def KCp:List Con:=[dSame]
def cpN{n m j:Nat}(hn:j<n)(hm:j<m):List Pf:=[pP (show 0<=(j:Int)/\(j:Int)<(n:Int) by omega),pP (show 0<=(j:Int)/\(j:Int)<(m:Int) by omega)]
theorem bnT{a b:Bool}(h:(a==b)=false):(!(a==b))=true:=by rw[h];rfl
theorem bnF{a b:Bool}(h:(a==b)=true):(!(a==b))=false:=by rw[h];rfl
section
variable (n m:Nat)
section
variable (F G:Nat->Drw)
def fSd:FuncId:=16
abbrev drL(n:Nat)(F:Nat->Drw):V1:=rowV 4 drI n F
theorem sdr_ok(hn:n<=1000)(hs:∀i,i<n->(F i).s.n<=1000):Fok Tryz.prog fSd [drL n F,drL m G] (.one (blV (eqRows eqDr n m F G))):=by
 by_cases h1:n=m
 rotate_left
 ·exact Fok.bb (show eqRows eqDr n m F G=false by simp[eqRows,h1]) (fok [] [true] [pT (neT (a:=n) (b:=m) (by omega))] (by kernel_rfl))
 subst h1
 have hb:eqRows eqDr n n F G=allB (fun i=>eqDr (F i) (G i)) n:=by simp[eqRows]
 have R:∀k,k<n->eqDr (F k) (G k)=true->Rnd [] KCp fSd 8 [] (nF fSd) (cpD (drL n F) (drL n G) k) (cpD (drL n F) (drL n G) (k+1)) .nm:=fun k hk h=>by
  unfold eqDr at h
  rw[Bool.and_eq_true] at h
  exact⟨[true,false,false],[pT (ltT (show (k:Int)<(n:Int) by omega))]++cpN hk hk++[pF (bnF h.1)]++cpN hk hk++[pP (hs k hk),pEd (F k).s,pEd (G k).s,pF (show (!eqSh (F k).s (G k).s)=false by rw[h.2];rfl),pI k (by omega),pR (drL n F),pR (drL n G)],by kernel_rfl⟩
 have B:=fun (e:Ex) (d1:Ds) (m:Nat) (hm:m<=n) hr he hne=>orc (X:=[]) (K:=KCp) (f:=fSd) (id:=8) (n:=nF fSd) m (cpD (drL n F) (drL n G)) (fun _=>[]) (e:=e) (d1:=d1) (by kernel_rfl) (fun _=>by kernel_rfl) (fun _ _=>LT.nil) hr he hne
 cases h4:allB (fun i=>eqDr (F i) (G i)) n with
 | true =>
  have o:=B (.ex 0) ⟨[],[]⟩ n (Nat.le_refl _) (fun k hk=>R k hk (allB_t.1 h4 k hk)) ⟨[false],[pF (ltF (show ¬(n:Int)<(n:Int) by omega))],by kernel_rfl⟩ nofun
  exact Fok.bb (by rw[hb,h4]) (fokL [] [] _ (LT.cons o LT.nil) [false] [pF (neF (a:=n) (b:=n) rfl),q0,pR (drL n F),pR (drL n G)] (by kernel_rfl))
 | false =>
  obtain⟨m,hm,k1,k2⟩:=allB_f h4
  have fin:Rnd [] KCp fSd 8 [] (nF fSd) (cpD (drL n F) (drL n G) m) ⟨[(4,.eq ⟨false,[.b false]⟩)],[]⟩ .rt:=by
   cases h5:(F m).c==(G m).c with
   | false=>exact⟨[true,true],[pT (ltT (show (m:Int)<(n:Int) by omega))]++cpN hm hm++[pT (bnT h5),pR ⟨false,[.b false]⟩],by kernel_rfl⟩
   | true =>
    have h6:eqSh (F m).s (G m).s=false:=by simpa[eqDr,h5] using k1
    exact⟨[true,false,true],[pT (ltT (show (m:Int)<(n:Int) by omega))]++cpN hm hm++[pF (bnF h5)]++cpN hm hm++[pP (hs m hm),pEd (F m).s,pEd (G m).s,pT (show (!eqSh (F m).s (G m).s)=true by rw[h6];rfl),pR ⟨false,[.b false]⟩],by kernel_rfl⟩
  have o:=B .rt _ m (by omega) (fun k hk=>R k (by omega) (k2 k hk)) fin nofun
  exact Fok.bb (by rw[hb,h4]) (fokL [] [] _ (LT.cons o LT.nil) [false] [pF (neF (a:=n) (b:=n) rfl),q0,pR (drL n F),pR (drL n G)] (by kernel_rfl))
end
section
variable (F G:Nat->Hol)
def fSh:FuncId:=19
abbrev hoL(n:Nat)(F:Nat->Hol):V1:=rowV 6 hoI n F
theorem sho_ok(hn:n<=1000)(hs:∀i,i<n->(F i).s.n<=1000):Fok Tryz.prog fSh [hoL n F,hoL m G] (.one (blV (eqRows eqHo n m F G))):=by
 by_cases h1:n=m
 rotate_left
 ·exact Fok.bb (show eqRows eqHo n m F G=false by simp[eqRows,h1]) (fok [] [true] [pT (neT (a:=n) (b:=m) (by omega))] (by kernel_rfl))
 subst h1
 have hb:eqRows eqHo n n F G=allB (fun i=>eqHo (F i) (G i)) n:=by simp[eqRows]
 have R:∀k,k<n->eqHo (F k) (G k)=true->Rnd [] KCp fSh 8 [] (nF fSh) (cpD (hoL n F) (hoL n G) k) (cpD (hoL n F) (hoL n G) (k+1)) .nm:=fun k hk h=>by
  unfold eqHo at h
  simp only[Bool.and_eq_true,beq_iff_eq] at h
  exact⟨[true,false,false,false,false],[pT (ltT (show (k:Int)<(n:Int) by omega))]++cpN hk hk++[pF (neF h.1)]++cpN hk hk++[pF (neF h.2.1)]++cpN hk hk++[pF (bnF (a:=(F k).p) (b:=(G k).p) (by simpa using h.2.2.1))]++cpN hk hk++[pP (hs k hk),pEd (F k).s,pEd (G k).s,pF (show (!eqSh (F k).s (G k).s)=false by rw[h.2.2.2];rfl),pI k (by omega),pR (hoL n F),pR (hoL n G)],by kernel_rfl⟩
 have B:=fun (e:Ex) (d1:Ds) (m:Nat) (hm:m<=n) hr he hne=>orc (X:=[]) (K:=KCp) (f:=fSh) (id:=8) (n:=nF fSh) m (cpD (hoL n F) (hoL n G)) (fun _=>[]) (e:=e) (d1:=d1) (by kernel_rfl) (fun _=>by kernel_rfl) (fun _ _=>LT.nil) hr he hne
 cases h4:allB (fun i=>eqHo (F i) (G i)) n with
 | true =>
  have o:=B (.ex 0) ⟨[],[]⟩ n (Nat.le_refl _) (fun k hk=>R k hk (allB_t.1 h4 k hk)) ⟨[false],[pF (ltF (show ¬(n:Int)<(n:Int) by omega))],by kernel_rfl⟩ nofun
  exact Fok.bb (by rw[hb,h4]) (fokL [] [] _ (LT.cons o LT.nil) [false] [pF (neF (a:=n) (b:=n) rfl),q0,pR (hoL n F),pR (hoL n G)] (by kernel_rfl))
 | false =>
  obtain⟨m,hm,k1,k2⟩:=allB_f h4
  have fin:Rnd [] KCp fSh 8 [] (nF fSh) (cpD (hoL n F) (hoL n G) m) ⟨[(4,.eq ⟨false,[.b false]⟩)],[]⟩ .rt:=by
   by_cases h5:(F m).f=(G m).f
   rotate_left
   ·exact⟨[true,true],[pT (ltT (show (m:Int)<(n:Int) by omega))]++cpN hm hm++[pT (neT h5),pR ⟨false,[.b false]⟩],by kernel_rfl⟩
   by_cases h6:(F m).t=(G m).t
   rotate_left
   ·exact⟨[true,false,true],[pT (ltT (show (m:Int)<(n:Int) by omega))]++cpN hm hm++[pF (neF h5)]++cpN hm hm++[pT (neT h6),pR ⟨false,[.b false]⟩],by kernel_rfl⟩
   cases h7:(F m).p==(G m).p with
   | false=>exact⟨[true,false,false,true],[pT (ltT (show (m:Int)<(n:Int) by omega))]++cpN hm hm++[pF (neF h5)]++cpN hm hm++[pF (neF h6)]++cpN hm hm++[pT (bnT h7),pR ⟨false,[.b false]⟩],by kernel_rfl⟩
   | true =>
    have h8:eqSh (F m).s (G m).s=false:=by simpa[eqHo,h5,h6,h7] using k1
    exact⟨[true,false,false,false,true],[pT (ltT (show (m:Int)<(n:Int) by omega))]++cpN hm hm++[pF (neF h5)]++cpN hm hm++[pF (neF h6)]++cpN hm hm++[pF (bnF h7)]++cpN hm hm++[pP (hs m hm),pEd (F m).s,pEd (G m).s,pT (show (!eqSh (F m).s (G m).s)=true by rw[h8];rfl),pR ⟨false,[.b false]⟩],by kernel_rfl⟩
  have o:=B .rt _ m (by omega) (fun k hk=>R k (by omega) (k2 k hk)) fin nofun
  exact Fok.bb (by rw[hb,h4]) (fokL [] [] _ (LT.cons o LT.nil) [false] [pF (neF (a:=n) (b:=n) rfl),q0,pR (hoL n F),pR (hoL n G)] (by kernel_rfl))
end
end
def dSdr:Con:=con2 dDrs dDrs fSd (fun a b=>.one (blV (eqRows eqDr a.1 b.1 a.2 b.2))) (fun a _=>[a.1<=1000,∀i,i<a.1->(a.2 i).s.n<=1000]) fun a b h=>sdr_ok a.1 b.1 a.2 b.2 h.1 h.2.1
def dSho:Con:=con2 dHos dHos fSh (fun a b=>.one (blV (eqRows eqHo a.1 b.1 a.2 b.2))) (fun a _=>[a.1<=1000,∀i,i<a.1->(a.2 i).s.n<=1000]) fun a b h=>sho_ok a.1 b.1 a.2 b.2 h.1 h.2.1
end
def lnEd(ax ay bx by':Int):Ed:=⟨1,ax,ay,bx,by',0,0⟩
def rowE(l:List Ed)(i:Nat):Ed:=(l[i]?).getD ⟨0,0,0,0,0,0,0⟩
def shL'(k:Int)(l:List Ed)(r:Int):Sh:=⟨k,l.length,rowE l,r⟩
def rectS(x0 y0 x1 y1:Int):Sh:=shL' 2 [lnEd x0 y0 x1 y0,lnEd x1 y0 x1 y1,lnEd x1 y1 x0 y1,lnEd x0 y1 x0 y0] 0
def discS(x y r:Int):Sh:=shL' 1 [lnEd x y x y] r
def quartE(px py r t:Int)(right:Bool):Ed :=
 let c:=applyQ 0 0 t false r 0
 let v:=applyQ 0 0 (if right then 3 else 1) false (px-(px+c.1)) (py-(py+c.2))
 ⟨if right then 3 else 2,px,py,px+c.1+v.1,py+c.2+v.2,px+c.1,py+c.2⟩
def roundS(px py r w h:Int):Sh :=
 shL' 2 [lnEd (px+r) py (px+r+w) py,⟨2,px+r+w,py,px+r+w+r,py+r,px+r+w,py+r⟩,
  lnEd (px+r+w+r) (py+r) (px+r+w+r) (py+r+h),⟨2,px+r+w+r,py+r+h,px+r+w,py+r+h+r,px+r+w,py+r+h⟩,
  lnEd (px+r+w) (py+r+h+r) (px+r) (py+r+h+r),⟨2,px+r,py+r+h+r,px,py+r+h,px+r,py+r+h⟩,
  lnEd px (py+r+h) px (py+r),⟨2,px,py+r,px+r,py,px+r,py+r⟩] 0
def pathB(L:List Int)(a:Nat):Bool:=decide (nV L (a+2) 2=1)
def pathE(L:List Int)(a:Nat)(px py:Int):Ed :=
 if pathB L a then quartE px py (1+nV L (a+3) 9) (nV L (a+4) 4) (decide (nV L (a+5) 2=1))
 else lnEd px py (max 0 (px+nV L a 21-10)) (max 0 (py+nV L (a+1) 21-10))
def pathN(L:List Int)(a:Nat):Nat:=if pathB L a then a+6 else a+3
def pathL(L:List Int):Nat->Nat->Int->Int->List Ed
 | 0,_,_,_=>[]
 | n+1,a,px,py=>pathE L a px py::pathL L n (pathN L a) (pathE L a px py).bx (pathE L a px py).by'
def madeS(L:List Int):Sh :=
 let x:=nV L 0 50
 let y:=nV L 1 50
 if nV L 2 6=0 then rectS x y (x+1+nV L 3 20) (y+1+nV L 4 20)
 else if nV L 2 6=1 then roundS x y (1+nV L 3 6) (1+nV L 4 9) (1+nV L 5 9)
 else if nV L 2 6=2 then shL' 2 [lnEd x y (x+1+nV L 3 20) (y+nV L 4 9),lnEd (x+1+nV L 3 20) (y+nV L 4 9) (x+nV L 5 9) (y+10+nV L 6 20),lnEd (x+nV L 5 9) (y+10+nV L 6 20) x y] 0
 else if nV L 2 6=3 then discS x y (nV L 3 9)
 else shL' 1 (pathL L (1+nV L 4 3).toNat 5 x y) (nV L 3 6)

set_option maxRecDepth 100000
section
def edsOf(m:List It)(n:Nat):List Ed:=(List.range n).map fun i=>edAt ((m.drop (i*7)).take 7)
def shOf(z:AV×List Mb):Option (Int×List Ed×Int) :=
 match z.1 with
 | .one ⟨true,[i,.sl b n c,k]⟩=>(match asI i,argI (z.2.map some) (.sl b n c),asI k with
  | some x,some (.fs _ m n c),some y=>if c=7/\(m.all fun i=>i.n==1)=true/\((List.range n).all fun i=>isEd ((m.drop (i*7)).take 7))=true/\((z.2[b]?).any fun x=>x.T==tE)=true then some (x.1,edsOf m n,y.1) else none
  | _,_,_=>none)
 | _=>none
theorem rowE_eds(m:List It)(n i:Nat)(h:i<n):rowE (edsOf m n) i=edAt ((m.drop (i*7)).take 7):=by
 unfold rowE edsOf
 simp[h]
theorem shOf_rep{V W:World}{r:Nat->Nat}{cm:Nat->List Value}{z:AV×List Mb}{x:Int×List Ed×Int}{v:Value}(h:shOf z=some x)(hM:RM V r cm (z.2.map some) W)(hv:RepA V W r z.2.length z.1 v):RepV V W (fun _=>0) 0 (shdV (shL' x.1 x.2.1 x.2.2)) v:=by
 obtain⟨z1,ms⟩:=z
 unfold shOf at h
 split at h
 ·rename_i i b n c k hz
  subst hz
  split at h
  ·rename_i x o m n' c' y hx ha hy
   split at h
   ·rename_i hc
    obtain⟨rfl,c1,c2,c3⟩:=hc
    cases h
    obtain⟨cs,⟨a0,_,rfl,q0,a1,_,rfl,q1,a2,_,rfl,q2,rfl⟩,h2,h3⟩:=hv
    have k1:=argI_rep hM ha (show RepI V W r (ms.map some).length (.sl b n c) a1 by rw[List.length_map];exact q1)
    have k0:=asI_lim hx q0
    have k2:=asI_lim hy q2
    obtain⟨rfl,p0⟩:=k0
    obtain⟨rfl,p2⟩:=k2
    have ht:toRo (.fs o m n' 7)=some (n',fun i=>(m.drop (i*7)).take 7):=by
     unfold toRo
     simp only[c1,and_self,if_true]
    obtain⟨v',rfl,hro⟩:=toRo_rep ht (fun i hi=>by rw[List.all_eq_true] at c2;exact c2 i (List.mem_range.2 hi)) k1
    have hT:∀g o m c,v'=.slice (some ⟨g,o,none⟩) m c->∀(xs:Array Value) (T:TypeId) (fr:Nat×Nat),W.heap[g]? = some (.cells xs T fr)->T=tE:=by
     intro g o m' c e xs T fr hg
     obtain⟨_,q,ys,U,e2,e3,_⟩:=q1
     cases hb:ms[b]? with
     | none=>rw[hb] at c3;cases c3
     | some y =>
      rw[hb] at c3
      have c3:y.T=tE:=by simpa using c3
      have hm:mb (ms.map some) b=some y:=mb_at.2 (by simp[hb])
      have e4:=(hM.blk b y hm).1
      subst e
      simp only[List.cons.injEq,Value.slice.injEq,Option.some.injEq,Addr.mk.injEq,and_true] at e2
      obtain⟨⟨rfl,_⟩,_⟩:=e2
      rw[e4] at hg
      simp only[Option.some.injEq,Obj.cells.injEq] at hg
      rw[<- hg.2.1,c3]
    refine⟨_,⟨[_],_,rfl,⟨rfl,p0⟩,[_],_,rfl,⟨_,rfl,rowC_ed (e:=rowE (edsOf m n')) ?_ hT⟩,[_],[],rfl,⟨rfl,p2⟩,rfl⟩,h2,nofun⟩
    have hl:(edsOf m n').length=n':=by unfold edsOf;simp
    show RowC (RepF W) W 7 (edsOf m n').length _ _
    rw[hl]
    exact rowC_cg (fun i hi=>congrArg edI (rowE_eds m n' i hi).symm) hro
   ·cases h
  ·cases h
 ·cases h
theorem fokS{f:FuncId}{args:List V1}{k:Int}{l:List Ed}{r:Int}(X:List Eff)(K:List Con)(q:List Bool)(pf:List Pf)(h:((aFun Tryz.prog (env X) (tab K) 40 f args q).bind fun z=>(shOf z.1).map fun y=>(y,z.2))=some ((k,l,r),pf.map Pf.p,[])):Fok Tryz.prog f args (.one (shdV (shL' k l r))):=by
 cases hz:aFun Tryz.prog (env X) (tab K) 40 f args q with
 | none=>rw[hz] at h;cases h
 | some z =>
  obtain⟨z0,z2,z3⟩:=z
  rw[hz] at h
  cases hs:shOf z0 with
  | none=>simp[hs] at h
  | some y =>
   simp only[Option.bind_some,hs,Option.map_some,Option.some.injEq,Prod.mk.injEq] at h
   obtain⟨rfl,rfl,rfl⟩:=h
   have hB:=(aFun_ok prog_nm EQ_ok (env_ok X) MT_ok WR_ok (tab_ok K) 40).ok f args q _ _ [] hz (all_pf pf)
   intro W vals hv
   refine (hB W vals hv).mono ?_
   rintro e w' ⟨v,r,cm,rfl,hM,hr⟩
   refine⟨v,rfl,?_,hM.ext⟩
   exact shOf_rep hs hM hr
def qV(e:Ed)(A B:Nat):V1:=⟨true,[.i e.k 3,.i e.ax A,.i e.ay B,.i e.bx (A+64),.i e.by' (B+64),.i e.cx (A+64),.i e.cy (B+64)]⟩
theorem quart_fok(px py r t:Int)(g:Bool):Fok Tryz.prog 104 [ptV px py 1000,inV r 16,inV t 16,blV g] (.one (edV (quartE px py r t g) lim lim)):=by
 unfold quartE
 cases g with
 | true=>exact fok [dApply] [true] [pT rfl] (by kernel_rfl)
 | false=>exact fok [dApply] [false] [pF rfl] (by kernel_rfl)
theorem quart_bd{px py r t:Int}{g:Bool}{A B:Nat}(h1:px.natAbs<=A)(h2:py.natAbs<=B)(h3:r.natAbs<=16):((quartE px py r t g).k.natAbs<=3/\(quartE px py r t g).ax.natAbs<=A/\(quartE px py r t g).ay.natAbs<=B)/\((quartE px py r t g).bx.natAbs<=A+64/\(quartE px py r t g).by'.natAbs<=B+64)/\(quartE px py r t g).cx.natAbs<=A+64/\(quartE px py r t g).cy.natAbs<=B+64:=by
 obtain⟨u1,u2⟩:=applyQ_bd (ax:=0) (ay:=0) (n:=t) (x:=r) (y:=0) (m:=false) (A:=0) (B:=0) (D:=16) (E:=0) (by decide) (by decide) h3 (by decide)
 unfold quartE
 simp only
 generalize applyQ 0 0 t false r 0=c at *
 obtain⟨v1,v2⟩:=applyQ_bd (ax:=0) (ay:=0) (n:=if g then 3 else 1) (x:=px-(px+c.1)) (y:=py-(py+c.2)) (m:=false) (A:=0) (B:=0) (D:=16) (E:=16) (by decide) (by decide) (by omega) (by omega)
 generalize applyQ 0 0 (if g then 3 else 1) false (px-(px+c.1)) (py-(py+c.2))=v at *
 refine⟨⟨by split<;>decide,h1,h2⟩,⟨by omega,by omega⟩,by omega,by omega⟩
def dQuart:Con where
 f:=104
 g:=fun | [⟨true,[.i px A,.i py B]⟩,⟨false,[.i r C]⟩,⟨false,[.i t D]⟩,⟨false,[.v (.bool g)]⟩]=>if (A<=1000/\B<=1000)/\C<=16/\D<=16 then some (.one (qV (quartE px py r t g) A B),[]) else none|_=>none
 ok:=by
  intro args res ps h hp
  split at h<;>try cases h
  split at h<;>cases h
  rename_i px A py B r C t D g hb
  intro W vals hv
  have hv2:=hv
  simp only[rvs_cons,rvs_nil,rv_t,rv_i,rv_v,rl_i,rl_nil] at hv2
  obtain⟨_,⟨_,⟨⟨a1,i1⟩,_,rfl,⟨a2,i2⟩,_,rfl,rfl⟩,rfl⟩,_,rfl,_,⟨⟨a3,i3⟩,rfl⟩,_,rfl,_,⟨⟨a4,i4⟩,rfl⟩,_,rfl,_,⟨ok,rfl⟩,_,rfl,rfl⟩:=hv2
  obtain⟨⟨q1,q2,q3⟩,⟨q4,q5⟩,q6,q7⟩:=quart_bd (t:=t) (g:=g) a1 a2 (show r.natAbs<=16 by omega)
  refine (quart_fok px py r t g W _ (rvs_cons.2 ⟨_,rv_t.2 ⟨_,rl_i.2 ⟨⟨by omega,i1⟩,_,rfl,rl_i.2 ⟨⟨by omega,i2⟩,_,rfl,rfl⟩⟩,rfl⟩,_,rfl,rvs_cons.2 ⟨_,rv_i.2 ⟨⟨by omega,i3⟩,rfl⟩,_,rfl,rvs_cons.2 ⟨_,rv_i.2 ⟨⟨by omega,i4⟩,rfl⟩,_,rfl,rvs_cons.2 ⟨_,rv_v.2 ⟨ok,rfl⟩,_,rfl,rfl⟩⟩⟩⟩)).mono fun e w' ⟨v,e1,h1,h2⟩=>⟨v,e1,?_,h2⟩
  simp only[RepA,edV,qV,rv_t,rl_i,rl_nil] at h1 ⊢
  obtain⟨cs,⟨⟨_,g1⟩,_,rfl,⟨_,g2⟩,_,rfl,⟨_,g3⟩,_,rfl,⟨_,g4⟩,_,rfl,⟨_,g5⟩,_,rfl,⟨_,g6⟩,_,rfl,⟨_,g7⟩,_,rfl,rfl⟩,e2⟩:=h1
  exact⟨_,⟨⟨q1,g1⟩,_,rfl,⟨q2,g2⟩,_,rfl,⟨q3,g3⟩,_,rfl,⟨q4,g4⟩,_,rfl,⟨q5,g5⟩,_,rfl,⟨q6,g6⟩,_,rfl,⟨q7,g7⟩,_,rfl,rfl⟩,e2⟩
end

set_option maxRecDepth 100000
section
def KMd:List Con:=[dQuart,dApply]
def roundQ(px py r w h:Int):Sh :=
 let q:=fun (t x y:Int)=>applyQ 0 0 t false x y
 let n0:=(px+r+(q 0 w 0).1,py+(q 0 w 0).2)
 let c0:=(n0.1+(q 0 0 r).1,n0.2+(q 0 0 r).2)
 let e0:=(c0.1+(q 0 r 0).1,c0.2+(q 0 r 0).2)
 let n1:=(e0.1+(q 1 h 0).1,e0.2+(q 1 h 0).2)
 let c1:=(n1.1+(q 1 0 r).1,n1.2+(q 1 0 r).2)
 let e1:=(c1.1+(q 1 r 0).1,c1.2+(q 1 r 0).2)
 let n2:=(e1.1+(q 2 w 0).1,e1.2+(q 2 w 0).2)
 let c2:=(n2.1+(q 2 0 r).1,n2.2+(q 2 0 r).2)
 let e2:=(c2.1+(q 2 r 0).1,c2.2+(q 2 r 0).2)
 let n3:=(e2.1+(q 3 h 0).1,e2.2+(q 3 h 0).2)
 let c3:=(n3.1+(q 3 0 r).1,n3.2+(q 3 0 r).2)
 let e3:=(c3.1+(q 3 r 0).1,c3.2+(q 3 r 0).2)
 shL' 2 [lnEd (px+r) py n0.1 n0.2,⟨2,n0.1,n0.2,e0.1,e0.2,c0.1,c0.2⟩,lnEd e0.1 e0.2 n1.1 n1.2,⟨2,n1.1,n1.2,e1.1,e1.2,c1.1,c1.2⟩,
  lnEd e1.1 e1.2 n2.1 n2.2,⟨2,n2.1,n2.2,e2.1,e2.2,c2.1,c2.2⟩,lnEd e2.1 e2.2 n3.1 n3.2,⟨2,n3.1,n3.2,e3.1,e3.2,c3.1,c3.2⟩] 0
theorem roundQ_eq(px py r w h:Int):roundQ px py r w h=roundS px py r w h:=by
 have m0:modZ 0 4=0:=by decide
 have m1:modZ 1 4=1:=by decide
 have m2:modZ 2 4=2:=by decide
 have m3:modZ 3 4=3:=by decide
 have ex:∀ {a b c d e f a' b' c' d' e' f':Int},a=a'->b=b'->c=c'->d=d'->e=e'->f=f'->(⟨2,a,b,c,d,e,f⟩:Ed)=⟨2,a',b',c',d',e',f'⟩:=fun h1 h2 h3 h4 h5 h6=>by rw[h1,h2,h3,h4,h5,h6]
 have lx:∀ {a b c d a' b' c' d':Int},a=a'->b=b'->c=c'->d=d'->lnEd a b c d=lnEd a' b' c' d':=fun h1 h2 h3 h4=>by rw[h1,h2,h3,h4]
 unfold roundQ roundS
 simp only[tn0 m0,tn1 m1,tn2 m2,tn3 m3,Bool.false_eq_true,if_false]
 refine congrArg (fun l=>shL' 2 l 0) ?_
 refine congr (congrArg List.cons (lx ?_ ?_ ?_ ?_)) (congr (congrArg List.cons (ex ?_ ?_ ?_ ?_ ?_ ?_)) (congr (congrArg List.cons (lx ?_ ?_ ?_ ?_)) (congr (congrArg List.cons (ex ?_ ?_ ?_ ?_ ?_ ?_)) (congr (congrArg List.cons (lx ?_ ?_ ?_ ?_)) (congr (congrArg List.cons (ex ?_ ?_ ?_ ?_ ?_ ?_)) (congr (congrArg List.cons (lx ?_ ?_ ?_ ?_)) (congr (congrArg List.cons (ex ?_ ?_ ?_ ?_ ?_ ?_)) rfl)))))))<;>omega
theorem made_0(L:List Int)(h0:nV L 2 6=0):Fok Tryz.prog 40 [⟨false,[.ds L]⟩] (.one (shdV (madeS L))):=by
 unfold madeS
 simp only[if_pos h0]
 exact fokS [xNext] KMd [true] [pT (bq_T h0)] (by kernel_rfl)
theorem made_1(L:List Int)(h0:¬nV L 2 6=0)(h1:nV L 2 6=1):Fok Tryz.prog 40 [⟨false,[.ds L]⟩] (.one (shdV (madeS L))):=by
 unfold madeS
 simp only[if_neg h0,if_pos h1]
 rw[<- roundQ_eq]
 exact fokS [xNext] KMd [false,true] [pF (bq_F h0),pT (bq_T h1)] (by kernel_rfl)
theorem made_2(L:List Int)(h0:¬nV L 2 6=0)(h1:¬nV L 2 6=1)(h2:nV L 2 6=2):Fok Tryz.prog 40 [⟨false,[.ds L]⟩] (.one (shdV (madeS L))):=by
 unfold madeS
 simp only[if_neg h0,if_neg h1,if_pos h2]
 exact fokS [xNext] KMd [false,false,true] [pF (bq_F h0),pF (bq_F h1),pT (bq_T h2)] (by kernel_rfl)
theorem made_3(L:List Int)(h0:¬nV L 2 6=0)(h1:¬nV L 2 6=1)(h2:¬nV L 2 6=2)(h3:nV L 2 6=3):Fok Tryz.prog 40 [⟨false,[.ds L]⟩] (.one (shdV (madeS L))):=by
 unfold madeS
 simp only[if_neg h0,if_neg h1,if_neg h2,if_pos h3]
 exact fokS [xNext] KMd [false,false,false,true] [pF (bq_F h0),pF (bq_F h1),pF (bq_F h2),pT (bq_T h3)] (by kernel_rfl)
theorem path_T{L:List Int}{a:Nat}(h:nV L (a+2) 2=1):pathB L a=true:=by unfold pathB;simpa using h
theorem path_F{L:List Int}{a:Nat}(h:¬nV L (a+2) 2=1):pathB L a=false:=by unfold pathB;simpa using h
def NoK(L:List Int):Prop:=¬nV L 2 6=0/\¬nV L 2 6=1/\¬nV L 2 6=2/\¬nV L 2 6=3
theorem path_1T(L:List Int)(k:NoK L)(hm:nV L 4 3=0)(g0:nV L 7 2=1):Fok Tryz.prog 40 [⟨false,[.ds L]⟩] (.one (shdV (shL' 1 (pathL L 1 5 (nV L 0 50) (nV L 1 50)) (nV L 3 6)))):=by
 simp only[pathL,pathE,pathN,Nat.reduceAdd,path_T (a:=5) g0,if_true,if_false,Bool.false_eq_true]
 exact fokS [xNext] KMd [false,false,false,false,true,true,false] [pF (bq_F k.1),pF (bq_F k.2.1),pF (bq_F k.2.2.1),pF (bq_F k.2.2.2),pT (decide_eq_true (show (0:Int)<1+nV L 4 3 by omega)),pT (bq_T g0),pF (decide_eq_false (show ¬(0+1:Int)<1+nV L 4 3 by omega))] (by kernel_rfl)
theorem path_1F(L:List Int)(k:NoK L)(hm:nV L 4 3=0)(g0:¬nV L 7 2=1):Fok Tryz.prog 40 [⟨false,[.ds L]⟩] (.one (shdV (shL' 1 (pathL L 1 5 (nV L 0 50) (nV L 1 50)) (nV L 3 6)))):=by
 simp only[pathL,pathE,pathN,Nat.reduceAdd,path_F (a:=5) g0,if_true,if_false,Bool.false_eq_true]
 exact fokS [xNext] KMd [false,false,false,false,true,false,false] [pF (bq_F k.1),pF (bq_F k.2.1),pF (bq_F k.2.2.1),pF (bq_F k.2.2.2),pT (decide_eq_true (show (0:Int)<1+nV L 4 3 by omega)),pF (bq_F g0),pF (decide_eq_false (show ¬(0+1:Int)<1+nV L 4 3 by omega))] (by kernel_rfl)
theorem path_2TT(L:List Int)(k:NoK L)(hm:nV L 4 3=1)(g0:nV L 7 2=1)(g1:nV L 13 2=1):Fok Tryz.prog 40 [⟨false,[.ds L]⟩] (.one (shdV (shL' 1 (pathL L 2 5 (nV L 0 50) (nV L 1 50)) (nV L 3 6)))):=by
 simp only[pathL,pathE,pathN,Nat.reduceAdd,path_T (a:=5) g0,path_T (a:=11) g1,if_true,if_false,Bool.false_eq_true]
 exact fokS [xNext] KMd [false,false,false,false,true,true,true,true,false] [pF (bq_F k.1),pF (bq_F k.2.1),pF (bq_F k.2.2.1),pF (bq_F k.2.2.2),pT (decide_eq_true (show (0:Int)<1+nV L 4 3 by omega)),pT (bq_T g0),pT (decide_eq_true (show (0+1:Int)<1+nV L 4 3 by omega)),pT (bq_T g1),pF (decide_eq_false (show ¬(0+1+1:Int)<1+nV L 4 3 by omega))] (by kernel_rfl)
theorem path_2TF(L:List Int)(k:NoK L)(hm:nV L 4 3=1)(g0:nV L 7 2=1)(g1:¬nV L 13 2=1):Fok Tryz.prog 40 [⟨false,[.ds L]⟩] (.one (shdV (shL' 1 (pathL L 2 5 (nV L 0 50) (nV L 1 50)) (nV L 3 6)))):=by
 simp only[pathL,pathE,pathN,Nat.reduceAdd,path_T (a:=5) g0,path_F (a:=11) g1,if_true,if_false,Bool.false_eq_true]
 exact fokS [xNext] KMd [false,false,false,false,true,true,true,false,false] [pF (bq_F k.1),pF (bq_F k.2.1),pF (bq_F k.2.2.1),pF (bq_F k.2.2.2),pT (decide_eq_true (show (0:Int)<1+nV L 4 3 by omega)),pT (bq_T g0),pT (decide_eq_true (show (0+1:Int)<1+nV L 4 3 by omega)),pF (bq_F g1),pF (decide_eq_false (show ¬(0+1+1:Int)<1+nV L 4 3 by omega))] (by kernel_rfl)
theorem path_2FT(L:List Int)(k:NoK L)(hm:nV L 4 3=1)(g0:¬nV L 7 2=1)(g1:nV L 10 2=1):Fok Tryz.prog 40 [⟨false,[.ds L]⟩] (.one (shdV (shL' 1 (pathL L 2 5 (nV L 0 50) (nV L 1 50)) (nV L 3 6)))):=by
 simp only[pathL,pathE,pathN,Nat.reduceAdd,path_F (a:=5) g0,path_T (a:=8) g1,if_true,if_false,Bool.false_eq_true]
 exact fokS [xNext] KMd [false,false,false,false,true,false,true,true,false] [pF (bq_F k.1),pF (bq_F k.2.1),pF (bq_F k.2.2.1),pF (bq_F k.2.2.2),pT (decide_eq_true (show (0:Int)<1+nV L 4 3 by omega)),pF (bq_F g0),pT (decide_eq_true (show (0+1:Int)<1+nV L 4 3 by omega)),pT (bq_T g1),pF (decide_eq_false (show ¬(0+1+1:Int)<1+nV L 4 3 by omega))] (by kernel_rfl)
theorem path_2FF(L:List Int)(k:NoK L)(hm:nV L 4 3=1)(g0:¬nV L 7 2=1)(g1:¬nV L 10 2=1):Fok Tryz.prog 40 [⟨false,[.ds L]⟩] (.one (shdV (shL' 1 (pathL L 2 5 (nV L 0 50) (nV L 1 50)) (nV L 3 6)))):=by
 simp only[pathL,pathE,pathN,Nat.reduceAdd,path_F (a:=5) g0,path_F (a:=8) g1,if_true,if_false,Bool.false_eq_true]
 exact fokS [xNext] KMd [false,false,false,false,true,false,true,false,false] [pF (bq_F k.1),pF (bq_F k.2.1),pF (bq_F k.2.2.1),pF (bq_F k.2.2.2),pT (decide_eq_true (show (0:Int)<1+nV L 4 3 by omega)),pF (bq_F g0),pT (decide_eq_true (show (0+1:Int)<1+nV L 4 3 by omega)),pF (bq_F g1),pF (decide_eq_false (show ¬(0+1+1:Int)<1+nV L 4 3 by omega))] (by kernel_rfl)
theorem path_3TTT(L:List Int)(k:NoK L)(hm:nV L 4 3=2)(g0:nV L 7 2=1)(g1:nV L 13 2=1)(g2:nV L 19 2=1):Fok Tryz.prog 40 [⟨false,[.ds L]⟩] (.one (shdV (shL' 1 (pathL L 3 5 (nV L 0 50) (nV L 1 50)) (nV L 3 6)))):=by
 simp only[pathL,pathE,pathN,Nat.reduceAdd,path_T (a:=5) g0,path_T (a:=11) g1,path_T (a:=17) g2,if_true,if_false,Bool.false_eq_true]
 exact fokS [xNext] KMd [false,false,false,false,true,true,true,true,true,true,false] [pF (bq_F k.1),pF (bq_F k.2.1),pF (bq_F k.2.2.1),pF (bq_F k.2.2.2),pT (decide_eq_true (show (0:Int)<1+nV L 4 3 by omega)),pT (bq_T g0),pT (decide_eq_true (show (0+1:Int)<1+nV L 4 3 by omega)),pT (bq_T g1),pT (decide_eq_true (show (0+1+1:Int)<1+nV L 4 3 by omega)),pT (bq_T g2),pF (decide_eq_false (show ¬(0+1+1+1:Int)<1+nV L 4 3 by omega))] (by kernel_rfl)
theorem path_3TTF(L:List Int)(k:NoK L)(hm:nV L 4 3=2)(g0:nV L 7 2=1)(g1:nV L 13 2=1)(g2:¬nV L 19 2=1):Fok Tryz.prog 40 [⟨false,[.ds L]⟩] (.one (shdV (shL' 1 (pathL L 3 5 (nV L 0 50) (nV L 1 50)) (nV L 3 6)))):=by
 simp only[pathL,pathE,pathN,Nat.reduceAdd,path_T (a:=5) g0,path_T (a:=11) g1,path_F (a:=17) g2,if_true,if_false,Bool.false_eq_true]
 exact fokS [xNext] KMd [false,false,false,false,true,true,true,true,true,false,false] [pF (bq_F k.1),pF (bq_F k.2.1),pF (bq_F k.2.2.1),pF (bq_F k.2.2.2),pT (decide_eq_true (show (0:Int)<1+nV L 4 3 by omega)),pT (bq_T g0),pT (decide_eq_true (show (0+1:Int)<1+nV L 4 3 by omega)),pT (bq_T g1),pT (decide_eq_true (show (0+1+1:Int)<1+nV L 4 3 by omega)),pF (bq_F g2),pF (decide_eq_false (show ¬(0+1+1+1:Int)<1+nV L 4 3 by omega))] (by kernel_rfl)
theorem path_3TFT(L:List Int)(k:NoK L)(hm:nV L 4 3=2)(g0:nV L 7 2=1)(g1:¬nV L 13 2=1)(g2:nV L 16 2=1):Fok Tryz.prog 40 [⟨false,[.ds L]⟩] (.one (shdV (shL' 1 (pathL L 3 5 (nV L 0 50) (nV L 1 50)) (nV L 3 6)))):=by
 simp only[pathL,pathE,pathN,Nat.reduceAdd,path_T (a:=5) g0,path_F (a:=11) g1,path_T (a:=14) g2,if_true,if_false,Bool.false_eq_true]
 exact fokS [xNext] KMd [false,false,false,false,true,true,true,false,true,true,false] [pF (bq_F k.1),pF (bq_F k.2.1),pF (bq_F k.2.2.1),pF (bq_F k.2.2.2),pT (decide_eq_true (show (0:Int)<1+nV L 4 3 by omega)),pT (bq_T g0),pT (decide_eq_true (show (0+1:Int)<1+nV L 4 3 by omega)),pF (bq_F g1),pT (decide_eq_true (show (0+1+1:Int)<1+nV L 4 3 by omega)),pT (bq_T g2),pF (decide_eq_false (show ¬(0+1+1+1:Int)<1+nV L 4 3 by omega))] (by kernel_rfl)
theorem path_3TFF(L:List Int)(k:NoK L)(hm:nV L 4 3=2)(g0:nV L 7 2=1)(g1:¬nV L 13 2=1)(g2:¬nV L 16 2=1):Fok Tryz.prog 40 [⟨false,[.ds L]⟩] (.one (shdV (shL' 1 (pathL L 3 5 (nV L 0 50) (nV L 1 50)) (nV L 3 6)))):=by
 simp only[pathL,pathE,pathN,Nat.reduceAdd,path_T (a:=5) g0,path_F (a:=11) g1,path_F (a:=14) g2,if_true,if_false,Bool.false_eq_true]
 exact fokS [xNext] KMd [false,false,false,false,true,true,true,false,true,false,false] [pF (bq_F k.1),pF (bq_F k.2.1),pF (bq_F k.2.2.1),pF (bq_F k.2.2.2),pT (decide_eq_true (show (0:Int)<1+nV L 4 3 by omega)),pT (bq_T g0),pT (decide_eq_true (show (0+1:Int)<1+nV L 4 3 by omega)),pF (bq_F g1),pT (decide_eq_true (show (0+1+1:Int)<1+nV L 4 3 by omega)),pF (bq_F g2),pF (decide_eq_false (show ¬(0+1+1+1:Int)<1+nV L 4 3 by omega))] (by kernel_rfl)
theorem path_3FTT(L:List Int)(k:NoK L)(hm:nV L 4 3=2)(g0:¬nV L 7 2=1)(g1:nV L 10 2=1)(g2:nV L 16 2=1):Fok Tryz.prog 40 [⟨false,[.ds L]⟩] (.one (shdV (shL' 1 (pathL L 3 5 (nV L 0 50) (nV L 1 50)) (nV L 3 6)))):=by
 simp only[pathL,pathE,pathN,Nat.reduceAdd,path_F (a:=5) g0,path_T (a:=8) g1,path_T (a:=14) g2,if_true,if_false,Bool.false_eq_true]
 exact fokS [xNext] KMd [false,false,false,false,true,false,true,true,true,true,false] [pF (bq_F k.1),pF (bq_F k.2.1),pF (bq_F k.2.2.1),pF (bq_F k.2.2.2),pT (decide_eq_true (show (0:Int)<1+nV L 4 3 by omega)),pF (bq_F g0),pT (decide_eq_true (show (0+1:Int)<1+nV L 4 3 by omega)),pT (bq_T g1),pT (decide_eq_true (show (0+1+1:Int)<1+nV L 4 3 by omega)),pT (bq_T g2),pF (decide_eq_false (show ¬(0+1+1+1:Int)<1+nV L 4 3 by omega))] (by kernel_rfl)
theorem path_3FTF(L:List Int)(k:NoK L)(hm:nV L 4 3=2)(g0:¬nV L 7 2=1)(g1:nV L 10 2=1)(g2:¬nV L 16 2=1):Fok Tryz.prog 40 [⟨false,[.ds L]⟩] (.one (shdV (shL' 1 (pathL L 3 5 (nV L 0 50) (nV L 1 50)) (nV L 3 6)))):=by
 simp only[pathL,pathE,pathN,Nat.reduceAdd,path_F (a:=5) g0,path_T (a:=8) g1,path_F (a:=14) g2,if_true,if_false,Bool.false_eq_true]
 exact fokS [xNext] KMd [false,false,false,false,true,false,true,true,true,false,false] [pF (bq_F k.1),pF (bq_F k.2.1),pF (bq_F k.2.2.1),pF (bq_F k.2.2.2),pT (decide_eq_true (show (0:Int)<1+nV L 4 3 by omega)),pF (bq_F g0),pT (decide_eq_true (show (0+1:Int)<1+nV L 4 3 by omega)),pT (bq_T g1),pT (decide_eq_true (show (0+1+1:Int)<1+nV L 4 3 by omega)),pF (bq_F g2),pF (decide_eq_false (show ¬(0+1+1+1:Int)<1+nV L 4 3 by omega))] (by kernel_rfl)
theorem path_3FFT(L:List Int)(k:NoK L)(hm:nV L 4 3=2)(g0:¬nV L 7 2=1)(g1:¬nV L 10 2=1)(g2:nV L 13 2=1):Fok Tryz.prog 40 [⟨false,[.ds L]⟩] (.one (shdV (shL' 1 (pathL L 3 5 (nV L 0 50) (nV L 1 50)) (nV L 3 6)))):=by
 simp only[pathL,pathE,pathN,Nat.reduceAdd,path_F (a:=5) g0,path_F (a:=8) g1,path_T (a:=11) g2,if_true,if_false,Bool.false_eq_true]
 exact fokS [xNext] KMd [false,false,false,false,true,false,true,false,true,true,false] [pF (bq_F k.1),pF (bq_F k.2.1),pF (bq_F k.2.2.1),pF (bq_F k.2.2.2),pT (decide_eq_true (show (0:Int)<1+nV L 4 3 by omega)),pF (bq_F g0),pT (decide_eq_true (show (0+1:Int)<1+nV L 4 3 by omega)),pF (bq_F g1),pT (decide_eq_true (show (0+1+1:Int)<1+nV L 4 3 by omega)),pT (bq_T g2),pF (decide_eq_false (show ¬(0+1+1+1:Int)<1+nV L 4 3 by omega))] (by kernel_rfl)
theorem path_3FFF(L:List Int)(k:NoK L)(hm:nV L 4 3=2)(g0:¬nV L 7 2=1)(g1:¬nV L 10 2=1)(g2:¬nV L 13 2=1):Fok Tryz.prog 40 [⟨false,[.ds L]⟩] (.one (shdV (shL' 1 (pathL L 3 5 (nV L 0 50) (nV L 1 50)) (nV L 3 6)))):=by
 simp only[pathL,pathE,pathN,Nat.reduceAdd,path_F (a:=5) g0,path_F (a:=8) g1,path_F (a:=11) g2,if_true,if_false,Bool.false_eq_true]
 exact fokS [xNext] KMd [false,false,false,false,true,false,true,false,true,false,false] [pF (bq_F k.1),pF (bq_F k.2.1),pF (bq_F k.2.2.1),pF (bq_F k.2.2.2),pT (decide_eq_true (show (0:Int)<1+nV L 4 3 by omega)),pF (bq_F g0),pT (decide_eq_true (show (0+1:Int)<1+nV L 4 3 by omega)),pF (bq_F g1),pT (decide_eq_true (show (0+1+1:Int)<1+nV L 4 3 by omega)),pF (bq_F g2),pF (decide_eq_false (show ¬(0+1+1+1:Int)<1+nV L 4 3 by omega))] (by kernel_rfl)
theorem made_fok(L:List Int):Fok Tryz.prog 40 [⟨false,[.ds L]⟩] (.one (shdV (madeS L))):=by
 by_cases h0:nV L 2 6=0
 ·exact made_0 L h0
 by_cases h1:nV L 2 6=1
 ·exact made_1 L h0 h1
 by_cases h2:nV L 2 6=2
 ·exact made_2 L h0 h1 h2
 by_cases h3:nV L 2 6=3
 ·exact made_3 L h0 h1 h2 h3
 have k:NoK L:=⟨h0,h1,h2,h3⟩
 have hb:=nV_bd L 4 (m:=3) (by omega)
 unfold madeS
 simp only[if_neg h0,if_neg h1,if_neg h2,if_neg h3]
 obtain hm|hm|hm:nV L 4 3=0\/nV L 4 3=1\/nV L 4 3=2:=by omega
 ·rw [show (1 + nV L 4 3).toNat = 1 by omega]
  by_cases g0:nV L 7 2=1
  ·exact path_1T L k hm g0
  ·exact path_1F L k hm g0
 ·rw [show (1 + nV L 4 3).toNat = 2 by omega]
  by_cases g0:nV L 7 2=1
  ·by_cases g1 : nV L 13 2 = 1
   ·exact path_2TT L k hm g0 g1
   ·exact path_2TF L k hm g0 g1
  ·by_cases g1 : nV L 10 2 = 1
   ·exact path_2FT L k hm g0 g1
   ·exact path_2FF L k hm g0 g1
 ·rw [show (1 + nV L 4 3).toNat = 3 by omega]
  by_cases g0:nV L 7 2=1
  ·by_cases g1 : nV L 13 2 = 1
   ·by_cases g2 : nV L 19 2 = 1
    ·exact path_3TTT L k hm g0 g1 g2
    ·exact path_3TTF L k hm g0 g1 g2
   ·by_cases g2 : nV L 16 2 = 1
    ·exact path_3TFT L k hm g0 g1 g2
    ·exact path_3TFF L k hm g0 g1 g2
  ·by_cases g1 : nV L 10 2 = 1
   ·by_cases g2 : nV L 16 2 = 1
    ·exact path_3FTT L k hm g0 g1 g2
    ·exact path_3FTF L k hm g0 g1 g2
   ·by_cases g2 : nV L 13 2 = 1
    ·exact path_3FFT L k hm g0 g1 g2
    ·exact path_3FFF L k hm g0 g1 g2
end

set_option maxRecDepth 100000
section
def dEd:Dec where
 α:=Ed
 C:=fun e=>⟨true,edI e⟩
 d:=fun|⟨true,[.i k _,.i ax _,.i ay _,.i bx _,.i by' _,.i cx _,.i cy _]⟩=>some (⟨k,ax,ay,bx,by',cx,cy⟩,[])|_=>none
 ok:=by
  intro v a ps h hp W x hr
  split at h<;>cases h
  obtain⟨cs,⟨_,_,rfl,⟨rfl,_,i1⟩,_,_,rfl,⟨rfl,_,i2⟩,_,_,rfl,⟨rfl,_,i3⟩,_,_,rfl,⟨rfl,_,i4⟩,_,_,rfl,⟨rfl,_,i5⟩,_,_,rfl,⟨rfl,_,i6⟩,_,_,rfl,⟨rfl,_,i7⟩,rfl⟩,e,_⟩:=hr
  exact⟨_,⟨_,_,rfl,⟨rfl,i64_lim i1,i1⟩,_,_,rfl,⟨rfl,i64_lim i2,i2⟩,_,_,rfl,⟨rfl,i64_lim i3,i3⟩,_,_,rfl,⟨rfl,i64_lim i4,i4⟩,_,_,rfl,⟨rfl,i64_lim i5,i5⟩,_,_,rfl,⟨rfl,i64_lim i6,i6⟩,_,[],rfl,⟨rfl,i64_lim i7,i7⟩,rfl⟩,e,nofun⟩
def mvE9(m:Mot)(e:Ed):Ed :=
 let a:=mvP m (e.ax,e.ay)
 let b:=mvP m (e.bx,e.by')
 let c:=if e.k=1 then (e.cx,e.cy) else mvP m (e.cx,e.cy)
 ⟨e.k,a.1,a.2,b.1,b.2,c.1,c.2⟩
structure MvE (e:Ed) (m:Mot):Prop where
 mf:m.m=false
 a:moOk m (e.ax,e.ay)
 b:moOk m (e.bx,e.by')
 c:moOk m (e.cx,e.cy)
theorem d6mv_ok(e:Ed)(m:Mot)(h:MvE e m):Fok Tryz.prog 118 [⟨true,edI e⟩,⟨true,moI m⟩] (.one ⟨true,edI (mvE9 m e)⟩):=by
 by_cases hk:e.k=1
 ·rw [show mvE9 m e = ⟨e.k, (mvP m (e.ax, e.ay)).1, (mvP m (e.ax, e.ay)).2, (mvP m (e.bx, e.by')).1, (mvP m (e.bx, e.by')).2, e.cx, e.cy⟩ by unfold mvE9; simp only [if_pos hk]]
  exact fok [dAp] [false,false] [pP h.a,pP h.b,pF (neF hk),pF h.mf] (by kernel_rfl)
 ·rw [show mvE9 m e = ⟨e.k, (mvP m (e.ax, e.ay)).1, (mvP m (e.ax, e.ay)).2, (mvP m (e.bx, e.by')).1, (mvP m (e.bx, e.by')).2, (mvP m (e.cx, e.cy)).1, (mvP m (e.cx, e.cy)).2⟩ by unfold mvE9; simp only [if_neg hk]]
  exact fok [dAp] [true,false] [pP h.a,pP h.b,pT (neT hk),pP h.c,pF h.mf] (by kernel_rfl)
def d6Mv:Con:=con2 dEd dMo 118 (fun e m=>.one ⟨true,edI (mvE9 m e)⟩) (fun e m=>[MvE e m]) fun e m h=>d6mv_ok e m h.1
def K9M:List Con:=[d6Mv]
theorem r9mv_1(k r:Int)(e:Nat->Ed)(m:Mot)(h:∀i,i<1->MvE (e i) m):Fok Tryz.prog 58 [shpV ⟨k,1,e,r⟩,⟨true,moI m⟩] (.one (shdV (shL' k [mvE9 m (e 0)] r))) :=
 fokS [] K9M [true,false] [pT (show decide ((0:Int)<((1:Nat):Int))=true by decide),pP (show 0<=(0:Int)/\(0:Int)<((1:Nat):Int) by decide),pP (h 0 (by decide)),pF (show decide ((0:Int)+1<((1:Nat):Int))=false by decide)] (by kernel_rfl)
theorem r9mv_2(k r:Int)(e:Nat->Ed)(m:Mot)(h:∀i,i<2->MvE (e i) m):Fok Tryz.prog 58 [shpV ⟨k,2,e,r⟩,⟨true,moI m⟩] (.one (shdV (shL' k [mvE9 m (e 0),mvE9 m (e 1)] r))) :=
 fokS [] K9M [true,true,false] [pT (show decide ((0:Int)<((2:Nat):Int))=true by decide),pP (show 0<=(0:Int)/\(0:Int)<((2:Nat):Int) by decide),pP (h 0 (by decide)),pT (show decide ((0:Int)+1<((2:Nat):Int))=true by decide),pP (show 0<=(0:Int)+1/\(0:Int)+1<((2:Nat):Int) by decide),pP (h 1 (by decide)),pF (show decide ((0:Int)+1+1<((2:Nat):Int))=false by decide)] (by kernel_rfl)
theorem r9mv_3(k r:Int)(e:Nat->Ed)(m:Mot)(h:∀i,i<3->MvE (e i) m):Fok Tryz.prog 58 [shpV ⟨k,3,e,r⟩,⟨true,moI m⟩] (.one (shdV (shL' k [mvE9 m (e 0),mvE9 m (e 1),mvE9 m (e 2)] r))) :=
 fokS [] K9M [true,true,true,false] [pT (show decide ((0:Int)<((3:Nat):Int))=true by decide),pP (show 0<=(0:Int)/\(0:Int)<((3:Nat):Int) by decide),pP (h 0 (by decide)),pT (show decide ((0:Int)+1<((3:Nat):Int))=true by decide),pP (show 0<=(0:Int)+1/\(0:Int)+1<((3:Nat):Int) by decide),pP (h 1 (by decide)),pT (show decide ((0:Int)+1+1<((3:Nat):Int))=true by decide),pP (show 0<=(0:Int)+1+1/\(0:Int)+1+1<((3:Nat):Int) by decide),pP (h 2 (by decide)),pF (show decide ((0:Int)+1+1+1<((3:Nat):Int))=false by decide)] (by kernel_rfl)
theorem r9mv_4(k r:Int)(e:Nat->Ed)(m:Mot)(h:∀i,i<4->MvE (e i) m):Fok Tryz.prog 58 [shpV ⟨k,4,e,r⟩,⟨true,moI m⟩] (.one (shdV (shL' k [mvE9 m (e 0),mvE9 m (e 1),mvE9 m (e 2),mvE9 m (e 3)] r))) :=
 fokS [] K9M [true,true,true,true,false] [pT (show decide ((0:Int)<((4:Nat):Int))=true by decide),pP (show 0<=(0:Int)/\(0:Int)<((4:Nat):Int) by decide),pP (h 0 (by decide)),pT (show decide ((0:Int)+1<((4:Nat):Int))=true by decide),pP (show 0<=(0:Int)+1/\(0:Int)+1<((4:Nat):Int) by decide),pP (h 1 (by decide)),pT (show decide ((0:Int)+1+1<((4:Nat):Int))=true by decide),pP (show 0<=(0:Int)+1+1/\(0:Int)+1+1<((4:Nat):Int) by decide),pP (h 2 (by decide)),pT (show decide ((0:Int)+1+1+1<((4:Nat):Int))=true by decide),pP (show 0<=(0:Int)+1+1+1/\(0:Int)+1+1+1<((4:Nat):Int) by decide),pP (h 3 (by decide)),pF (show decide ((0:Int)+1+1+1+1<((4:Nat):Int))=false by decide)] (by kernel_rfl)
theorem r9mv_8(k r:Int)(e:Nat->Ed)(m:Mot)(h:∀i,i<8->MvE (e i) m):Fok Tryz.prog 58 [shpV ⟨k,8,e,r⟩,⟨true,moI m⟩] (.one (shdV (shL' k [mvE9 m (e 0),mvE9 m (e 1),mvE9 m (e 2),mvE9 m (e 3),mvE9 m (e 4),mvE9 m (e 5),mvE9 m (e 6),mvE9 m (e 7)] r))) :=
 fokS [] K9M [true,true,true,true,true,true,true,true,false] [pT (show decide ((0:Int)<((8:Nat):Int))=true by decide),pP (show 0<=(0:Int)/\(0:Int)<((8:Nat):Int) by decide),pP (h 0 (by decide)),pT (show decide ((0:Int)+1<((8:Nat):Int))=true by decide),pP (show 0<=(0:Int)+1/\(0:Int)+1<((8:Nat):Int) by decide),pP (h 1 (by decide)),pT (show decide ((0:Int)+1+1<((8:Nat):Int))=true by decide),pP (show 0<=(0:Int)+1+1/\(0:Int)+1+1<((8:Nat):Int) by decide),pP (h 2 (by decide)),pT (show decide ((0:Int)+1+1+1<((8:Nat):Int))=true by decide),pP (show 0<=(0:Int)+1+1+1/\(0:Int)+1+1+1<((8:Nat):Int) by decide),pP (h 3 (by decide)),pT (show decide ((0:Int)+1+1+1+1<((8:Nat):Int))=true by decide),pP (show 0<=(0:Int)+1+1+1+1/\(0:Int)+1+1+1+1<((8:Nat):Int) by decide),pP (h 4 (by decide)),pT (show decide ((0:Int)+1+1+1+1+1<((8:Nat):Int))=true by decide),pP (show 0<=(0:Int)+1+1+1+1+1/\(0:Int)+1+1+1+1+1<((8:Nat):Int) by decide),pP (h 5 (by decide)),pT (show decide ((0:Int)+1+1+1+1+1+1<((8:Nat):Int))=true by decide),pP (show 0<=(0:Int)+1+1+1+1+1+1/\(0:Int)+1+1+1+1+1+1<((8:Nat):Int) by decide),pP (h 6 (by decide)),pT (show decide ((0:Int)+1+1+1+1+1+1+1<((8:Nat):Int))=true by decide),pP (show 0<=(0:Int)+1+1+1+1+1+1+1/\(0:Int)+1+1+1+1+1+1+1<((8:Nat):Int) by decide),pP (h 7 (by decide)),pF (show decide ((0:Int)+1+1+1+1+1+1+1+1<((8:Nat):Int))=false by decide)] (by kernel_rfl)
theorem edC_cg{W:World}{n:Nat}{f g:Nat->List (Int×Nat)}{v:Value}(h:∀i,i<n->f i=g i):EdC W n f v->EdC W n g v
 | ⟨a,c,e,h1,h2,h3⟩=>⟨a,c,e,h1,h2,fun i hi=>by rw[<- h i hi];exact h3 i hi⟩
theorem shd_cg{k r:Int}{n:Nat}{e e':Nat->Ed}(h:∀i,i<n->e i=e' i){V W:World}{x:Value}:RepA V W (fun _=>0) 0 (.one (shdV ⟨k,n,e,r⟩)) x->RepA V W (fun _=>0) 0 (.one (shdV ⟨k,n,e',r⟩)) x
 | ⟨cs,⟨c1,_,e1,h1,c2,_,e2,⟨v,e3,h2⟩,h3⟩,h4⟩=>⟨cs,⟨c1,_,e1,h1,c2,_,e2,⟨v,e3,edC_cg (fun i hi=>congrArg e7 (h i hi)) h2⟩,h3⟩,h4⟩
def mvS9(m:Mot)(s:Sh):Sh:=⟨s.k,s.n,fun i=>mvE9 m (s.e i),s.r⟩
structure Mv9 (s:Sh) (m:Mot):Prop where
 n:s.n=1\/s.n=2\/s.n=3\/s.n=4\/s.n=8
 e:∀i,i<s.n->MvE (s.e i) m
theorem r9mv_ok(s:Sh)(m:Mot)(h:Mv9 s m):Fok Tryz.prog 58 [shpV s,⟨true,moI m⟩] (.one (shdV (mvS9 m s))):=by
 obtain⟨k,n,e,r⟩:=s
 obtain⟨hn,he⟩:=h
 simp only at hn he
 rcases hn with rfl|rfl|rfl|rfl|rfl
 ·refine (r9mv_1 k r e m he).mono fun _ _ _ => shd_cg (k := k) (r := r) (n := 1) (e' := fun i => mvE9 m (e i)) fun i hi => ?_
  rcases (by omega:i=0) with rfl
  all_goals rfl
 ·refine (r9mv_2 k r e m he).mono fun _ _ _ => shd_cg (k := k) (r := r) (n := 2) (e' := fun i => mvE9 m (e i)) fun i hi => ?_
  rcases (by omega:i=0\/i=1) with rfl|rfl
  all_goals rfl
 ·refine (r9mv_3 k r e m he).mono fun _ _ _ => shd_cg (k := k) (r := r) (n := 3) (e' := fun i => mvE9 m (e i)) fun i hi => ?_
  rcases (by omega:i=0\/i=1\/i=2) with rfl|rfl|rfl
  all_goals rfl
 ·refine (r9mv_4 k r e m he).mono fun _ _ _ => shd_cg (k := k) (r := r) (n := 4) (e' := fun i => mvE9 m (e i)) fun i hi => ?_
  rcases (by omega:i=0\/i=1\/i=2\/i=3) with rfl|rfl|rfl|rfl
  all_goals rfl
 ·refine (r9mv_8 k r e m he).mono fun _ _ _ => shd_cg (k := k) (r := r) (n := 8) (e' := fun i => mvE9 m (e i)) fun i hi => ?_
  rcases (by omega:i=0\/i=1\/i=2\/i=3\/i=4\/i=5\/i=6\/i=7) with rfl|rfl|rfl|rfl|rfl|rfl|rfl|rfl
  all_goals rfl
def d9Mv:Con:=con2 dSh dMo 58 (fun s m=>.one (shdV (mvS9 m s))) (fun s m=>[Mv9 s m]) fun s m h=>r9mv_ok s m h.1
end

set_option maxRecDepth 100000
section
def cMd10:Con where
 f:=40
 g:=fun | [⟨false,[.ds L]⟩]=>some (.one (shdV (madeS L)),[])|_=>none
 ok:=by
  intro args res ps h hp
  split at h<;>cases h
  exact made_fok _
def dRc:Dec where
 α:=Int×Int×Int×Int
 C:=fun a=>⟨true,[.i a.1 lim,.i a.2.1 lim,.i a.2.2.1 lim,.i a.2.2.2 lim]⟩
 d:=fun|⟨true,[.i x _,.i y _,.i z _,.i u _]⟩=>some ((x,y,z,u),[])|_=>none
 ok:=by
  intro v a ps h hp W x hr
  split at h<;>cases h
  obtain⟨cs,⟨_,_,rfl,⟨rfl,_,i1⟩,_,_,rfl,⟨rfl,_,i2⟩,_,_,rfl,⟨rfl,_,i3⟩,_,_,rfl,⟨rfl,_,i4⟩,rfl⟩,e,_⟩:=hr
  exact⟨_,⟨_,_,rfl,⟨rfl,i64_lim i1,i1⟩,_,_,rfl,⟨rfl,i64_lim i2,i2⟩,_,_,rfl,⟨rfl,i64_lim i3,i3⟩,_,[],rfl,⟨rfl,i64_lim i4,i4⟩,rfl⟩,e,nofun⟩
theorem rect9_ok(x y z u:Int):Fok Tryz.prog 50 [dRc.C (x,y,z,u)] (.one (shdV (rectS x y z u))):=fokS [] [] [] [] (by kernel_rfl)
def dRect:Con:=con1 dRc 50 (fun a=>.one (shdV (rectS a.1 a.2.1 a.2.2.1 a.2.2.2))) (fun _=>[]) fun a _=>rect9_ok _ _ _ _
def drwQ(L:List Int)(k:Nat):Drw :=
 if decide ((k:Int)<5)&&!(nV L 0 8==7) then ⟨rectS (nV L 1 40) (nV L 2 40) (nV L 1 40+1+nV L 3 40) (nV L 2 40+1+nV L 4 40),nV L 5 3==0⟩
 else ⟨madeS L,(nV L 0 8==7)&&(nV L 1 2==0)⟩
def f37:FuncId:=12
def dsI(L:List Int):List It:=[.ds L]
def d37(n:Nat)(Ls:Nat->List Int)(j:Nat):Ds:=⟨[(0,.eq (rowV 1 dsI n Ls)),(3,.le (drsO j fun i=>drwQ (Ls i) i)),(4,.le (inV (j:Int) 2000))],[]⟩
def K37:List Con:=[cMd10,dRect]
theorem rwDr{d d':Drw}(h:d'=d):(drI d).map nrmR=drI d':=by rw[h];rfl
def q37(n j:Nat)(Ls:Nat->List Int)(hj:j+1<=9)(r:List It)(h:r.map nrmR=drI (drwQ (Ls j) j)):List Pf:=[pP (show j+1<=1000 by omega),pR (rowV 1 dsI n Ls),qA drI (fun i=>drwQ (Ls i) i) j (j+1) r rfl h,pI j (by omega)]
theorem b_T{a b:Int}(h:a=b):(a==b)=true:=by simpa using h
theorem b_F{a b:Int}(h:¬a=b):(a==b)=false:=by simpa using h
theorem m37_r(n:Nat)(Ls:Nat->List Int)(j:Nat)(hn:j<n)(hj:j<9):Rnd [xAll,xNext] K37 f37 6 [] (nF f37) (d37 n Ls j) (d37 n Ls (j+1)) .nm:=by
 have c0:Pf:=pT (ltT (show (j:Int)<(n:Int) by omega))
 have ix:0<=(j:Int)/\(j:Int)<(n:Int):=by omega
 by_cases h5:j<5
 ·have h5' : decide ((j : Int) < 5) = true := ltT (by omega)
  by_cases h7:nV (Ls j) 0 8=7
  ·have h7' : (nV (Ls j) 0 8 == 7) = true := b_T h7
   exact⟨[true,true,true,false,true],[pT (ltT (show (j:Int)<(n:Int) by omega)),pT (ltT (show (j:Int)<9 by omega)),pP ix,pT h5',pF (show (!(nV (Ls j) 0 8==7))=false by rw[h7'];rfl),pP ix,pT h7']++q37 n j Ls hj (drI ⟨madeS (Ls j),nV (Ls j) 1 2==0⟩) (rwDr (by simp[drwQ,h7])),by kernel_rfl⟩
  ·have h7' : (nV (Ls j) 0 8 == 7) = false := b_F h7
   exact⟨[true,true,true,true],[pT (ltT (show (j:Int)<(n:Int) by omega)),pT (ltT (show (j:Int)<9 by omega)),pP ix,pT h5',pT (show (!(nV (Ls j) 0 8==7))=true by rw[h7'];rfl)]++q37 n j Ls hj (drI ⟨rectS (nV (Ls j) 1 40) (nV (Ls j) 2 40) (nV (Ls j) 1 40+1+nV (Ls j) 3 40) (nV (Ls j) 2 40+1+nV (Ls j) 4 40),nV (Ls j) 5 3==0⟩) (rwDr (by unfold drwQ;rw[h5',h7'];rfl)),by kernel_rfl⟩
 ·have h5' : decide ((j : Int) < 5) = false := ltF (by omega)
  by_cases h7:nV (Ls j) 0 8=7
  ·have h7' : (nV (Ls j) 0 8 == 7) = true := b_T h7
   exact⟨[true,true,false,true],[pT (ltT (show (j:Int)<(n:Int) by omega)),pT (ltT (show (j:Int)<9 by omega)),pP ix,pF h5',pP ix,pT h7']++q37 n j Ls hj (drI ⟨madeS (Ls j),nV (Ls j) 1 2==0⟩) (rwDr (by simp[drwQ,h7])),by kernel_rfl⟩
  ·have h7' : (nV (Ls j) 0 8 == 7) = false := b_F h7
   exact⟨[true,true,false,false],[pT (ltT (show (j:Int)<(n:Int) by omega)),pT (ltT (show (j:Int)<9 by omega)),pP ix,pF h5',pP ix,pF h7']++q37 n j Ls hj [.i (madeS (Ls j)).k lim,edD (madeS (Ls j)).n (madeS (Ls j)).e,.i (madeS (Ls j)).r lim,.b false] (rwDr (d:=⟨madeS (Ls j),false⟩) (by unfold drwQ;rw[h5',h7'];rfl)),by kernel_rfl⟩
def z37(m:Nat)(Ls:Nat->List Int):Ds:=⟨[(3,.le (drsO m fun i=>drwQ (Ls i) i))],[]⟩
theorem m37_ok(n:Nat)(Ls:Nat->List Int):Fok Tryz.prog f37 [rowV 1 dsI n Ls] (.one (drsO (min n 9) fun i=>drwQ (Ls i) i)):=by
 have B:=fun (m:Nat) (e1:min n 9=m) he=>orc (X:=[xAll,xNext]) (K:=K37) (f:=f37) (id:=6) (n:=nF f37) m (d37 n Ls) (fun _=>[]) (e:=.ex 0) (d1:=z37 m Ls) (by kernel_rfl) (fun _=>by kernel_rfl) (fun _ _=>LT.nil) (fun k hk=>m37_r n Ls k (by omega) (by omega)) he nofun
 have fin:∀m,min n 9=m->Rnd [xAll,xNext] K37 f37 6 [] (nF f37) (d37 n Ls m) (z37 m Ls) (.ex 0)->Fok Tryz.prog f37 [rowV 1 dsI n Ls] (.one (drsO m fun i=>drwQ (Ls i) i)):=fun m e1 he =>
  fokL [xAll,xNext] K37 _ (LT.cons (B m e1 he) LT.nil) [] [pR (rowV 1 dsI n Ls),⟨(0:Nat)=0,rfl⟩,q0] (by kernel_rfl)
 by_cases h9:n<=9
 ·rw [Nat.min_eq_left h9]
  exact fin n (Nat.min_eq_left h9) ⟨[false],[pF (ltF (show ¬(n:Int)<(n:Int) by omega)),qL drI (fun i=>drwQ (Ls i) i) n n rfl],by kernel_rfl⟩
 ·rw [Nat.min_eq_right (by omega)]
  exact fin 9 (Nat.min_eq_right (by omega)) ⟨[true,false],[pT (ltT (show ((9:Nat):Int)<(n:Int) by omega)),pF (ltF (show ¬((9:Nat):Int)<9 by omega)),qL drI (fun i=>drwQ (Ls i) i) 9 9 rfl],by kernel_rfl⟩
end
end Go.Proofs.YtghemgdfmldoeaaGreat
