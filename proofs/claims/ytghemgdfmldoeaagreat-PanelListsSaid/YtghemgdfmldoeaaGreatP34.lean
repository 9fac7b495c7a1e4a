import Derived.Test.YtghemgdfmldoeaaGreatP33
import Derived.WalkMore
set_option linter.unusedVariables false
set_option linter.unusedSimpArgs false
namespace Go.Proofs.YtghemgdfmldoeaaGreat
open Go.RowKit
set_option maxRecDepth 100000
section
def jb(s:Sh):List It:=(bh s).l
def q9(a b:Sh):Int:=IntKind.i64.wrap (IntKind.i64.wrap (0-a.r)-b.r)
def xi(a b:Sh):Rt:=(dc (q9 a b) 0 (ai 0) (ai 1)).1
def LD:List ah:=[ve,xZ,WA]
theorem r13(a:Act)(W:World)(s u:Sh)(B2 B3:Nat)(Q:Exit->Act->World->Prop)(hsz:a.tmps.size=94)(h2:a.tmps.getD 2 undef=aT B2)(h3:a.tmps.getD 3 undef=aT B3)(g2:eL W B2 (jb s))(g3:eL W B3 (jb u))
  (hQ:∀a' W',a'.tmps.size=94->a'.defers=a.defers->(∀t,ig (gR 13) t=true->a'.tmps.getD t undef=a.tmps.getD t undef)->ac W W'->(∃p,a'.tmps.getD 14 undef=aT p/\eL W' p (dX (xi s u)).l)->Q .normal a' W'):(Code.region 13 (gR 13).toArray true).wp Tryz.prog Q a W:=by
 refine a4A (X:=[]) (K:=LD) (n:=94) (d:=⟨[(2,.eq (fX (jb s))),(3,.eq (fX (jb u)))],[]⟩) (d':=⟨[(14,.eq (ak 0))],[some ⟨85,(dX (xi s u)).l⟩]⟩) (q:=[]) ([pR (ak 0)]++I4 (xi s u)) (by kernel_rfl) (sJ hsz λz hz=>?_) λa' W1 hJ hoff=>?_
 ·simp only [List.mem_cons, List.not_mem_nil, or_false] at hz;rcases hz with rfl|rfl
  ·rw[h2];exact g2.rv
  ·rw[h3];exact g3.rv
 ·obtain ⟨h1, h2, r, h3, h4⟩ := MO hJ;exact hQ _ _ h2 rfl hoff h1 ⟨r 0,(List.cons.inj (h3 14 (ak 0) (by kernel_rfl)).scal.2).1,(h4 0 _ rfl (by kernel_rfl)).1⟩
theorem OI{P:Program}{o:Oper}{a:Act}{x:Operand}(ho:o.op=.assign x)(w:World):(execOp a.eval o).run P w=.ok (.value (a.eval x)) w:=by
 unfold execOp;rw[ho];rfl
theorem OL{P:Program}{o:Oper}{a:Act}{x:Operand}(ho:o.op=.move x)(w:World):(execOp a.eval o).run P w=.ok (.value (a.eval x)) w:=by
 unfold execOp;rw[ho];rfl
theorem fa.one{W:World}{g:Gp}{cs:List Value}(h:fa W g cs):cs.length=21/\∀v∈cs,v.oneCell'=true:=by
 obtain⟨n,p,l,c,m,q,k,d,rfl,_⟩:=h;refine⟨rfl,λv hv=>?_⟩;simp only[List.mem_cons,List.not_mem_nil,or_false] at hv;rcases hv with rfl|rfl|rfl|rfl|rfl|rfl|rfl|rfl|rfl|rfl|rfl|rfl|rfl|rfl|rfl|rfl|rfl|rfl|rfl|rfl|rfl<;>rfl
structure xI (a a':Act) (W W':World) (B4:Nat) (b:Bool) (vs:List Value):Prop where
 df:a'.defers=a.defers
 t4:a'.tmps.getD 4 undef=aT B4
 t5:a'.tmps.getD 5 undef=.bool b
 on:fR B4 W W'
 c:W'.heap[B4]? = some (.cells vs.toArray 89)
theorem KH{ops:Array Oper}{o1 o2:Oper}(a:Act)(W:World)(t B4:Nat)(b:Bool)(vs:List Value)(Q:Act->World->Prop)(h1:o1.op=.store 89 (.tmp 4) (.tmp t))(h2:o2.op=.assign (.const (.bool b)))(d1:o1.dst=none)(d2:o2.dst=some 5)(g1:o1.guard=none)(g2:o2.guard=none)(hsz:a.tmps.size=94)
  (h4:a.tmps.getD 4 undef=aT B4) (ht:a.tmps.getD t undef=.agg vs.toArray) (hl:vs.length=21) (hv:∀v∈vs,v.oneCell'=true) (hB:W.heap[B4]? = some (.cells dS.toArray 89)) (hQ:∀a' W',xI a a' W W' B4 b vs->Q a' W'):aF Tryz.prog ops Q [o1,o2] a W:=by
 obtain⟨k1,k2⟩:=lP (cs':=(dS.take 0++(vs++dS.drop (0+vs.length))).toArray) hB;refine Aj (W:=W.setRow B4 (dS.take 0++(vs++dS.drop (0+vs.length))).toArray) (by unfold Region.wanted;rw[g1]) ?_ ?_
 ·exact oQ h1 h4 hB (by rw[show a.eval (.tmp t)=a.tmps.getD t undef from rfl,ht];rfl) (by kernel_rfl) hl (by rw[hl];decide) hv
 ·have e1 : a.put o1.dst undef = a := by rw [d1]; rfl
  rw[e1];refine jN (by unfold Region.wanted;rw[g2]) (OI h2 _) ?_;rw[d2];refine hQ _ _ ⟨rfl,?_,ij (by rw[hsz];decide),k1,?_⟩
  ·simpa[Act.put,Array.getElem?_setIfInBounds] using h4
  ·rw [k2];simp only[List.take_zero,List.nil_append];rw[show dS.drop (0+vs.length)=[] by rw[hl];rfl,List.append_nil]
def Lc:List It:=[.k 0,.k 0,.k 0,.k 0,.k 0,.k 0,.k 0]
def yJ(r:Rt):List It:=.b true::([.i r.add lim,.i r.s lim,.o (.num r.n),.o (.num r.d)]++(Lc++Lc))
theorem a4S{V W:World}{r:Nat->Nat}{k:Nat}{n:Int}{l:List It}{cs:List Value}:aA V W r k (.k n::l) cs <-> I64 n/\∃d,cs=.int .i64 n::d/\aA V W r k l d :=
 ⟨λ⟨c,d,e,⟨h1,h2⟩,h3⟩=>⟨h2,d,by rw[e,h1];rfl,h3⟩,λ⟨h,d,e,h3⟩=>⟨[_],d,e,⟨rfl,h⟩,h3⟩⟩
theorem Z7{V W:World}{r:Nat->Nat}{k:Nat}{p:Rt}{cs:List Value}(h:aA V W r k (yJ p) cs):fa V ⟨true,p,Sp.no,Sp.no⟩ cs:=by
 simp only[yJ,Lc,List.cons_append,List.nil_append,SJ,bi,SK,a4S,fh] at h;obtain⟨_,rfl,⟨_,i1⟩,_,rfl,⟨_,i2⟩,_,rfl,n,p',l,c,h1,_,rfl,m,q,k',d,h2,_,rfl,z,_,rfl,_,_,rfl,_,_,rfl,_,_,rfl,_,_,rfl,_,_,rfl,_,_,rfl,_,_,rfl,_,_,rfl,_,_,rfl,_,_,rfl,_,_,rfl,_,_,rfl,_,_,rfl,rfl⟩:=h;exact⟨n,p',l,c,m,q,k',d,rfl,h1,h2,⟨i1,i2⟩,⟨z,z,z,z,z,z,z⟩,z,z,z,z,z,z,z⟩
theorem r14(a:Act)(W:World)(r:Rt)(B4 P14:Nat)(Q:Act->World->Prop)(hsz:a.tmps.size=94)(h4:a.tmps.getD 4 undef=aT B4)(h14:a.tmps.getD 14 undef=aT P14)(g14:eL W P14 (dX r).l)(hB:W.heap[B4]? = some (.cells dS.toArray 89))
  (hQ:∀a' W1 W' vs,ac W W1->fa W1 ⟨true,r,Sp.no,Sp.no⟩ vs->xI a a' W1 W' B4 true vs->Q a' W'):aF Tryz.prog (gR 14).toArray Q (gR 14) a W:=by
 have es:gR 14=((gR 14).take 2++[gO 14 2,gO 14 3]):=by kernel_rfl
 rw[show aF Tryz.prog (gR 14).toArray Q (gR 14) a W=aF Tryz.prog (gR 14).toArray Q ((gR 14).take 2++[gO 14 2,gO 14 3]) a W by rw[<- es]];refine xf ?_;refine sW (X:=[]) (K:=[]) (n:=94) (d:=⟨[(14,.eq (fX (dX r).l))],[]⟩) (d':=⟨[(77,.eq ⟨true,yJ r⟩)],[]⟩) (q:=[]) [pR ⟨true,yJ r⟩] (by kernel_rfl) (sJ hsz λz hz=>?_) λa' W1 hJ hoff=>?_
 ·simp only [List.mem_cons, List.not_mem_nil, or_false] at hz;subst hz;rw[h14];exact g14.rv
 ·obtain ⟨h1, h2, r', h3⟩ := xq hJ;obtain⟨ys,hy,e⟩:=bL.1 (h3 77 ⟨true,yJ r⟩ (by kernel_rfl));have hg:=Z7 hy;exact KH _ W1 77 B4 true ys Q (by kernel_rfl) (by kernel_rfl) (by kernel_rfl) (by kernel_rfl) (by kernel_rfl) (by kernel_rfl) h2 (by rw[show (cI a.defers a').tmps.getD 4 undef=a'.tmps.getD 4 undef from rfl,hoff 4 (by kernel_rfl)];exact h4) e hg.one.1 hg.one.2 (aH hB h1) λa2 W' h=>hQ a2 W1 W' ys h1 (hg.ext h1) ⟨h.df,h.t4,h.t5,h.on,h.c⟩
end
set_option maxRecDepth 100000
section
def QY(g:Gp):List Pf:=[⟨It.v (.bool g.m)=It.v (.bool g.m),rfl⟩]++(I4 g.d++(Dh g.a++Dh g.b))
def nH(Bl:Nat):Value:=.func (.func 130) #[] #[aT Bl]
def dG(g:Gp)(s u:Sh):Ds:=⟨[(16,.eq (ak 0)),(2,.eq (fX (jb s))),(3,.eq (fX (jb u)))],[some ⟨89,yI g⟩]⟩
theorem fa.rep{W:World}{g:Gp}{cs:List Value}(h:fa W g cs):aE W (yI g) cs:=by
 obtain⟨n,p,l,c,m,q,k,d,rfl,h1,h2,⟨i1,i2⟩,⟨j1,j2,j3,j4,j5,j6,j7⟩,k1,k2,k3,k4,k5,k6,k7⟩:=h;exact⟨[_],_,rfl,⟨rfl,rfl⟩,[_],_,rfl,⟨rfl,aP i1⟩,[_],_,rfl,⟨rfl,aP i2⟩,[_,_],_,rfl,⟨_,_,_,_,rfl,h1⟩,[_,_],_,rfl,⟨_,_,_,_,rfl,h2⟩,[_],_,rfl,⟨rfl,aP j1⟩,[_],_,rfl,⟨rfl,aP j2⟩,[_],_,rfl,⟨rfl,aP j3⟩,[_],_,rfl,⟨rfl,aP j4⟩,[_],_,rfl,⟨rfl,aP j5⟩,[_],_,rfl,⟨rfl,aP j6⟩,[_],_,rfl,⟨rfl,aP j7⟩,[_],_,rfl,⟨rfl,aP k1⟩,[_],_,rfl,⟨rfl,aP k2⟩,[_],_,rfl,⟨rfl,aP k3⟩,[_],_,rfl,⟨rfl,aP k4⟩,[_],_,rfl,⟨rfl,aP k5⟩,[_],_,rfl,⟨rfl,aP k6⟩,[_],[],rfl,⟨rfl,aP k7⟩,rfl⟩
theorem Z6{V W:World}{r:Nat->Nat}{k:Nat}{g:Gp}{cs:List Value}(h:aA V W r k (yI g) cs):fa W g cs:=by
 simp only[yI,dX,fQ,List.cons_append,List.nil_append,nU,bi,js,fh] at h;obtain⟨_,_,rfl,⟨_,i1⟩,_,rfl,⟨_,i2⟩,_,rfl,n,p',l,c,h1,_,rfl,m,q,k',d,h2,_,rfl,⟨_,j1⟩,_,rfl,⟨_,j2⟩,_,rfl,⟨_,j3⟩,_,rfl,⟨_,j4⟩,_,rfl,⟨_,j5⟩,_,rfl,⟨_,j6⟩,_,rfl,⟨_,j7⟩,_,rfl,⟨_,k1⟩,_,rfl,⟨_,k2⟩,_,rfl,⟨_,k3⟩,_,rfl,⟨_,k4⟩,_,rfl,⟨_,k5⟩,_,rfl,⟨_,k6⟩,_,rfl,⟨_,k7⟩,_,rfl,rfl⟩:=h;exact⟨n,p',l,c,m,q,k',d,rfl,h1,h2,⟨i1,i2⟩,⟨j1,j2,j3,j4,j5,j6,j7⟩,k1,k2,k3,k4,k5,k6,k7⟩
theorem cT{a:Act}{d t:Nat}{v:Value}(h:d≠t):(a.put (some d) v).tmps.getD t undef=a.tmps.getD t undef:=by simp[Act.put,Array.getElem?_setIfInBounds,h]
theorem r15(a:Act)(W:World)(g:Gp)(s u:Sh)(B2 B3 Bl:Nat)(Q:Act->World->Prop)(hsz:a.tmps.size=94)(h8:a.tmps.getD 8 undef=nH Bl)(h2:a.tmps.getD 2 undef=aT B2)(h3:a.tmps.getD 3 undef=aT B3)(g2:eL W B2 (jb s))(g3:eL W B3 (jb u))(gl:iu W Bl g)
  (hQ:∀a' W1 W',ac W W1->JJ W1 (bI 94 (dG g s u)) a' W'->(∀t,ig (gR 15) t=true->a'.tmps.getD t undef=a.tmps.getD t undef)->Q (cI a.defers a') W'):aF Tryz.prog (gR 15).toArray Q (gR 15) a W:=by
 have es:gR 15=gO 15 0::gO 15 1::(gR 15).drop 2:=by kernel_rfl
 have d0:(gO 15 0).dst=some 78:=by kernel_rfl
 have d1:(gO 15 1).dst=some 79:=by kernel_rfl
 rw[show aF Tryz.prog (gR 15).toArray Q (gR 15) a W=aF Tryz.prog (gR 15).toArray Q (gO 15 0::gO 15 1::(gR 15).drop 2) a W by rw[<- es]];refine jN (by kernel_rfl) (OL (x:=.tmp 8) (by kernel_rfl) W) ?_;rw[d0,show a.eval (.tmp 8)=nH Bl from h8];have e78:(a.put (some 78) (nH Bl)).eval (.tmp 78)=nH Bl:=ij (by rw[hsz];decide);have en:(execOp (a.put (some 78) (nH Bl)).eval (gO 15 1)).run Tryz.prog W=.ok (.enter 130 (#[]++#[aT Bl])) W :=
  by simpa using sX (P:=Tryz.prog) (o:=gO 15 1) (a:=a.put (some 78) (nH Bl)) (f:=130) (x:=.tmp 78) (caps:=#[aT Bl]) (cl:={ callee:=.value (.tmp 78),args:=#[],argTypes:=#[] }) qU Tryz.func130 rfl (by kernel_rfl) rfl e78 W
 obtain⟨cs,hc,hg⟩:=gl;refine Ey (by kernel_rfl) en (a0S g W [aT Bl] (aK.2 ⟨_,(eL.of hc hg.rep).rv,_,rfl,rfl⟩)) (λe W h=>by obtain⟨v,h,_⟩:=h;exact⟨v,h⟩) λv W1 ⟨v',e,hv,hx⟩=>?_
 cases e;rw[d1];refine sW (X:=[]) (K:=[]) (n:=94) (d:=⟨[(79,.eq (tV g)),(2,.eq (fX (jb s))),(3,.eq (fX (jb u)))],[]⟩) (d':=dG g s u) (q:=[]) ([pR (ak 0),pR (fX (jb s)),pR (fX (jb u))]++QY g) (by kernel_rfl) (sJ (by simp[Act.put,hsz]) λz hz=>?_) λa' W2 hJ hoff=>?_
 ·simp only [List.mem_cons, List.not_mem_nil, or_false] at hz;rcases hz with rfl|rfl|rfl
  ·rw[ij (by simp[Act.put,hsz])];exact hv
  ·rw[cT (show 79≠2 by decide),cT (show 78≠2 by decide),h2];exact (g2.ext hx).rv
  ·rw[cT (show 79≠3 by decide),cT (show 78≠3 by decide),h3];exact (g3.ext hx).rv
 ·refine hQ _ W1 _ hx hJ λt ht => ?_
  rw[es] at ht;have n0:78≠t:=λe=>by subst e;revert ht;unfold ig;rw[List.all_cons,d0];simp
  have n1:79≠t:=λe=>by subst e;revert ht;unfold ig;rw[List.all_cons,List.all_cons,d1];simp
  rw[hoff t (by unfold ig at *;rw[List.all_cons,List.all_cons,Bool.and_eq_true,Bool.and_eq_true] at ht;exact ht.2.2),cT n1,cT n0]
theorem r16(a:Act)(V W:World)(g:Gp)(s u:Sh)(Q:Act->World->Prop)(hJ:JJ V (bI 94 (dG g s u)) (cI [] a) W)
  (hQ:∀a' W',JJ V (bI 94 (dG { g with d:=(kD g.d (q9 s u)).1 } s u)) a' W'->(∀t,ig (gR 16) t=true->a'.tmps.getD t undef=a.tmps.getD t undef)->Q (cI a.defers a') W'):aF Tryz.prog (gR 16).toArray Q (gR 16) a W :=
 sW (X:=[]) (K:=LD) (n:=94) (d:=dG g s u) (d':=dG { g with d:=(kD g.d (q9 s u)).1 } s u) (q:=[]) ([pR (ak 0),pR (fX (jb s)),pR (fX (jb u))]++QY { g with d:=(kD g.d (q9 s u)).1 }) (by kernel_rfl) hJ hQ
theorem r17(a:Act)(V W:World)(g:Gp)(s u:Sh)(B4:Nat)(Q:Act->World->Prop)(hJ:JJ V (bI 94 (dG g s u)) (cI [] a) W)(h4:a.tmps.getD 4 undef=aT B4)(hB:V.heap[B4]? = some (.cells dS.toArray 89))
  (hQ:∀a' W1 W' vs,ac V W1->fa W1 g vs->xI a a' W1 W' B4 true vs->Q a' W'):aF Tryz.prog (gR 17).toArray Q (gR 17) a W:=by
 have es:gR 17=((gR 17).take 1++[gO 17 1,gO 17 2]):=by kernel_rfl
 rw[show aF Tryz.prog (gR 17).toArray Q (gR 17) a W=aF Tryz.prog (gR 17).toArray Q ((gR 17).take 1++[gO 17 1,gO 17 2]) a W by rw[<- es]];refine xf ?_;refine sW (X:=[]) (K:=[]) (n:=94) (d:=dG g s u) (d':=⟨[(93,.eq (tV g))],[]⟩) (q:=[]) [pR (tV g)] (by kernel_rfl) hJ λa' W1 hJ' hoff=>?_
 obtain⟨h1,h2,r',h3⟩:=xq hJ';obtain⟨ys,hy,e⟩:=bL.1 (h3 93 (tV g) (by kernel_rfl));have hg:fa W1 g ys:=Z6 hy;exact KH _ W1 93 B4 true ys Q (by kernel_rfl) (by kernel_rfl) (by kernel_rfl) (by kernel_rfl) (by kernel_rfl) (by kernel_rfl) h2 (by rw[show (cI a.defers a').tmps.getD 4 undef=a'.tmps.getD 4 undef from rfl,hoff 4 (by kernel_rfl)];exact h4) e hg.one.1 hg.one.2 (aH hB h1) λa2 W' h=>hQ a2 W1 W' ys h1 hg ⟨h.df,h.t4,h.t5,h.on,h.c⟩
end
set_option maxHeartbeats 4000000
set_option maxRecDepth 100000
section
open Go.RowKit Go.Shelf
attribute [local go_sem] Oper.semAt_some
attribute [local go_sem] aL dz
def tw(a b:Sh)(i:Nat):Pr:=gC (a.e (i/b.n)) (b.e (i%b.n))
def sep(a b:Sh)(i:Nat):Bool:=bK (a.e (i/b.n)) (b.e (i%b.n))==0
def P6(a b:Sh):Gp:=⟨true,xi a b,Sp.no,Sp.no⟩
def yX(a b:Sh):Bool:=m8 a b||m8 b a || !eh (sep a b) (a.n*b.n)
def sF(a b:Sh):Gp×Bool :=
 if bD a≠0\/bD b≠0 then (Gp.no,false)
 else if yX a b=true then (P6 a b,true)
 else ({ tR (tw a b) (a.n*b.n) with d:=(kD (tR (tw a b) (a.n*b.n)).d (q9 a b)).1 },true)
structure ShAt (W:World) (s:Sh) (p:Option Addr) (c:Nat):Prop where
 k:I64 s.k
 r:I64 s.r
 le:s.n<=c
 mx:c<=maxLen
 row:fU (aE W) W 7 s.n (λi=>cV (s.e i)) (.slice p s.n c)
theorem ShAt.ext{W W':World}{s:Sh}{p:Option Addr}{c:Nat}(h:ShAt W s p c)(hx:ac W W'):ShAt W' s p c:=⟨h.k,h.r,h.le,h.mx,h.row.imp hx λ_ _ h=>h.ext hx⟩
theorem ShAt.rep{W:World}{s:Sh}{p:Option Addr}{c:Nat}(h:ShAt W s p c):au W W (λ_=>0) 0 (bh s) (.agg #[.int .i64 s.k,.slice p s.n c,.int .i64 s.r]) :=
 ⟨_,⟨[_],_,rfl,⟨rfl,aQ h.k,h.k⟩,[_],_,rfl,⟨_,rfl,h.row⟩,[_],[],rfl,⟨rfl,aQ h.r,h.r⟩,rfl⟩,rfl,nofun⟩
theorem ShAt.of{W:World}{s:Sh}{v:Value}(h:au W W (λ_=>0) 0 (bh s) v):∃p c,v=.agg #[.int .i64 s.k,.slice p s.n c,.int .i64 s.r]/\ShAt W s p c:=by
 obtain⟨cs,⟨_,_,rfl,⟨rfl,_,ik⟩,_,_,rfl,⟨v,rfl,hro⟩,_,_,rfl,⟨rfl,_,ir⟩,rfl⟩,rfl,_⟩:=h;obtain⟨p,c,rfl,h1,h2,h3⟩:=id hro;exact⟨p,c,rfl,ik,ir,h1,h2,hro⟩
theorem ShAt.edr{W:World}{s:Sh}{p:Option Addr}{c:Nat}(h:ShAt W s p c):jP W.heap.size W p s.n s.e:=by
 obtain⟨p',c',e,_,_,hR⟩:=JW (V:=W) (W:=W) (r:=λ_=>0) (k:=0) ⟨_,rfl,h.row⟩;cases e;exact hR
theorem D5(s:Sh){W0:World}{p:Option Addr}{c:Nat}(h:ShAt W0 s p c)(W:World)(hW:ac W0 W):Calls Tryz.prog 89 #[.agg #[.int .i64 s.k,.slice p s.n c,.int .i64 s.r]] W λe W'=>e=.returned (.bool (bD s==0))/\ac W W' :=
 (a4R s W _ (aK.2 ⟨_,(h.ext hW).rep,_,rfl,rfl⟩)).mono λ_ _ ⟨_,e,hv,hx⟩=>⟨by rw[e,(lg.1 hv).2],hx⟩
theorem MA(a b:Sh){W0:World}{p q:Option Addr}{c d:Nat}(h:ShAt W0 a p c)(g:ShAt W0 b q d)(ha:a.n<=1000)(hb:0<b.n)(W:World)(hW:ac W0 W):Calls Tryz.prog 90 #[.agg #[.int .i64 a.k,.slice p a.n c,.int .i64 a.r],.agg #[.int .i64 b.k,.slice q b.n d,.int .i64 b.r]] W λe W'=>e=.returned (.bool (m8 a b))/\ac W W' :=
 (VO a b ha hb W _ (aK.2 ⟨_,(h.ext hW).rep,_,rfl,aK.2 ⟨_,(g.ext hW).rep,_,rfl,rfl⟩⟩)).mono λ_ _ ⟨_,e,hv,hx⟩=>⟨by rw[e,(lg.1 hv).2],hx⟩
abbrev we(g:Gp×Bool):AV:=.tup [tV g.1,aN g.2]
theorem rh{c c':Code}{Q:Exit->Act->World->Prop}{a:Act}{w:World}(e:c=c')(h:c'.wp Tryz.prog Q a w):c.wp Tryz.prog Q a w:=e ▸ h
theorem ED(W:World):fa W Gp.no dS:=by
 have z:I64 0:=by unfold I64;omega
 have r:∀W,NR W false none 0 0 zero:=λW=>⟨rfl,rfl,Nat.le_refl _,Nat.zero_le _,(λ_ h=>nomatch h),λh=>absurd h (Nat.lt_irrefl _)⟩
 exact⟨_,_,_,_,_,_,_,_,rfl,r W,r W,⟨z,z⟩,⟨z,z,z,z,z,z,z⟩,z,z,z,z,z,z,z⟩
theorem r2(a:Act)(W:World)(B4:Nat)(Q:Act->World->Prop)(hsz:a.tmps.size=94)(h4:a.tmps.getD 4 undef=aT B4)(hB:W.heap[B4]? = some (.cells dS.toArray 89))(hQ:∀a' W',xI a a' W W' B4 false dS->Q a' W'):aF Tryz.prog (gR 2).toArray Q (gR 2) a W:=by
 have es:gR 2=[gO 2 0,gO 2 1,gO 2 2]:=by kernel_rfl
 have d0:(gO 2 0).dst=some 25:=by kernel_rfl
 rw[show aF Tryz.prog (gR 2).toArray Q (gR 2) a W=aF Tryz.prog (gR 2).toArray Q [gO 2 0,gO 2 1,gO 2 2] a W by rw[<- es]];refine jN (x:=.agg dS.toArray) (W:=W) (by kernel_rfl) (by kernel_rfl) ?_;rw[d0];exact KH _ W 25 B4 false dS Q (by kernel_rfl) (by kernel_rfl) (by kernel_rfl) (by kernel_rfl) (by kernel_rfl) (by kernel_rfl) (by simp[Act.put,hsz]) (by rw[cT (by decide)];exact h4) (ij (by rw[hsz];decide)) rfl (ED W).one.2 hB λa2 W' h=>hQ a2 W' ⟨h.df,h.t4,h.t5,h.on,h.c⟩
theorem Z8{W:World}{g:Gp}{cs:List Value}(h:fa W g cs):au W W (λ_=>0) 0 (tV g) (.agg cs.toArray):=by
 obtain⟨n,p,l,c,m,q,k,d,rfl,h1,h2,⟨i1,i2⟩,⟨j1,j2,j3,j4,j5,j6,j7⟩,k1,k2,k3,k4,k5,k6,k7⟩:=h;exact⟨_,⟨[_],_,rfl,⟨rfl,rfl⟩,[_],_,rfl,⟨rfl,aP i1⟩,[_],_,rfl,⟨rfl,aP i2⟩,[_,_],_,rfl,⟨_,_,_,_,rfl,h1⟩,[_,_],_,rfl,⟨_,_,_,_,rfl,h2⟩,[_],_,rfl,⟨rfl,aP j1⟩,[_],_,rfl,⟨rfl,aP j2⟩,[_],_,rfl,⟨rfl,aP j3⟩,[_],_,rfl,⟨rfl,aP j4⟩,[_],_,rfl,⟨rfl,aP j5⟩,[_],_,rfl,⟨rfl,aP j6⟩,[_],_,rfl,⟨rfl,aP j7⟩,[_],_,rfl,⟨rfl,aP k1⟩,[_],_,rfl,⟨rfl,aP k2⟩,[_],_,rfl,⟨rfl,aP k3⟩,[_],_,rfl,⟨rfl,aP k4⟩,[_],_,rfl,⟨rfl,aP k5⟩,[_],_,rfl,⟨rfl,aP k6⟩,[_],[],rfl,⟨rfl,aP k7⟩,rfl⟩,rfl,nofun⟩
theorem OZ{tm:Array Value}{W:World}{B4:Nat}{b:Bool}{vs:List Value}(h4:tm.getD 4 undef=aT B4)(h5:tm.getD 5 undef=.bool b)(hg:W.heap[B4]? = some (.cells vs.toArray 89))(hl:vs.length=21):(results Tryz.f32 tm).run Tryz.prog W=.ok (.tuple #[.agg vs.toArray,.bool b]) W:=by
 have hR:Tryz.f32.results=#[.cell 4 89,.tmp 5]:=by kernel_rfl
 have h2:([ResultVar.cell 4 89,.tmp 5].mapM (wQ ⟨tm,[]⟩)).run Tryz.prog W=.ok [.agg vs.toArray,.bool b] W:=by
  have e:(loadVar 89 ⟨B4,0,none⟩).run Tryz.prog W=.ok (dj true ((vs.drop 0).take 21)) W:=pG hg (by kernel_rfl) (by kernel_rfl) (by omega) nofun
  have e2:dj true ((vs.drop 0).take 21)=.agg vs.toArray:=by rw[List.drop_zero,List.take_of_length_le (by omega)];rfl
  rw[e2] at e;simp only[List.mapM_cons,List.mapM_nil,wQ,Sem.run_bind,h4,h5,aT,asAddr,Sem.run_pure,Result.andThen_ok,e]
 show (results Tryz.f32 (⟨tm,[]⟩:Act).tmps).run Tryz.prog W=_;rw[D2,hR,Sem.run_bind,Array.mapM_eq_mapM_toList,Sem.run_map];rw[show (#[ResultVar.cell 4 89,.tmp 5]:Array ResultVar).toList=[ResultVar.cell 4 89,.tmp 5] from rfl,h2];rfl
def xF(w:World)(g:Gp)(b:Bool)(e:Ending)(w':World):Prop:=∃v,e=.returned v/\bT w' w' (λ_=>0) 0 (we (g,b)) v/\ac w w'
theorem O1{W:World}{g:Gp}{b:Bool}{vs:List Value}(h:fa W g vs):bT W W (λ_=>0) 0 (we (g,b)) (.tuple #[.agg vs.toArray,.bool b]) :=
 ⟨[_,_],rfl,aK.2 ⟨_,Z8 h,_,rfl,aK.2 ⟨_,lg.2 ⟨rfl,rfl⟩,_,rfl,rfl⟩⟩⟩
theorem ZV(a b:Sh)(h:bD a≠0\/bD b≠0):ae Tryz.prog 32 [bh a,bh b] (we (Gp.no,false)):=by
 intro w vals hv;obtain⟨va,ha,_,rfl,hv1⟩:=aK.1 hv;obtain⟨vb,hb,_,rfl,hv2⟩:=aK.1 hv1;cases hv2;obtain⟨p,c,rfl,Ha⟩:=ShAt.of ha;obtain⟨q,d,rfl,Hb⟩:=ShAt.of hb;have C1:=Lib.hid (D5 a Ha);have C2:=Lib.hid (D5 b Hb);clear ha hb hv hv1 Ha Hb;have z0:∀w:World,(w.alloc (.cells dS.toArray 89)).heap[w.heap.size]? = some (.cells dS.toArray 89):=λw=>World.alloc_heap_new _ _
 have hx0:ac w (((w.alloc (.cells #[.int .i64 a.k,.slice p a.n c,.int .i64 a.r] 30)).alloc (.cells #[.int .i64 b.k,.slice q b.n d,.int .i64 b.r] 30)).alloc (.cells dS.toArray 89)):=ag;have X0:=Lib.hid hx0
 have Z0:=Lib.hid (show (((w.alloc (.cells #[.int .i64 a.k,.slice p a.n c,.int .i64 a.r] 30)).alloc (.cells #[.int .i64 b.k,.slice q b.n d,.int .i64 b.r] 30)).alloc (.cells dS.toArray 89)).heap[w.heap.size+1+1]? = some (.cells dS.toArray 89) by have:=z0 ((w.alloc (.cells #[.int .i64 a.k,.slice p a.n c,.int .i64 a.r] 30)).alloc (.cells #[.int .i64 b.k,.slice q b.n d,.int .i64 b.r] 30));simpa using this);clear hx0 z0
 have fin:∀(a':Act) (W W':World),ac w W->W.heap.size<=W'.heap.size->xI ⟨a'.tmps,[]⟩ a' W W' (w.heap.size+1+1) false dS->bodyPost Tryz.prog Tryz.f32 (xF w Gp.no false) .ret a' W':=λa' W W' hx _ ⟨h1,h2,h3,h4,h5⟩ =>
  bodyPost_ret (OZ h2 h3 h5 rfl) h1 ⟨_,rfl,O1 (ED W'),hx.trans (h4.below (by omega))⟩
 have FIN:=Lib.hid fin;clear fin;by_cases h1:bD a=0
 ·have h2 : bD b ≠ 0 := h.resolve_left (λg => g h1);have b1:(bD a==0)=true:=by simpa using h1
  have b2:(bD b==0)=false:=by simpa using h2
  clear h h1 h2;go_enter Tryz.func32,Tryz.ntmps32;go_wp2_with fail;go_step3;go_wp2_with fail;refine (C1.out _ X0.out).mono ?_;rintro e W1 ⟨rfl,hx1⟩;rw[b1];have x1:=ac.step X0.out hx1;have z1:=aH Z0.out hx1;have hk:W1.cell? ⟨w.heap.size+1,0,none⟩=some (.int .i64 b.k)/\W1.cell? ⟨w.heap.size+1,1,none⟩=some (.slice q b.n d)/\W1.cell? ⟨w.heap.size+1,2,none⟩=some (.int .i64 b.r):=by
   refine⟨(hx1.cell (p:=⟨_,0,none⟩) (by simp)).trans (by go_simp),(hx1.cell (p:=⟨_,1,none⟩) (by simp)).trans (by go_simp),(hx1.cell (p:=⟨_,2,none⟩) (by simp)).trans (by go_simp)⟩
  obtain⟨k0,k1,k2⟩:=hk;have XX:=Lib.hid x1;have Tryz1:=Lib.hid z1;clear hx1 x1 z1;go_wp2_with fail;refine (C2.out _ XX.out).mono ?_;rintro e W2 ⟨rfl,hx2⟩;rw[b2];have x2:=Lib.hid (ac.step XX.out hx2);have z2:=Lib.hid (aH Tryz1.out hx2);clear hx2 k0 k1 k2;go_upto_region 2 with (fail)
  refine rh (c':=Code.region 2 (gR 2).toArray false) (by kernel_rfl) ?_;refine wp_region_lit (aF.wp ?_);refine r2 _ _ (w.heap.size+1+1) _ (by rfl) (by rfl) z2.out ?_;rintro⟨tm,df⟩ W' ⟨h1,h2,h3,h4,h5⟩;obtain rfl:df=[]:=h1;go_wp2_with fail;all_goals exact FIN.out _ W2 W' x2.out (by rw[h4.size];exact Nat.le_refl _) ⟨rfl,h2,h3,h4,h5⟩
 ·have b1 : (bD a == 0) = false := by simpa using h1
  clear h h1 C2;go_enter Tryz.func32,Tryz.ntmps32;go_wp2_with fail;go_step3;go_wp2_with fail;refine (C1.out _ X0.out).mono ?_;rintro e W1 ⟨rfl,hx1⟩;rw[b1];have x2:=Lib.hid (ac.step X0.out hx1);have z2:=Lib.hid (aH Z0.out hx1);clear hx1;go_upto_region 2 with (fail)
  refine rh (c':=Code.region 2 (gR 2).toArray false) (by kernel_rfl) ?_;refine wp_region_lit (aF.wp ?_);refine r2 _ _ (w.heap.size+1+1) _ (by rfl) (by rfl) z2.out ?_;rintro⟨tm,df⟩ W' ⟨h1,h2,h3,h4,h5⟩;obtain rfl:df=[]:=h1;go_wp2_with fail;all_goals exact FIN.out _ W1 W' x2.out (by rw[h4.size];exact Nat.le_refl _) ⟨rfl,h2,h3,h4,h5⟩
end
end Go.Proofs.YtghemgdfmldoeaaGreat
set_option maxRecDepth 100000
namespace Go.Proofs.YtghemgdfmldoeaaGreat.fin
open Go.ChangeShapes Go.WideShapes Go.ChangeAt Go.RowKit Go.Joins
set_option linter.unusedVariables false
section
variable {H:Type} {enc:TypeId×Value->H} {W:World}
theorem vJ{m:Nat}{l:List Value}{x:DataW H×List MemPlace}(h:DataW.trod enc Tryz.prog W 0 (λ_=>true) true m 3 l=some x):∃z,l=[.int .i64 z]/\In64 z:=by
 obtain⟨n,h1,_,h2⟩:=DataW.trod_int Tryz.underlying3 h;simp[Lit.wf,IntKind.has,IntKind.min,IntKind.max,IntKind.signed,IntKind.bits] at h2;exact⟨n,h1,h2⟩
theorem Bj:Tryz.prog.cellsOf 3=1:=by kernel_rfl
theorem Bm:Tryz.prog.cellsOf 24=2:=by kernel_rfl
theorem Nb:Tryz.prog.cellsOf 108=7:=by kernel_rfl
theorem W6:Tryz.prog.cellsOf 28=1:=by kernel_rfl
theorem zq{m:Nat}{c0 c1:Value}{x:DataW H×List MemPlace}(h:DataW.trod enc Tryz.prog W 0 (λ_=>true) true m 24 [c0,c1]=some x):∃y z,c0=.int .i64 y/\c1=.int .i64 z/\In64 y/\In64 z:=by
 obtain⟨xs,k,_,_,_,hx,hi⟩:=DataW.trod_struct Tryz.underlying24 h;have hx2:xs.length=2:=hx;obtain⟨x0,M0,rfl,m0⟩:=dA hx2;obtain⟨x1,M1,rfl,m1⟩:=dA m0;have g0:DataW.trod enc Tryz.prog W 0 (λ_=>true) true k 3 (List.take (Tryz.prog.cellsOf 3) (List.drop 0 [c0,c1]))=some x0:=hi 0 _ rfl;have g1:DataW.trod enc Tryz.prog W 0 (λ_=>true) true k 3 (List.take (Tryz.prog.cellsOf 3) (List.drop 1 [c0,c1]))=some x1:=hi 1 _ rfl;rw[Bj] at g0 g1;simp only[List.drop_zero,List.take_succ_cons,List.take_zero,List.drop_succ_cons] at g0 g1;obtain⟨y,e0,i0⟩:=vJ g0;obtain⟨z,e1,i1⟩:=vJ g1;simp at e0 e1
 exact⟨y,z,e0,e1,i0,i1⟩
theorem Y1{m:Nat}{cs:List Value}{x:DataW H×List MemPlace}(h:DataW.trod enc Tryz.prog W 0 (λ_=>true) true m 108 cs=some x):∃e:Ed,cs.length=7/\aE W (cV e) cs:=by
 obtain⟨xs,k,_,_,hl,hx,hi⟩:=DataW.trod_struct Tryz.underlying108 h;rw[Nb] at hl;have hl0:=hl;obtain⟨c0,N0,rfl,n0⟩:=dA hl;obtain⟨c1,N1,rfl,n1⟩:=dA n0;obtain⟨c2,N2,rfl,n2⟩:=dA n1;obtain⟨c3,N3,rfl,n3⟩:=dA n2;obtain⟨c4,N4,rfl,n4⟩:=dA n3;obtain⟨c5,N5,rfl,n5⟩:=dA n4;obtain⟨c6,N6,rfl,n6⟩:=dA n5;obtain rfl:=List.eq_nil_of_length_eq_zero n6;have hx2:xs.length=4:=hx;obtain⟨x0,M0,rfl,m0⟩:=dA hx2;obtain⟨x1,M1,rfl,m1⟩:=dA m0;obtain⟨x2,M2,rfl,m2⟩:=dA m1;obtain⟨x3,M3,rfl,m3⟩:=dA m2
 have g0:DataW.trod enc Tryz.prog W 0 (λ_=>true) true k 3 (List.take (Tryz.prog.cellsOf 3) (List.drop 0 [c0,c1,c2,c3,c4,c5,c6]))=some x0:=hi 0 _ rfl;have g1:DataW.trod enc Tryz.prog W 0 (λ_=>true) true k 24 (List.take (Tryz.prog.cellsOf 24) (List.drop 1 [c0,c1,c2,c3,c4,c5,c6]))=some x1:=hi 1 _ rfl;have g2:DataW.trod enc Tryz.prog W 0 (λ_=>true) true k 24 (List.take (Tryz.prog.cellsOf 24) (List.drop 3 [c0,c1,c2,c3,c4,c5,c6]))=some x2:=hi 2 _ rfl;have g3:DataW.trod enc Tryz.prog W 0 (λ_=>true) true k 24 (List.take (Tryz.prog.cellsOf 24) (List.drop 5 [c0,c1,c2,c3,c4,c5,c6]))=some x3:=hi 3 _ rfl
 rw[Bj] at g0;rw[Bm] at g1 g2 g3;simp only[List.drop_zero,List.take_succ_cons,List.take_zero,List.drop_succ_cons] at g0 g1 g2 g3;obtain⟨z0,e0,i0⟩:=vJ g0;simp at e0;subst e0;obtain⟨z1,z2,rfl,rfl,i1,i2⟩:=zq g1;obtain⟨z3,z4,rfl,rfl,i3,i4⟩:=zq g2;obtain⟨z5,z6,rfl,rfl,i5,i6⟩:=zq g3;exact⟨⟨z0,z1,z2,z3,z4,z5,z6⟩,rfl,[_],_,rfl,⟨rfl,aP i0⟩,[_],_,rfl,⟨rfl,aP i1⟩,[_],_,rfl,⟨rfl,aP i2⟩,[_],_,rfl,⟨rfl,aP i3⟩,[_],_,rfl,⟨rfl,aP i4⟩,[_],_,rfl,⟨rfl,aP i5⟩,[_],_,rfl,⟨rfl,aP i6⟩,rfl⟩
theorem Xd{a:Addr}{v:Value}(h:W.cell? a=some v):∃xs T fr,W.heap[a.block]? = some (.cells xs T fr)/\a.spot=none/\xs[a.off]? = some v:=by
 unfold World.cell? at h;split at h
 ·rename_i c T fr hb;split at h
  ·cases h
  ·rename_i hs;exact⟨c,T,fr,hb,by simpa using hs,h⟩
 ·cases h
end
end Go.Proofs.YtghemgdfmldoeaaGreat.fin
namespace Go.Proofs.YtghemgdfmldoeaaGreat
open Go.RowKit
set_option maxRecDepth 100000
section
structure eZ (X:List Nat) (W W':World):Prop where
 os:W'.os=W.os
 tape:W'.tape=W.tape
 output:W'.output=W.output
 size:W.heap.size<=W'.heap.size
 block:∀k,k<W.heap.size->k∉X->W'.heap[k]? = W.heap[k]?
theorem eZ.ext{X:List Nat}{W W':World}(h:ac W W'):eZ X W W':=⟨h.os,h.tape,h.output,h.size,λk hk _=>h.block k hk⟩
theorem eZ.only{X:List Nat}{g:Nat}{W W':World}(h:fR g W W')(hg:g∈X):eZ X W W':=⟨h.os,h.tape,h.output,by rw[h.size];exact Nat.le_refl _,λk _ hx=>h.block k λe=>hx (e ▸ hg)⟩
theorem eZ.two{X:List Nat}{a b:Nat}{W W':World}(h:kG a b W W')(ha:a∈X)(hb:b∈X):eZ X W W':=⟨h.os,h.tape,h.output,h.size,λk hk hx=>h.block k hk (λe=>hx (e ▸ ha)) λe=>hx (e ▸ hb)⟩
theorem eZ.trans{X:List Nat}{A B C:World}(h:eZ X A B)(k:eZ X B C):eZ X A C:=⟨k.os.trans h.os,k.tape.trans h.tape,k.output.trans h.output,Nat.le_trans h.size k.size,λi hi hx=>(k.block i (Nat.lt_of_lt_of_le hi h.size) hx).trans (h.block i hi hx)⟩
theorem eZ.below{X:List Nat}{W W':World}{v:Nat}(h:eZ X W W')(hv:v<=W.heap.size)(hX:∀x∈X,v<=x):Below v W W':=⟨h.os,h.tape,h.output,h.size,λk hk=>h.block k (by omega) λhx=>by have:=hX k hx;omega⟩
theorem eZ.kp{X:List Nat}{W W':World}(h:eZ X W W'):di X W W':=⟨h.size,λk o hk _ hx=>(h.block k (Array.getElem?_eq_some_iff.1 hk).1 hx).trans hk⟩
theorem eZ.at{X:List Nat}{W W':World}(h:eZ X W W'){k:Nat}{o:Obj}(hk:W.heap[k]? = some o)(hx:k∉X):W'.heap[k]? = some o:=(h.block k (Array.getElem?_eq_some_iff.1 hk).1 hx).trans hk
theorem eZ.keeps{X:List Nat}{W W':World}(h:eZ X W W')(B:Nat)(hX:∀x∈X,∃o,W.heap[x]? = some o/\o.isCells=true):KeepsFrom B W W':=(show KeepsOthers W W' from⟨h.size,λk o hk ho=>by
 refine h.at hk λhx=>?_
 obtain⟨o',h1,h2⟩:=hX k hx;rw[hk] at h1;cases h1;rw[ho] at h2;cases h2⟩).from B
theorem iu.but{X:List Nat}{W W':World}{B:Nat}{g:Gp}(h:iu W B g)(hk:eZ X W W')(hB:B∉X)(hX:∀x∈X,∃xs T,W.heap[x]? = some (.cells xs T)/\∀v∈xs.toList,nd v):iu W' B g:=by
 obtain⟨cs,h1,h2⟩:=h;exact⟨cs,hk.at h1 hB,h2.kp hX hk.kp⟩
theorem a1L{b:Bool}:∀v∈(#[Value.bool b]:Array Value).toList,nd v:=λv hv=>by rw[List.mem_singleton.1 hv];exact λz h=>nomatch h
def zI:Code->Option Code
 | .seq a b=>match zI a with|some c=>some c|none=>zI b
 | .block _ c=>zI c
 | .scope c=>zI c
 | .rangeFunc _ _ _ c=>some c
 | _=>none
noncomputable def D4:Code:=(zI (dC Tryz.prog 32)).getD .skip
theorem a4J:D4=.block 1 (.seq (.seq (.region 8 (gR 8).toArray false) (.seq (.region 9 (gR 9).toArray false) (.cond (.tmp 49) (.exit 0) .skip))) (.seq (.region 10 (gR 10).toArray false) (.region 11 (gR 11).toArray false))):=by kernel_rfl
theorem vI{id r m:Nat}{l:List Oper}{Q:Exit->Act->World->Prop}{a:Act}{w:World}(hd:(l.all λo=>match o.op with | .defer _=>false|_=>true)=true)(h:aF Tryz.prog l.toArray (λa w=>Q .normal a w) l a w):(Code.region id l.toArray false).wpIn (Fence.wide.inRound r) m Tryz.prog Q a w:=wpIn_region_lit (h.wpIn hd)
theorem VY(l m:Nat)(a:Act)(W:World)(x y:Ed)(met sm:Bool)(h:Gp)(B6 B7 Bs Bl P9 P10:Nat)(Q:Exit->Act->World->Prop)(hsz:a.tmps.size=94)(h6:a.tmps.getD 6 undef=aT B6)(h7:a.tmps.getD 7 undef=aT B7)(h9:a.tmps.getD 9 undef=aT P9)(h10:a.tmps.getD 10 undef=aT P10)
  (g6:W.heap[B6]? = some (.cells #[.bool met] 4)) (g7:W.heap[B7]? = some (.cells #[jm Bs Bl] 132)) (g9:W.heap[P9]? = some (.cells (eo x).toArray 108)) (g10:W.heap[P10]? = some (.cells (eo y).toArray 108)) (hx:oj x) (hy:oj y)
  (hs:W.heap[Bs]? = some (.cells #[.bool sm] 4)) (hl:iu W Bl h) (n1:B6≠B7) (n2:B6≠Bs) (n3:B6≠Bl) (n4:Bs≠Bl) (n5:B6≠P9) (n6:B6≠P10)
  (Qx:∀a' W',eZ [B6,Bs,Bl] W W'->W'.heap[B6]? = some (.cells #[.bool true] 4)->(met || !(bK x y==0))=true->Q (.exit 0) a' W')
  (Qn:∀a' W',eZ [B6,Bs,Bl] W W'->W'.heap[B6]? = some (.cells #[.bool false] 4)->W'.heap[Bs]? = some (.cells #[.bool true] 4)->iu W' Bl (if (!sm||decide (eE (gC x y).d h.d<0))=true then (gC x y).gp else h)->(met || !(bK x y==0))=false->Q .normal a' W'):D4.wpIn (Fence.wide.inRound l) m Tryz.prog Q a W:=by
 rw[a4J];refine wpIn_block (wpIn_seq (wpIn_seq (vI (by kernel_rfl) (r8 a W met x y B6 P9 P10 _ hsz h6 h9 h10 g6 g9 g10 hx hy λa1 W1 W2 s1 df1 of1 x1 o1 b1=>?_))));have bx:eZ [B6,Bs,Bl] W W2:=(eZ.ext x1).trans (.only o1 (by simp));obtain⟨t,ht⟩:∃t,(met || !(bK x y==0))=t:=⟨_,rfl⟩;rw[ht] at b1 Qx Qn;have d9:gR 9=[gO 9 0]:=by kernel_rfl
 have e9:(gO 9 0).dst=some 49:=by kernel_rfl
 refine wpIn_seq (vI (by kernel_rfl) ?_);have r9':∀Q':Act->World->Prop,Q' (a1.put (some 49) (.bool t)) W2->aF Tryz.prog (gR 9).toArray Q' (gR 9) a1 W2:=λQ' hq=>by
  rw[show aF Tryz.prog (gR 9).toArray Q' (gR 9) a1 W2=aF Tryz.prog (gR 9).toArray Q' [gO 9 0] a1 W2 by rw[<- d9]];refine jN (x:=.bool t) (W:=W2) (by kernel_rfl) ?_ ?_
  ·have := vB (P := Tryz.prog) (o := gO 9 0) (a := a1) (w := W2) (t := 4) (x := .tmp 6) (j := 0) (n := 1) (b := false) (cs := [.bool t]) (by kernel_rfl) (show a1.tmps.getD 6 undef = _ by rw [of1 6 (by kernel_rfl)]; exact h6) b1 (by kernel_rfl) (by kernel_rfl) (by simp) (λ_ => rfl);exact this
  ·rw[e9];exact hq
 refine r9' _ ?_;have e49:(a1.put (some 49) (.bool t)).eval (.tmp 49)=.bool t:=ij (by rw[s1];decide);cases t with|true=>exact wpIn_cond_true e49 (wpIn_exit (Qx _ _ bx b1 rfl))|false =>
  refine wpIn_cond_false e49 (wpIn_skip ?_);have hX:∀k ∈ [B6],∃xs T,W1.heap[k]? = some (.cells xs T)/\∀v∈xs.toList,nd v:=λk hk=>by
   rw[List.mem_singleton.1 hk];exact⟨_,_,aH g6 x1,a1L⟩
  have bo:eZ [B6] W1 W2:=.only o1 (by simp);have f9:eL W2 P9 (cV x):=.of (bo.at (aH g9 x1) (by simpa using Ne.symm n5)) (hx.rep W2);have f10:eL W2 P10 (cV y):=.of (bo.at (aH g10 x1) (by simpa using Ne.symm n6)) (hy.rep W2);refine wpIn_seq (vI (by kernel_rfl) (r10 (a1.put (some 49) (.bool false)) W2 x y P9 P10 _ (by simp[Act.put,s1]) (by rw[cT (by decide),of1 9 (by kernel_rfl)];exact h9) (by rw[cT (by decide),of1 10 (by kernel_rfl)];exact h10) f9 f10 λa2 W3 s2 df2 of2 x2 hp=>?_));obtain⟨p,q,r,p1,p2,p3,p4,p5,p6⟩:=hp
  have g7':W3.heap[B7]? = some (.cells #[jm Bs Bl] 132):=aH (bo.at (aH g7 x1) (by simpa using Ne.symm n1)) x2;have hs':W3.heap[Bs]? = some (.cells #[.bool sm] 4):=aH (bo.at (aH hs x1) (by simpa using Ne.symm n2)) x2;have hl':iu W3 Bl h:=(((hl.ext x1).but bo (by simpa using Ne.symm n3) hX).ext x2);refine vI (by kernel_rfl) (r11 a2 W3 (gC x y) h sm B7 Bs Bl p q r _ s2 (by rw[of2 7 (by kernel_rfl),cT (by decide),of1 7 (by kernel_rfl)];exact h7) p1 p2 p3 g7' p4 p5 p6 hs' hl' n4 λa3 W4 W5 df3 x3 b3 k1 k2=>?_);have b2:eZ [B6,Bs,Bl] W2 W4:=.ext (x2.trans (x3.mono x2.size))
  refine Qn _ _ (bx.trans (b2.trans (.two b3 (by simp) (by simp)))) ?_ k1 k2 rfl;rw[b3.block B6 (Nat.lt_of_lt_of_le (Array.getElem?_eq_some_iff.1 b1).1 b2.size) n2 n3];exact aH b1 (ac.step x2 x3)
end
def eY(s:Sh)(p:Option Addr)(c:Nat):Array Value:=#[.int .i64 s.k,.slice p s.n c,.int .i64 s.r]
structure PS (w W:World) (a b:Sh) (p q:Option Addr) (c d:Nat):Prop where
 ex:ac w W
 b2:W.heap[w.heap.size]? = some (.cells (eY a p c) 30)
 b3:W.heap[w.heap.size+1]? = some (.cells (eY b q d) 30)
 b4:W.heap[w.heap.size+1+1]? = some (.cells dS.toArray 89)
theorem PS.step{w W W':World}{a b:Sh}{p q:Option Addr}{c d:Nat}(h:PS w W a b p q c d)(hx:ac W W'):PS w W' a b p q c d:=⟨ac.step h.ex hx,aH h.b2 hx,aH h.b3 hx,aH h.b4 hx⟩
theorem PS.sz{w W:World}{a b:Sh}{p q:Option Addr}{c d:Nat}(h:PS w W a b p q c d):w.heap.size+1+1<W.heap.size:=(Array.getElem?_eq_some_iff.1 h.b4).1
theorem PS.cells{w W:World}{a b:Sh}{p q:Option Addr}{c d:Nat}(h:PS w W a b p q c d):(W.cell? ⟨w.heap.size,0,none⟩=some (.int .i64 a.k)/\W.cell? ⟨w.heap.size,1,none⟩=some (.slice p a.n c)/\W.cell? ⟨w.heap.size,2,none⟩=some (.int .i64 a.r))/\W.cell? ⟨w.heap.size+1,0,none⟩=some (.int .i64 b.k)/\W.cell? ⟨w.heap.size+1,1,none⟩=some (.slice q b.n d)/\W.cell? ⟨w.heap.size+1,2,none⟩=some (.int .i64 b.r):=by
 have e2:=h.b2;have e3:=h.b3;have c2:∀i,W.cell? ⟨w.heap.size,i,none⟩=(eY a p c)[i]? := λi=>by rw[cell_of_row _ _ _ _ _ _ e2]
 have c3:∀i,W.cell? ⟨w.heap.size+1,i,none⟩=(eY b q d)[i]? := λi=>by rw[cell_of_row _ _ _ _ _ _ e3]
 exact⟨⟨(c2 0).trans rfl,(c2 1).trans rfl,(c2 2).trans rfl⟩,(c3 0).trans rfl,(c3 1).trans rfl,(c3 2).trans rfl⟩
set_option maxRecDepth 100000
section
def a5K:Code->Code
 | .seq _ (.scope c)=>c|c=>c
def zZ:Code->Code
 | .seq _ b=>b|c=>c
noncomputable def D1:Code:=zZ (zZ (a5K (dC Tryz.prog 32)))
noncomputable def DZ:Code:=zZ (zZ (zZ D1))
theorem a4B:DZ=.seq (.seq (.region 12 (gR 12).toArray false) (.cond (.tmp 63) (.seq (.region 13 (gR 13).toArray true) (.seq (.region 14 (gR 14).toArray false) .ret)) .skip)) (.seq (.region 15 (gR 15).toArray false) (.seq (.region 16 (gR 16).toArray false) (.seq (.region 17 (gR 17).toArray false) .ret))):=by kernel_rfl
theorem Po{W:World}{D:Nat}{o o':Obj}(h:W.heap[D]? = some o)(ho:o.isCells=false):di [] W (W.putObj D o'):=⟨(grownBy_putObj' W D o').size,λk u hk hu _=>by
 have hne:k≠D:=λe=>by subst e;rw[h] at hk;cases hk;rw[ho] at hu;cases hu
 exact (World.putObj_heap_other (by omega)).trans hk⟩
theorem R7{w W':World}{a':Act}{g:Gp}{b:Bool}{vs:List Value}{D B4:Nat}(hd:a'.defers=[{ target:=.collected D,args:=#[] }])(h4:a'.tmps.getD 4 undef=aT B4)(h5:a'.tmps.getD 5 undef=.bool b)(hg:W'.heap[B4]? = some (.cells vs.toArray 89))(hc:fa W' g vs)(hx:ac w W')(hD:W'.heap[D]? = some (.deferred (some [])))(hDw:w.heap.size<=D) :
  bodyPostM Fence.wide 6 Tryz.prog Tryz.f32 (xF w g b) .ret a' W':=by
 obtain⟨tm,df⟩:=a';obtain rfl:df=_:=hd;have kp:=Po (o':=.deferred none) hD rfl;have hg':=kp.same B4 _ hg rfl (by simp);have hc':fa (W'.putObj D (.deferred none)) g vs:=hc.kp (X:=[]) (λx hx=>by simp at hx) kp;refine⟨by simp,.inl ⟨_,_,rfl,run_takeDeferred hD,?_⟩⟩;refine⟨_,OZ h4 h5 hg' hc.one.1,_,rfl,O1 hc',?_⟩;exact hx.trans ((Below.refl _ W').grown (grownBy_putObj' W' D (.deferred none)) (Nat.le_trans hDw (by have:=(Array.getElem?_eq_some_iff.1 hD).1;omega)) (λk e=>by cases e;omega))
theorem a1M:∀v∈dS.toArray.toList,nd v:=λv hv=>(ED default).nd v (by simpa using hv)
theorem fa.only{W W':World}{B4:Nat}{g:Gp}{vs:List Value}(h:fa W g vs)(ho:fR B4 W W')(hB:W.heap[B4]? = some (.cells dS.toArray 89)):fa W' g vs :=
 h.kp (X:=[B4]) (λx hx=>by rw[List.mem_singleton.1 hx];exact⟨_,_,hB,a1M⟩) (eZ.only ho (by simp)).kp
theorem a4C(w W:World)(A:Act)(a b:Sh)(met:Bool)(g:Gp)(B2 B3 B4 B6 Bl D:Nat)(hsz:A.tmps.size=94)(hd:A.defers=[{ target:=.collected D,args:=#[] }])(h2:A.tmps.getD 2 undef=aT B2)(h3:A.tmps.getD 3 undef=aT B3)(h4:A.tmps.getD 4 undef=aT B4)(h6:A.tmps.getD 6 undef=aT B6)(h8:A.tmps.getD 8 undef=nH Bl)
  (g2:eL W B2 (jb a)) (g3:eL W B3 (jb b)) (g4:W.heap[B4]? = some (.cells dS.toArray 89)) (g6:W.heap[B6]? = some (.cells #[.bool met] 4)) (gl:met=false->iu W Bl g) (hx:ac w W) (hB4:w.heap.size<=B4) (hD:W.heap[D]? = some (.deferred (some []))) (hDw:w.heap.size<=D) :
  DZ.wp Tryz.prog (Exit.noGoto (bodyPostM Fence.wide 6 Tryz.prog Tryz.f32 (xF w (if met=true then ⟨true,xi a b,Sp.no,Sp.no⟩ else { g with d:=(kD g.d (q9 a b)).1 }) true))) A W:=by
 have hne:D≠B4:=λe=>by rw[e,g4] at hD;cases hD
 rw[a4B];have d12:gR 12=[gO 12 0]:=by kernel_rfl
 have e12:(gO 12 0).dst=some 63:=by kernel_rfl
 have r12':∀Q':Act->World->Prop,Q' (A.put (some 63) (.bool met)) W->aF Tryz.prog (gR 12).toArray Q' (gR 12) A W:=λQ' hq=>by
  rw[show aF Tryz.prog (gR 12).toArray Q' (gR 12) A W=aF Tryz.prog (gR 12).toArray Q' [gO 12 0] A W by rw[<- d12]];refine jN (x:=.bool met) (W:=W) (by kernel_rfl) ?_ ?_
  ·have := vB (P := Tryz.prog) (o := gO 12 0) (a := A) (w := W) (t := 4) (x := .tmp 6) (j := 0) (n := 1) (b := false) (cs := [.bool met]) (by kernel_rfl) h6 g6 (by kernel_rfl) (by kernel_rfl) (by simp) (λ_ => rfl);exact this
  ·rw[e12];exact hq
 have s1:(A.put (some 63) (.bool met)).tmps.size=94:=by simp[Act.put,hsz]
 have e63:(A.put (some 63) (.bool met)).eval (.tmp 63)=.bool met:=ij (by rw[hsz];decide);refine wp_seq (wp_seq (wp_region_lit (aF.wp (r12' _ ?_))));cases met with|true =>
  rw[if_pos rfl];refine wp_cond_true e63 (wp_seq (r13 _ W a b B2 B3 _ s1 (by rw[cT (by decide)];exact h2) (by rw[cT (by decide)];exact h3) g2 g3 λa1 W1 s2 df1 of1 x1 hp=>?_));obtain⟨p,p1,p2⟩:=hp;refine wp_seq (wp_region_lit (aF.wp (r14 a1 W1 _ B4 p _ s2 (by rw[of1 4 (by kernel_rfl),cT (by decide)];exact h4) p1 p2 (aH g4 x1) λa2 W2 W3 vs x2 hc hr=>wp_ret ?_)));have xx:=ac.step x1 x2;exact R7 (hr.df.trans (df1.trans hd)) hr.t4 hr.t5 hr.c (hc.only hr.on (aH g4 xx)) ((ac.step hx xx).trans (hr.on.below hB4)) ((hr.on.block D hne).trans (aH hD xx)) hDw|false =>
  rw[if_neg (by decide)];refine wp_cond_false e63 (wp_skip ?_);refine wp_seq (wp_region_lit (aF.wp (r15 _ W g a b B2 B3 Bl _ s1 (by rw[cT (by decide)];exact h8) (by rw[cT (by decide)];exact h2) (by rw[cT (by decide)];exact h3) g2 g3 (gl rfl) λa1 V1 W1 x1 hJ1 of1=>?_)));refine wp_seq (wp_region_lit (aF.wp (r16 _ V1 W1 g a b _ (show JJ V1 (bI 94 (dG g a b)) (cI [] (cI _ a1)) W1 from ?_) λa2 W2 hJ2 of2=>?_)))
  ·obtain ⟨r, cm, hj⟩ := hJ1;exact⟨r,cm,⟨hj.1.1,rfl⟩,hj.2⟩
  refine wp_seq (wp_region_lit (aF.wp (r17 _ V1 W2 _ a b B4 _ (show JJ V1 (bI 94 (dG { g with d:=(kD g.d (q9 a b)).1 } a b)) (cI [] (cI _ a2)) W2 from ?_) ?_ (aH g4 x1) λa3 W3 W4 vs x3 hc hr=>wp_ret ?_)))
  ·obtain ⟨r, cm, hj⟩ := hJ2;exact⟨r,cm,⟨hj.1.1,rfl⟩,hj.2⟩
  ·show a2.tmps.getD 4 undef = _;rw[of2 4 (by kernel_rfl)];show a1.tmps.getD 4 undef=_;rw[of1 4 (by kernel_rfl),cT (by decide)];exact h4
  have xx:=ac.step x1 x3;exact R7 (hr.df.trans hd) hr.t4 hr.t5 hr.c (hc.only hr.on (aH g4 xx)) ((ac.step hx xx).trans (hr.on.below hB4)) ((hr.on.block D hne).trans (aH hD xx)) hDw
end
end Go.Proofs.YtghemgdfmldoeaaGreat
