import Derived.Test.YtghemgdfmldoeaaGreatS32
import Derived.WalkMore
set_option linter.unusedVariables false
set_option linter.unusedSimpArgs false

namespace Go.Proofs.YtghemgdfmldoeaaGreat
open Go.RowKit

set_option maxRecDepth 100000
section
def shL(s:Sh):List It:=(shpV s).l
def sumR(a b:Sh):Int:=IntKind.i64.wrap (IntKind.i64.wrap (0-a.r)-b.r)
def zrt(a b:Sh):Rt:=(ofP (sumR a b) 0 (ofZ 0) (ofZ 1)).1
def KOf:List Con:=[cNOf,cRtOf,cPlus]
theorem r13(a:Act)(W:World)(s u:Sh)(B2 B3:Nat)(Q:Exit->Act->World->Prop)(hsz:a.tmps.size=94)(h2:a.tmps.getD 2 undef=ptrA B2)(h3:a.tmps.getD 3 undef=ptrA B3)(g2:FpAt W B2 (shL s))(g3:FpAt W B3 (shL u))
  (hQ:∀a' W',a'.tmps.size=94->a'.defers=a.defers->(∀t,offT (gR 13) t=true->a'.tmps.getD t undef=a.tmps.getD t undef)->Ext W W'->(∃p,a'.tmps.getD 14 undef=ptrA p/\FpAt W' p (rtV (zrt s u)).l)->Q .normal a' W'):(Code.region 13 (gR 13).toArray true).wp Tryz.prog Q a W:=by
 refine regD_wp (X:=[]) (K:=KOf) (n:=94) (d:=⟨[(2,.eq (fpV (shL s))),(3,.eq (fpV (shL u)))],[]⟩) (d':=⟨[(14,.eq (ptrN 0))],[some ⟨85,(rtV (zrt s u)).l⟩]⟩) (q:=[]) ([pR (ptrN 0)]++pRt (zrt s u)) (by kernel_rfl) (old_J hsz fun z hz=>?_) fun a' W1 hJ hoff=>?_
 ·simp only [List.mem_cons, List.not_mem_nil, or_false] at hz
  rcases hz with rfl|rfl
  ·rw[h2];exact g2.rv
  ·rw[h3];exact g3.rv
 ·obtain ⟨h1, h2, r, h3, h4⟩ := blk_at hJ
  exact hQ _ _ h2 rfl hoff h1 ⟨r 0,(List.cons.inj (h3 14 (ptrN 0) (by kernel_rfl)).scal.2).1,(h4 0 _ rfl (by kernel_rfl)).1⟩
theorem ex_assign{P:Program}{o:Oper}{a:Act}{x:Operand}(ho:o.op=.assign x)(w:World):(execOp a.eval o).run P w=.ok (.value (a.eval x)) w:=by
 unfold execOp
 rw[ho]
 rfl
theorem ex_move{P:Program}{o:Oper}{a:Act}{x:Operand}(ho:o.op=.move x)(w:World):(execOp a.eval o).run P w=.ok (.value (a.eval x)) w:=by
 unfold execOp
 rw[ho]
 rfl
theorem GpC.one{W:World}{g:Gp}{cs:List Value}(h:GpC W g cs):cs.length=21/\∀v∈cs,v.oneCell'=true:=by
 obtain⟨n,p,l,c,m,q,k,d,rfl,_⟩:=h
 refine⟨rfl,fun v hv=>?_⟩
 simp only[List.mem_cons,List.not_mem_nil,or_false] at hv
 rcases hv with rfl|rfl|rfl|rfl|rfl|rfl|rfl|rfl|rfl|rfl|rfl|rfl|rfl|rfl|rfl|rfl|rfl|rfl|rfl|rfl|rfl<;>rfl
structure RtS (a a':Act) (W W':World) (B4:Nat) (b:Bool) (vs:List Value):Prop where
 df:a'.defers=a.defers
 t4:a'.tmps.getD 4 undef=ptrA B4
 t5:a'.tmps.getD 5 undef=.bool b
 on:OnlyB B4 W W'
 c:W'.heap[B4]? = some (.cells vs.toArray 89)
theorem tlG{ops:Array Oper}{o1 o2:Oper}(a:Act)(W:World)(t B4:Nat)(b:Bool)(vs:List Value)(Q:Act->World->Prop)(h1:o1.op=.store 89 (.tmp 4) (.tmp t))(h2:o2.op=.assign (.const (.bool b)))(d1:o1.dst=none)(d2:o2.dst=some 5)(g1:o1.guard=none)(g2:o2.guard=none)(hsz:a.tmps.size=94)
  (h4:a.tmps.getD 4 undef=ptrA B4) (ht:a.tmps.getD t undef=.agg vs.toArray) (hl:vs.length=21) (hv:∀v∈vs,v.oneCell'=true) (hB:W.heap[B4]? = some (.cells zGp.toArray 89)) (hQ:∀a' W',RtS a a' W W' B4 b vs->Q a' W'):WpS Tryz.prog ops Q [o1,o2] a W:=by
 obtain⟨k1,k2⟩:=onlyB_setRow (cs':=(zGp.take 0++(vs++zGp.drop (0+vs.length))).toArray) hB
 refine wpS_skip (W:=W.setRow B4 (zGp.take 0++(vs++zGp.drop (0+vs.length))).toArray) (by unfold Region.wanted;rw[g1]) ?_ ?_
 ·exact ex_store h1 h4 hB (by rw[show a.eval (.tmp t)=a.tmps.getD t undef from rfl,ht];rfl) (by kernel_rfl) hl (by rw[hl];decide) hv
 ·have e1 : a.put o1.dst undef = a := by rw [d1]; rfl
  rw[e1]
  refine wpS_val (by unfold Region.wanted;rw[g2]) (ex_assign h2 _) ?_
  rw[d2]
  refine hQ _ _ ⟨rfl,?_,put_lt (by rw[hsz];decide),k1,?_⟩
  ·simpa[Act.put,Array.getElem?_setIfInBounds] using h4
  ·rw [k2]
   simp only[List.take_zero,List.nil_append]
   rw[show zGp.drop (0+vs.length)=[] by rw[hl];rfl,List.append_nil]
def zSp:List It:=[.k 0,.k 0,.k 0,.k 0,.k 0,.k 0,.k 0]
def gpM(r:Rt):List It:=.b true::([.i r.add lim,.i r.s lim,.o (.num r.n),.o (.num r.d)]++(zSp++zSp))
theorem rl_k{V W:World}{r:Nat->Nat}{k:Nat}{n:Int}{l:List It}{cs:List Value}:RepL V W r k (.k n::l) cs <-> I64 n/\∃d,cs=.int .i64 n::d/\RepL V W r k l d :=
 ⟨fun ⟨c,d,e,⟨h1,h2⟩,h3⟩=>⟨h2,d,by rw[e,h1];rfl,h3⟩,fun ⟨h,d,e,h3⟩=>⟨[_],d,e,⟨rfl,h⟩,h3⟩⟩
theorem gpM_of{V W:World}{r:Nat->Nat}{k:Nat}{p:Rt}{cs:List Value}(h:RepL V W r k (gpM p) cs):GpC V ⟨true,p,Sp.no,Sp.no⟩ cs:=by
 simp only[gpM,zSp,List.cons_append,List.nil_append,rl_b,rl_i,rl_onum,rl_k,rl_nil] at h
 obtain⟨_,rfl,⟨_,i1⟩,_,rfl,⟨_,i2⟩,_,rfl,n,p',l,c,h1,_,rfl,m,q,k',d,h2,_,rfl,z,_,rfl,_,_,rfl,_,_,rfl,_,_,rfl,_,_,rfl,_,_,rfl,_,_,rfl,_,_,rfl,_,_,rfl,_,_,rfl,_,_,rfl,_,_,rfl,_,_,rfl,_,_,rfl,rfl⟩:=h
 exact⟨n,p',l,c,m,q,k',d,rfl,h1,h2,⟨i1,i2⟩,⟨z,z,z,z,z,z,z⟩,z,z,z,z,z,z,z⟩
theorem r14(a:Act)(W:World)(r:Rt)(B4 P14:Nat)(Q:Act->World->Prop)(hsz:a.tmps.size=94)(h4:a.tmps.getD 4 undef=ptrA B4)(h14:a.tmps.getD 14 undef=ptrA P14)(g14:FpAt W P14 (rtV r).l)(hB:W.heap[B4]? = some (.cells zGp.toArray 89))
  (hQ:∀a' W1 W' vs,Ext W W1->GpC W1 ⟨true,r,Sp.no,Sp.no⟩ vs->RtS a a' W1 W' B4 true vs->Q a' W'):WpS Tryz.prog (gR 14).toArray Q (gR 14) a W:=by
 have es:gR 14=((gR 14).take 2++[gO 14 2,gO 14 3]):=by kernel_rfl
 rw[show WpS Tryz.prog (gR 14).toArray Q (gR 14) a W=WpS Tryz.prog (gR 14).toArray Q ((gR 14).take 2++[gO 14 2,gO 14 3]) a W by rw[<- es]]
 refine wpS_app ?_
 refine runS_ok (X:=[]) (K:=[]) (n:=94) (d:=⟨[(14,.eq (fpV (rtV r).l))],[]⟩) (d':=⟨[(77,.eq ⟨true,gpM r⟩)],[]⟩) (q:=[]) [pR ⟨true,gpM r⟩] (by kernel_rfl) (old_J hsz fun z hz=>?_) fun a' W1 hJ hoff=>?_
 ·simp only [List.mem_cons, List.not_mem_nil, or_false] at hz
  subst hz
  rw[h14];exact g14.rv
 ·obtain ⟨h1, h2, r', h3⟩ := J_at hJ
  obtain⟨ys,hy,e⟩:=rv_t.1 (h3 77 ⟨true,gpM r⟩ (by kernel_rfl))
  have hg:=gpM_of hy
  exact tlG _ W1 77 B4 true ys Q (by kernel_rfl) (by kernel_rfl) (by kernel_rfl) (by kernel_rfl) (by kernel_rfl) (by kernel_rfl) h2 (by rw[show (dfA a.defers a').tmps.getD 4 undef=a'.tmps.getD 4 undef from rfl,hoff 4 (by kernel_rfl)];exact h4) e hg.one.1 hg.one.2 (heap_ext hB h1) fun a2 W' h=>hQ a2 W1 W' ys h1 (hg.ext h1) ⟨h.df,h.t4,h.t5,h.on,h.c⟩
end

set_option maxRecDepth 100000
section
def pGp(g:Gp):List Pf:=[⟨It.v (.bool g.m)=It.v (.bool g.m),rfl⟩]++(pRt g.d++(pSp g.a++pSp g.b))
def lsF(Bl:Nat):Value:=.func (.func 130) #[] #[ptrA Bl]
def dG(g:Gp)(s u:Sh):Ds:=⟨[(16,.eq (ptrN 0)),(2,.eq (fpV (shL s))),(3,.eq (fpV (shL u)))],[some ⟨89,gpL g⟩]⟩
theorem GpC.rep{W:World}{g:Gp}{cs:List Value}(h:GpC W g cs):RepF W (gpL g) cs:=by
 obtain⟨n,p,l,c,m,q,k,d,rfl,h1,h2,⟨i1,i2⟩,⟨j1,j2,j3,j4,j5,j6,j7⟩,k1,k2,k3,k4,k5,k6,k7⟩:=h
 exact⟨[_],_,rfl,⟨rfl,rfl⟩,[_],_,rfl,⟨rfl,lim64 i1⟩,[_],_,rfl,⟨rfl,lim64 i2⟩,[_,_],_,rfl,⟨_,_,_,_,rfl,h1⟩,[_,_],_,rfl,⟨_,_,_,_,rfl,h2⟩,[_],_,rfl,⟨rfl,lim64 j1⟩,[_],_,rfl,⟨rfl,lim64 j2⟩,[_],_,rfl,⟨rfl,lim64 j3⟩,[_],_,rfl,⟨rfl,lim64 j4⟩,[_],_,rfl,⟨rfl,lim64 j5⟩,[_],_,rfl,⟨rfl,lim64 j6⟩,[_],_,rfl,⟨rfl,lim64 j7⟩,[_],_,rfl,⟨rfl,lim64 k1⟩,[_],_,rfl,⟨rfl,lim64 k2⟩,[_],_,rfl,⟨rfl,lim64 k3⟩,[_],_,rfl,⟨rfl,lim64 k4⟩,[_],_,rfl,⟨rfl,lim64 k5⟩,[_],_,rfl,⟨rfl,lim64 k6⟩,[_],[],rfl,⟨rfl,lim64 k7⟩,rfl⟩
theorem gpC_ofL{V W:World}{r:Nat->Nat}{k:Nat}{g:Gp}{cs:List Value}(h:RepL V W r k (gpL g) cs):GpC W g cs:=by
 simp only[gpL,rtV,spV,List.cons_append,List.nil_append,rl_v,rl_i,rl_num,rl_nil] at h
 obtain⟨_,_,rfl,⟨_,i1⟩,_,rfl,⟨_,i2⟩,_,rfl,n,p',l,c,h1,_,rfl,m,q,k',d,h2,_,rfl,⟨_,j1⟩,_,rfl,⟨_,j2⟩,_,rfl,⟨_,j3⟩,_,rfl,⟨_,j4⟩,_,rfl,⟨_,j5⟩,_,rfl,⟨_,j6⟩,_,rfl,⟨_,j7⟩,_,rfl,⟨_,k1⟩,_,rfl,⟨_,k2⟩,_,rfl,⟨_,k3⟩,_,rfl,⟨_,k4⟩,_,rfl,⟨_,k5⟩,_,rfl,⟨_,k6⟩,_,rfl,⟨_,k7⟩,_,rfl,rfl⟩:=h
 exact⟨n,p',l,c,m,q,k',d,rfl,h1,h2,⟨i1,i2⟩,⟨j1,j2,j3,j4,j5,j6,j7⟩,k1,k2,k3,k4,k5,k6,k7⟩
theorem put_ne{a:Act}{d t:Nat}{v:Value}(h:d≠t):(a.put (some d) v).tmps.getD t undef=a.tmps.getD t undef:=by simp[Act.put,Array.getElem?_setIfInBounds,h]
theorem r15(a:Act)(W:World)(g:Gp)(s u:Sh)(B2 B3 Bl:Nat)(Q:Act->World->Prop)(hsz:a.tmps.size=94)(h8:a.tmps.getD 8 undef=lsF Bl)(h2:a.tmps.getD 2 undef=ptrA B2)(h3:a.tmps.getD 3 undef=ptrA B3)(g2:FpAt W B2 (shL s))(g3:FpAt W B3 (shL u))(gl:GpAt W Bl g)
  (hQ:∀a' W1 W',Ext W W1->JJ W1 (mkS 94 (dG g s u)) a' W'->(∀t,offT (gR 15) t=true->a'.tmps.getD t undef=a.tmps.getD t undef)->Q (dfA a.defers a') W'):WpS Tryz.prog (gR 15).toArray Q (gR 15) a W:=by
 have es:gR 15=gO 15 0::gO 15 1::(gR 15).drop 2:=by kernel_rfl
 have d0:(gO 15 0).dst=some 78:=by kernel_rfl
 have d1:(gO 15 1).dst=some 79:=by kernel_rfl
 rw[show WpS Tryz.prog (gR 15).toArray Q (gR 15) a W=WpS Tryz.prog (gR 15).toArray Q (gO 15 0::gO 15 1::(gR 15).drop 2) a W by rw[<- es]]
 refine wpS_val (by kernel_rfl) (ex_move (x:=.tmp 8) (by kernel_rfl) W) ?_
 rw[d0,show a.eval (.tmp 8)=lsF Bl from h8]
 have e78:(a.put (some 78) (lsF Bl)).eval (.tmp 78)=lsF Bl:=put_lt (by rw[hsz];decide)
 have en:(execOp (a.put (some 78) (lsF Bl)).eval (gO 15 1)).run Tryz.prog W=.ok (.enter 130 (#[]++#[ptrA Bl])) W :=
  by simpa using run_enter (P:=Tryz.prog) (o:=gO 15 1) (a:=a.put (some 78) (lsF Bl)) (f:=130) (x:=.tmp 78) (caps:=#[ptrA Bl]) (cl:={ callee:=.value (.tmp 78),args:=#[],argTypes:=#[] }) prog_nm Tryz.func130 rfl (by kernel_rfl) rfl e78 W
 obtain⟨cs,hc,hg⟩:=gl
 refine wpS_call (by kernel_rfl) en (least_fok g W [ptrA Bl] (rvs_cons.2 ⟨_,(FpAt.of hc hg.rep).rv,_,rfl,rfl⟩)) (fun e W h=>by obtain⟨v,h,_⟩:=h;exact⟨v,h⟩) fun v W1 ⟨v',e,hv,hx⟩=>?_
 cases e
 rw[d1]
 refine runS_ok (X:=[]) (K:=[]) (n:=94) (d:=⟨[(79,.eq (gpV g)),(2,.eq (fpV (shL s))),(3,.eq (fpV (shL u)))],[]⟩) (d':=dG g s u) (q:=[]) ([pR (ptrN 0),pR (fpV (shL s)),pR (fpV (shL u))]++pGp g) (by kernel_rfl) (old_J (by simp[Act.put,hsz]) fun z hz=>?_) fun a' W2 hJ hoff=>?_
 ·simp only [List.mem_cons, List.not_mem_nil, or_false] at hz
  rcases hz with rfl|rfl|rfl
  ·rw[put_lt (by simp[Act.put,hsz])];exact hv
  ·rw[put_ne (show 79≠2 by decide),put_ne (show 78≠2 by decide),h2];exact (g2.ext hx).rv
  ·rw[put_ne (show 79≠3 by decide),put_ne (show 78≠3 by decide),h3];exact (g3.ext hx).rv
 ·refine hQ _ W1 _ hx hJ fun t ht => ?_
  rw[es] at ht
  have n0:78≠t:=fun e=>by subst e;revert ht;unfold offT;rw[List.all_cons,d0];simp
  have n1:79≠t:=fun e=>by subst e;revert ht;unfold offT;rw[List.all_cons,List.all_cons,d1];simp
  rw[hoff t (by unfold offT at *;rw[List.all_cons,List.all_cons,Bool.and_eq_true,Bool.and_eq_true] at ht;exact ht.2.2),put_ne n1,put_ne n0]
theorem r16(a:Act)(V W:World)(g:Gp)(s u:Sh)(Q:Act->World->Prop)(hJ:JJ V (mkS 94 (dG g s u)) (dfA [] a) W)
  (hQ:∀a' W',JJ V (mkS 94 (dG { g with d:=(plusR g.d (sumR s u)).1 } s u)) a' W'->(∀t,offT (gR 16) t=true->a'.tmps.getD t undef=a.tmps.getD t undef)->Q (dfA a.defers a') W'):WpS Tryz.prog (gR 16).toArray Q (gR 16) a W :=
 runS_ok (X:=[]) (K:=KOf) (n:=94) (d:=dG g s u) (d':=dG { g with d:=(plusR g.d (sumR s u)).1 } s u) (q:=[]) ([pR (ptrN 0),pR (fpV (shL s)),pR (fpV (shL u))]++pGp { g with d:=(plusR g.d (sumR s u)).1 }) (by kernel_rfl) hJ hQ
theorem r17(a:Act)(V W:World)(g:Gp)(s u:Sh)(B4:Nat)(Q:Act->World->Prop)(hJ:JJ V (mkS 94 (dG g s u)) (dfA [] a) W)(h4:a.tmps.getD 4 undef=ptrA B4)(hB:V.heap[B4]? = some (.cells zGp.toArray 89))
  (hQ:∀a' W1 W' vs,Ext V W1->GpC W1 g vs->RtS a a' W1 W' B4 true vs->Q a' W'):WpS Tryz.prog (gR 17).toArray Q (gR 17) a W:=by
 have es:gR 17=((gR 17).take 1++[gO 17 1,gO 17 2]):=by kernel_rfl
 rw[show WpS Tryz.prog (gR 17).toArray Q (gR 17) a W=WpS Tryz.prog (gR 17).toArray Q ((gR 17).take 1++[gO 17 1,gO 17 2]) a W by rw[<- es]]
 refine wpS_app ?_
 refine runS_ok (X:=[]) (K:=[]) (n:=94) (d:=dG g s u) (d':=⟨[(93,.eq (gpV g))],[]⟩) (q:=[]) [pR (gpV g)] (by kernel_rfl) hJ fun a' W1 hJ' hoff=>?_
 obtain⟨h1,h2,r',h3⟩:=J_at hJ'
 obtain⟨ys,hy,e⟩:=rv_t.1 (h3 93 (gpV g) (by kernel_rfl))
 have hg:GpC W1 g ys:=gpC_ofL hy
 exact tlG _ W1 93 B4 true ys Q (by kernel_rfl) (by kernel_rfl) (by kernel_rfl) (by kernel_rfl) (by kernel_rfl) (by kernel_rfl) h2 (by rw[show (dfA a.defers a').tmps.getD 4 undef=a'.tmps.getD 4 undef from rfl,hoff 4 (by kernel_rfl)];exact h4) e hg.one.1 hg.one.2 (heap_ext hB h1) fun a2 W' h=>hQ a2 W1 W' ys h1 hg ⟨h.df,h.t4,h.t5,h.on,h.c⟩
end

set_option maxHeartbeats 4000000
set_option maxRecDepth 100000
section
open Go.RowKit Go.Shelf
attribute [local go_sem] Oper.semAt_some
attribute [local go_sem] Gives givesU
def cnd(a b:Sh)(i:Nat):Pr:=edgesR (a.e (i/b.n)) (b.e (i%b.n))
def sep(a b:Sh)(i:Nat):Bool:=countE (a.e (i/b.n)) (b.e (i%b.n))==0
def metR(a b:Sh):Gp:=⟨true,zrt a b,Sp.no,Sp.no⟩
def metB(a b:Sh):Bool:=aroB a b||aroB b a || !allB (sep a b) (a.n*b.n)
def ofQ(a b:Sh):Gp×Bool :=
 if chkS a≠0\/chkS b≠0 then (Gp.no,false)
 else if metB a b=true then (metR a b,true)
 else ({ gapK (cnd a b) (a.n*b.n) with d:=(plusR (gapK (cnd a b) (a.n*b.n)).d (sumR a b)).1 },true)
structure ShAt (W:World) (s:Sh) (p:Option Addr) (c:Nat):Prop where
 k:I64 s.k
 r:I64 s.r
 le:s.n<=c
 mx:c<=maxLen
 row:RowC (RepF W) W 7 s.n (fun i=>edI (s.e i)) (.slice p s.n c)
theorem ShAt.ext{W W':World}{s:Sh}{p:Option Addr}{c:Nat}(h:ShAt W s p c)(hx:Ext W W'):ShAt W' s p c:=⟨h.k,h.r,h.le,h.mx,h.row.imp hx fun _ _ h=>h.ext hx⟩
theorem ShAt.rep{W:World}{s:Sh}{p:Option Addr}{c:Nat}(h:ShAt W s p c):RepV W W (fun _=>0) 0 (shpV s) (.agg #[.int .i64 s.k,.slice p s.n c,.int .i64 s.r]) :=
 ⟨_,⟨[_],_,rfl,⟨rfl,i64_lim h.k,h.k⟩,[_],_,rfl,⟨_,rfl,h.row⟩,[_],[],rfl,⟨rfl,i64_lim h.r,h.r⟩,rfl⟩,rfl,nofun⟩
theorem ShAt.of{W:World}{s:Sh}{v:Value}(h:RepV W W (fun _=>0) 0 (shpV s) v):∃p c,v=.agg #[.int .i64 s.k,.slice p s.n c,.int .i64 s.r]/\ShAt W s p c:=by
 obtain⟨cs,⟨_,_,rfl,⟨rfl,_,ik⟩,_,_,rfl,⟨v,rfl,hro⟩,_,_,rfl,⟨rfl,_,ir⟩,rfl⟩,rfl,_⟩:=h
 obtain⟨p,c,rfl,h1,h2,h3⟩:=id hro
 exact⟨p,c,rfl,ik,ir,h1,h2,hro⟩
theorem ShAt.edr{W:World}{s:Sh}{p:Option Addr}{c:Nat}(h:ShAt W s p c):EdRow W.heap.size W p s.n s.e:=by
 obtain⟨p',c',e,_,_,hR⟩:=ro_row (V:=W) (W:=W) (r:=fun _=>0) (k:=0) ⟨_,rfl,h.row⟩
 cases e
 exact hR
theorem rightC'(s:Sh){W0:World}{p:Option Addr}{c:Nat}(h:ShAt W0 s p c)(W:World)(hW:Ext W0 W):Calls Tryz.prog 89 #[.agg #[.int .i64 s.k,.slice p s.n c,.int .i64 s.r]] W fun e W'=>e=.returned (.bool (chkS s==0))/\Ext W W' :=
 (right_fok s W _ (rvs_cons.2 ⟨_,(h.ext hW).rep,_,rfl,rfl⟩)).mono fun _ _ ⟨_,e,hv,hx⟩=>⟨by rw[e,(rv_v.1 hv).2],hx⟩
theorem aroundC(a b:Sh){W0:World}{p q:Option Addr}{c d:Nat}(h:ShAt W0 a p c)(g:ShAt W0 b q d)(ha:a.n<=1000)(hb:0<b.n)(W:World)(hW:Ext W0 W):Calls Tryz.prog 90 #[.agg #[.int .i64 a.k,.slice p a.n c,.int .i64 a.r],.agg #[.int .i64 b.k,.slice q b.n d,.int .i64 b.r]] W fun e W'=>e=.returned (.bool (aroB a b))/\Ext W W' :=
 (around_fok a b ha hb W _ (rvs_cons.2 ⟨_,(h.ext hW).rep,_,rfl,rvs_cons.2 ⟨_,(g.ext hW).rep,_,rfl,rfl⟩⟩)).mono fun _ _ ⟨_,e,hv,hx⟩=>⟨by rw[e,(rv_v.1 hv).2],hx⟩
abbrev ofV(g:Gp×Bool):AV:=.tup [gpV g.1,blV g.2]
theorem wp_as{c c':Code}{Q:Exit->Act->World->Prop}{a:Act}{w:World}(e:c=c')(h:c'.wp Tryz.prog Q a w):c.wp Tryz.prog Q a w:=e ▸ h
theorem zGpC(W:World):GpC W Gp.no zGp:=by
 have z:I64 0:=by unfold I64;omega
 have r:∀W,NR W false none 0 0 zero:=fun W=>⟨rfl,rfl,Nat.le_refl _,Nat.zero_le _,(fun _ h=>nomatch h),fun h=>absurd h (Nat.lt_irrefl _)⟩
 exact⟨_,_,_,_,_,_,_,_,rfl,r W,r W,⟨z,z⟩,⟨z,z,z,z,z,z,z⟩,z,z,z,z,z,z,z⟩
theorem r2(a:Act)(W:World)(B4:Nat)(Q:Act->World->Prop)(hsz:a.tmps.size=94)(h4:a.tmps.getD 4 undef=ptrA B4)(hB:W.heap[B4]? = some (.cells zGp.toArray 89))(hQ:∀a' W',RtS a a' W W' B4 false zGp->Q a' W'):WpS Tryz.prog (gR 2).toArray Q (gR 2) a W:=by
 have es:gR 2=[gO 2 0,gO 2 1,gO 2 2]:=by kernel_rfl
 have d0:(gO 2 0).dst=some 25:=by kernel_rfl
 rw[show WpS Tryz.prog (gR 2).toArray Q (gR 2) a W=WpS Tryz.prog (gR 2).toArray Q [gO 2 0,gO 2 1,gO 2 2] a W by rw[<- es]]
 refine wpS_val (x:=.agg zGp.toArray) (W:=W) (by kernel_rfl) (by kernel_rfl) ?_
 rw[d0]
 exact tlG _ W 25 B4 false zGp Q (by kernel_rfl) (by kernel_rfl) (by kernel_rfl) (by kernel_rfl) (by kernel_rfl) (by kernel_rfl) (by simp[Act.put,hsz]) (by rw[put_ne (by decide)];exact h4) (put_lt (by rw[hsz];decide)) rfl (zGpC W).one.2 hB fun a2 W' h=>hQ a2 W' ⟨h.df,h.t4,h.t5,h.on,h.c⟩
theorem gp_val{W:World}{g:Gp}{cs:List Value}(h:GpC W g cs):RepV W W (fun _=>0) 0 (gpV g) (.agg cs.toArray):=by
 obtain⟨n,p,l,c,m,q,k,d,rfl,h1,h2,⟨i1,i2⟩,⟨j1,j2,j3,j4,j5,j6,j7⟩,k1,k2,k3,k4,k5,k6,k7⟩:=h
 exact⟨_,⟨[_],_,rfl,⟨rfl,rfl⟩,[_],_,rfl,⟨rfl,lim64 i1⟩,[_],_,rfl,⟨rfl,lim64 i2⟩,[_,_],_,rfl,⟨_,_,_,_,rfl,h1⟩,[_,_],_,rfl,⟨_,_,_,_,rfl,h2⟩,[_],_,rfl,⟨rfl,lim64 j1⟩,[_],_,rfl,⟨rfl,lim64 j2⟩,[_],_,rfl,⟨rfl,lim64 j3⟩,[_],_,rfl,⟨rfl,lim64 j4⟩,[_],_,rfl,⟨rfl,lim64 j5⟩,[_],_,rfl,⟨rfl,lim64 j6⟩,[_],_,rfl,⟨rfl,lim64 j7⟩,[_],_,rfl,⟨rfl,lim64 k1⟩,[_],_,rfl,⟨rfl,lim64 k2⟩,[_],_,rfl,⟨rfl,lim64 k3⟩,[_],_,rfl,⟨rfl,lim64 k4⟩,[_],_,rfl,⟨rfl,lim64 k5⟩,[_],_,rfl,⟨rfl,lim64 k6⟩,[_],[],rfl,⟨rfl,lim64 k7⟩,rfl⟩,rfl,nofun⟩
theorem gapRes{tm:Array Value}{W:World}{B4:Nat}{b:Bool}{vs:List Value}(h4:tm.getD 4 undef=ptrA B4)(h5:tm.getD 5 undef=.bool b)(hg:W.heap[B4]? = some (.cells vs.toArray 89))(hl:vs.length=21):(results Tryz.f32 tm).run Tryz.prog W=.ok (.tuple #[.agg vs.toArray,.bool b]) W:=by
 have hR:Tryz.f32.results=#[.cell 4 89,.tmp 5]:=by kernel_rfl
 have h2:([ResultVar.cell 4 89,.tmp 5].mapM (rvM ⟨tm,[]⟩)).run Tryz.prog W=.ok [.agg vs.toArray,.bool b] W:=by
  have e:(loadVar 89 ⟨B4,0,none⟩).run Tryz.prog W=.ok (cellsV true ((vs.drop 0).take 21)) W:=run_loadVarT hg (by kernel_rfl) (by kernel_rfl) (by omega) nofun
  have e2:cellsV true ((vs.drop 0).take 21)=.agg vs.toArray:=by rw[List.drop_zero,List.take_of_length_le (by omega)];rfl
  rw[e2] at e
  simp only[List.mapM_cons,List.mapM_nil,rvM,Sem.run_bind,h4,h5,ptrA,asAddr,Sem.run_pure,Result.andThen_ok,e]
 show (results Tryz.f32 (⟨tm,[]⟩:Act).tmps).run Tryz.prog W=_
 rw[results_eq,hR,Sem.run_bind,Array.mapM_eq_mapM_toList,Sem.run_map]
 rw[show (#[ResultVar.cell 4 89,.tmp 5]:Array ResultVar).toList=[ResultVar.cell 4 89,.tmp 5] from rfl,h2]
 rfl
def OfPost(w:World)(g:Gp)(b:Bool)(e:Ending)(w':World):Prop:=∃v,e=.returned v/\RepA w' w' (fun _=>0) 0 (ofV (g,b)) v/\Ext w w'
theorem gapVal{W:World}{g:Gp}{b:Bool}{vs:List Value}(h:GpC W g vs):RepA W W (fun _=>0) 0 (ofV (g,b)) (.tuple #[.agg vs.toArray,.bool b]) :=
 ⟨[_,_],rfl,rvs_cons.2 ⟨_,gp_val h,_,rfl,rvs_cons.2 ⟨_,rv_v.2 ⟨rfl,rfl⟩,_,rfl,rfl⟩⟩⟩
theorem gapOf_no(a b:Sh)(h:chkS a≠0\/chkS b≠0):Fok Tryz.prog 32 [shpV a,shpV b] (ofV (Gp.no,false)):=by
 intro w vals hv
 obtain⟨va,ha,_,rfl,hv1⟩:=rvs_cons.1 hv
 obtain⟨vb,hb,_,rfl,hv2⟩:=rvs_cons.1 hv1
 cases hv2
 obtain⟨p,c,rfl,Ha⟩:=ShAt.of ha
 obtain⟨q,d,rfl,Hb⟩:=ShAt.of hb
 have C1:=Lib.hid (rightC' a Ha)
 have C2:=Lib.hid (rightC' b Hb)
 clear ha hb hv hv1 Ha Hb
 have z0:∀w:World,(w.alloc (.cells zGp.toArray 89)).heap[w.heap.size]? = some (.cells zGp.toArray 89):=fun w=>World.alloc_heap_new _ _
 have hx0:Ext w (((w.alloc (.cells #[.int .i64 a.k,.slice p a.n c,.int .i64 a.r] 30)).alloc (.cells #[.int .i64 b.k,.slice q b.n d,.int .i64 b.r] 30)).alloc (.cells zGp.toArray 89)):=bxx
 have X0:=Lib.hid hx0
 have Z0:=Lib.hid (show (((w.alloc (.cells #[.int .i64 a.k,.slice p a.n c,.int .i64 a.r] 30)).alloc (.cells #[.int .i64 b.k,.slice q b.n d,.int .i64 b.r] 30)).alloc (.cells zGp.toArray 89)).heap[w.heap.size+1+1]? = some (.cells zGp.toArray 89) by have:=z0 ((w.alloc (.cells #[.int .i64 a.k,.slice p a.n c,.int .i64 a.r] 30)).alloc (.cells #[.int .i64 b.k,.slice q b.n d,.int .i64 b.r] 30));simpa using this)
 clear hx0 z0
 have fin:∀(a':Act) (W W':World),Ext w W->W.heap.size<=W'.heap.size->RtS ⟨a'.tmps,[]⟩ a' W W' (w.heap.size+1+1) false zGp->bodyPost Tryz.prog Tryz.f32 (OfPost w Gp.no false) .ret a' W':=fun a' W W' hx _ ⟨h1,h2,h3,h4,h5⟩ =>
  bodyPost_ret (gapRes h2 h3 h5 rfl) h1 ⟨_,rfl,gapVal (zGpC W'),hx.trans (h4.below (by omega))⟩
 have FIN:=Lib.hid fin
 clear fin
 by_cases h1:chkS a=0
 ·have h2 : chkS b ≠ 0 := h.resolve_left (fun g => g h1)
  have b1:(chkS a==0)=true:=by simpa using h1
  have b2:(chkS b==0)=false:=by simpa using h2
  clear h h1 h2
  go_enter Tryz.func32,Tryz.ntmps32
  go_wp2_with fail
  go_step3
  go_wp2_with fail
  refine (C1.out _ X0.out).mono ?_
  rintro e W1 ⟨rfl,hx1⟩
  rw[b1]
  have x1:=Ext.step X0.out hx1
  have z1:=heap_ext Z0.out hx1
  have hk:W1.cell? ⟨w.heap.size+1,0,none⟩=some (.int .i64 b.k)/\W1.cell? ⟨w.heap.size+1,1,none⟩=some (.slice q b.n d)/\W1.cell? ⟨w.heap.size+1,2,none⟩=some (.int .i64 b.r):=by
   refine⟨(hx1.cell (p:=⟨_,0,none⟩) (by simp)).trans (by go_simp),(hx1.cell (p:=⟨_,1,none⟩) (by simp)).trans (by go_simp),(hx1.cell (p:=⟨_,2,none⟩) (by simp)).trans (by go_simp)⟩
  obtain⟨k0,k1,k2⟩:=hk
  have XX:=Lib.hid x1
  have Tryz1:=Lib.hid z1
  clear hx1 x1 z1
  go_wp2_with fail
  refine (C2.out _ XX.out).mono ?_
  rintro e W2 ⟨rfl,hx2⟩
  rw[b2]
  have x2:=Lib.hid (Ext.step XX.out hx2)
  have z2:=Lib.hid (heap_ext Tryz1.out hx2)
  clear hx2 k0 k1 k2
  go_upto_region 2 with (fail)
  refine wp_as (c':=Code.region 2 (gR 2).toArray false) (by kernel_rfl) ?_
  refine wp_region_lit (WpS.wp ?_)
  refine r2 _ _ (w.heap.size+1+1) _ (by rfl) (by rfl) z2.out ?_
  rintro⟨tm,df⟩ W' ⟨h1,h2,h3,h4,h5⟩
  obtain rfl:df=[]:=h1
  go_wp2_with fail
  all_goals exact FIN.out _ W2 W' x2.out (by rw[h4.size];exact Nat.le_refl _) ⟨rfl,h2,h3,h4,h5⟩
 ·have b1 : (chkS a == 0) = false := by simpa using h1
  clear h h1 C2
  go_enter Tryz.func32,Tryz.ntmps32
  go_wp2_with fail
  go_step3
  go_wp2_with fail
  refine (C1.out _ X0.out).mono ?_
  rintro e W1 ⟨rfl,hx1⟩
  rw[b1]
  have x2:=Lib.hid (Ext.step X0.out hx1)
  have z2:=Lib.hid (heap_ext Z0.out hx1)
  clear hx1
  go_upto_region 2 with (fail)
  refine wp_as (c':=Code.region 2 (gR 2).toArray false) (by kernel_rfl) ?_
  refine wp_region_lit (WpS.wp ?_)
  refine r2 _ _ (w.heap.size+1+1) _ (by rfl) (by rfl) z2.out ?_
  rintro⟨tm,df⟩ W' ⟨h1,h2,h3,h4,h5⟩
  obtain rfl:df=[]:=h1
  go_wp2_with fail
  all_goals exact FIN.out _ W1 W' x2.out (by rw[h4.size];exact Nat.le_refl _) ⟨rfl,h2,h3,h4,h5⟩
end

set_option maxRecDepth 100000
section
structure ButX (X:List Nat) (W W':World):Prop where
 os:W'.os=W.os
 tape:W'.tape=W.tape
 output:W'.output=W.output
 size:W.heap.size<=W'.heap.size
 block:∀k,k<W.heap.size->k∉X->W'.heap[k]? = W.heap[k]?
theorem ButX.ext{X:List Nat}{W W':World}(h:Ext W W'):ButX X W W':=⟨h.os,h.tape,h.output,h.size,fun k hk _=>h.block k hk⟩
theorem ButX.only{X:List Nat}{g:Nat}{W W':World}(h:OnlyB g W W')(hg:g∈X):ButX X W W':=⟨h.os,h.tape,h.output,by rw[h.size];exact Nat.le_refl _,fun k _ hx=>h.block k fun e=>hx (e ▸ hg)⟩
theorem ButX.two{X:List Nat}{a b:Nat}{W W':World}(h:But2 a b W W')(ha:a∈X)(hb:b∈X):ButX X W W':=⟨h.os,h.tape,h.output,h.size,fun k hk hx=>h.block k hk (fun e=>hx (e ▸ ha)) fun e=>hx (e ▸ hb)⟩
theorem ButX.trans{X:List Nat}{A B C:World}(h:ButX X A B)(k:ButX X B C):ButX X A C:=⟨k.os.trans h.os,k.tape.trans h.tape,k.output.trans h.output,Nat.le_trans h.size k.size,fun i hi hx=>(k.block i (Nat.lt_of_lt_of_le hi h.size) hx).trans (h.block i hi hx)⟩
theorem ButX.below{X:List Nat}{W W':World}{v:Nat}(h:ButX X W W')(hv:v<=W.heap.size)(hX:∀x∈X,v<=x):Below v W W':=⟨h.os,h.tape,h.output,h.size,fun k hk=>h.block k (by omega) fun hx=>by have:=hX k hx;omega⟩
theorem ButX.kp{X:List Nat}{W W':World}(h:ButX X W W'):KpP X W W':=⟨h.size,fun k o hk _ hx=>(h.block k (Array.getElem?_eq_some_iff.1 hk).1 hx).trans hk⟩
theorem ButX.at{X:List Nat}{W W':World}(h:ButX X W W'){k:Nat}{o:Obj}(hk:W.heap[k]? = some o)(hx:k∉X):W'.heap[k]? = some o:=(h.block k (Array.getElem?_eq_some_iff.1 hk).1 hx).trans hk
theorem ButX.keeps{X:List Nat}{W W':World}(h:ButX X W W')(B:Nat)(hX:∀x∈X,∃o,W.heap[x]? = some o/\o.isCells=true):KeepsFrom B W W':=(show KeepsOthers W W' from⟨h.size,fun k o hk ho=>by
 refine h.at hk fun hx=>?_
 obtain⟨o',h1,h2⟩:=hX k hx
 rw[hk] at h1
 cases h1
 rw[ho] at h2
 cases h2⟩).from B
theorem GpAt.but{X:List Nat}{W W':World}{B:Nat}{g:Gp}(h:GpAt W B g)(hk:ButX X W W')(hB:B∉X)(hX:∀x∈X,∃xs T,W.heap[x]? = some (.cells xs T)/\∀v∈xs.toList,nd v):GpAt W' B g:=by
 obtain⟨cs,h1,h2⟩:=h
 exact⟨cs,hk.at h1 hB,h2.kp hX hk.kp⟩
theorem nd_bool{b:Bool}:∀v∈(#[Value.bool b]:Array Value).toList,nd v:=fun v hv=>by rw[List.mem_singleton.1 hv];exact fun z h=>nomatch h
def rfOf:Code->Option Code
 | .seq a b=>match rfOf a with|some c=>some c|none=>rfOf b
 | .block _ c=>rfOf c
 | .scope c=>rfOf c
 | .rangeFunc _ _ _ c=>some c
 | _=>none
noncomputable def rfBody:Code:=(rfOf (bodyF Tryz.prog 32)).getD .skip
theorem rf_eq:rfBody=.block 1 (.seq (.seq (.region 8 (gR 8).toArray false) (.seq (.region 9 (gR 9).toArray false) (.cond (.tmp 49) (.exit 0) .skip))) (.seq (.region 10 (gR 10).toArray false) (.region 11 (gR 11).toArray false))):=by kernel_rfl
theorem inR{id r m:Nat}{l:List Oper}{Q:Exit->Act->World->Prop}{a:Act}{w:World}(hd:(l.all fun o=>match o.op with | .defer _=>false|_=>true)=true)(h:WpS Tryz.prog l.toArray (fun a w=>Q .normal a w) l a w):(Code.region id l.toArray false).wpIn (Fence.wide.inRound r) m Tryz.prog Q a w:=wpIn_region_lit (h.wpIn hd)
theorem body_ok(l m:Nat)(a:Act)(W:World)(x y:Ed)(met sm:Bool)(h:Gp)(B6 B7 Bs Bl P9 P10:Nat)(Q:Exit->Act->World->Prop)(hsz:a.tmps.size=94)(h6:a.tmps.getD 6 undef=ptrA B6)(h7:a.tmps.getD 7 undef=ptrA B7)(h9:a.tmps.getD 9 undef=ptrA P9)(h10:a.tmps.getD 10 undef=ptrA P10)
  (g6:W.heap[B6]? = some (.cells #[.bool met] 4)) (g7:W.heap[B7]? = some (.cells #[kpF Bs Bl] 132)) (g9:W.heap[P9]? = some (.cells (edL x).toArray 108)) (g10:W.heap[P10]? = some (.cells (edL y).toArray 108)) (hx:EdI x) (hy:EdI y)
  (hs:W.heap[Bs]? = some (.cells #[.bool sm] 4)) (hl:GpAt W Bl h) (n1:B6≠B7) (n2:B6≠Bs) (n3:B6≠Bl) (n4:Bs≠Bl) (n5:B6≠P9) (n6:B6≠P10)
  (Qx:∀a' W',ButX [B6,Bs,Bl] W W'->W'.heap[B6]? = some (.cells #[.bool true] 4)->(met || !(countE x y==0))=true->Q (.exit 0) a' W')
  (Qn:∀a' W',ButX [B6,Bs,Bl] W W'->W'.heap[B6]? = some (.cells #[.bool false] 4)->W'.heap[Bs]? = some (.cells #[.bool true] 4)->GpAt W' Bl (if (!sm||decide (cmpRt (edgesR x y).d h.d<0))=true then (edgesR x y).gp else h)->(met || !(countE x y==0))=false->Q .normal a' W'):rfBody.wpIn (Fence.wide.inRound l) m Tryz.prog Q a W:=by
 rw[rf_eq]
 refine wpIn_block (wpIn_seq (wpIn_seq (inR (by kernel_rfl) (r8 a W met x y B6 P9 P10 _ hsz h6 h9 h10 g6 g9 g10 hx hy fun a1 W1 W2 s1 df1 of1 x1 o1 b1=>?_))))
 have bx:ButX [B6,Bs,Bl] W W2:=(ButX.ext x1).trans (.only o1 (by simp))
 obtain⟨t,ht⟩:∃t,(met || !(countE x y==0))=t:=⟨_,rfl⟩
 rw[ht] at b1 Qx Qn
 have d9:gR 9=[gO 9 0]:=by kernel_rfl
 have e9:(gO 9 0).dst=some 49:=by kernel_rfl
 refine wpIn_seq (inR (by kernel_rfl) ?_)
 have r9':∀Q':Act->World->Prop,Q' (a1.put (some 49) (.bool t)) W2->WpS Tryz.prog (gR 9).toArray Q' (gR 9) a1 W2:=fun Q' hq=>by
  rw[show WpS Tryz.prog (gR 9).toArray Q' (gR 9) a1 W2=WpS Tryz.prog (gR 9).toArray Q' [gO 9 0] a1 W2 by rw[<- d9]]
  refine wpS_val (x:=.bool t) (W:=W2) (by kernel_rfl) ?_ ?_
  ·have := ex_load (P := Tryz.prog) (o := gO 9 0) (a := a1) (w := W2) (t := 4) (x := .tmp 6) (j := 0) (n := 1) (b := false) (cs := [.bool t]) (by kernel_rfl) (show a1.tmps.getD 6 undef = _ by rw [of1 6 (by kernel_rfl)]; exact h6) b1 (by kernel_rfl) (by kernel_rfl) (by simp) (fun _ => rfl)
   exact this
  ·rw[e9];exact hq
 refine r9' _ ?_
 have e49:(a1.put (some 49) (.bool t)).eval (.tmp 49)=.bool t:=put_lt (by rw[s1];decide)
 cases t with
 | true=>exact wpIn_cond_true e49 (wpIn_exit (Qx _ _ bx b1 rfl))
 | false =>
  refine wpIn_cond_false e49 (wpIn_skip ?_)
  have hX:∀k ∈ [B6],∃xs T,W1.heap[k]? = some (.cells xs T)/\∀v∈xs.toList,nd v:=fun k hk=>by
   rw[List.mem_singleton.1 hk];exact⟨_,_,heap_ext g6 x1,nd_bool⟩
  have bo:ButX [B6] W1 W2:=.only o1 (by simp)
  have f9:FpAt W2 P9 (edI x):=.of (bo.at (heap_ext g9 x1) (by simpa using Ne.symm n5)) (hx.rep W2)
  have f10:FpAt W2 P10 (edI y):=.of (bo.at (heap_ext g10 x1) (by simpa using Ne.symm n6)) (hy.rep W2)
  refine wpIn_seq (inR (by kernel_rfl) (r10 (a1.put (some 49) (.bool false)) W2 x y P9 P10 _ (by simp[Act.put,s1]) (by rw[put_ne (by decide),of1 9 (by kernel_rfl)];exact h9) (by rw[put_ne (by decide),of1 10 (by kernel_rfl)];exact h10) f9 f10 fun a2 W3 s2 df2 of2 x2 hp=>?_))
  obtain⟨p,q,r,p1,p2,p3,p4,p5,p6⟩:=hp
  have g7':W3.heap[B7]? = some (.cells #[kpF Bs Bl] 132):=heap_ext (bo.at (heap_ext g7 x1) (by simpa using Ne.symm n1)) x2
  have hs':W3.heap[Bs]? = some (.cells #[.bool sm] 4):=heap_ext (bo.at (heap_ext hs x1) (by simpa using Ne.symm n2)) x2
  have hl':GpAt W3 Bl h:=(((hl.ext x1).but bo (by simpa using Ne.symm n3) hX).ext x2)
  refine inR (by kernel_rfl) (r11 a2 W3 (edgesR x y) h sm B7 Bs Bl p q r _ s2 (by rw[of2 7 (by kernel_rfl),put_ne (by decide),of1 7 (by kernel_rfl)];exact h7) p1 p2 p3 g7' p4 p5 p6 hs' hl' n4 fun a3 W4 W5 df3 x3 b3 k1 k2=>?_)
  have b2:ButX [B6,Bs,Bl] W2 W4:=.ext (x2.trans (x3.mono x2.size))
  refine Qn _ _ (bx.trans (b2.trans (.two b3 (by simp) (by simp)))) ?_ k1 k2 rfl
  rw[b3.block B6 (Nat.lt_of_lt_of_le (Array.getElem?_eq_some_iff.1 b1).1 b2.size) n2 n3]
  exact heap_ext b1 (Ext.step x2 x3)
end
def shC3(s:Sh)(p:Option Addr)(c:Nat):Array Value:=#[.int .i64 s.k,.slice p s.n c,.int .i64 s.r]
structure PS (w W:World) (a b:Sh) (p q:Option Addr) (c d:Nat):Prop where
 ex:Ext w W
 b2:W.heap[w.heap.size]? = some (.cells (shC3 a p c) 30)
 b3:W.heap[w.heap.size+1]? = some (.cells (shC3 b q d) 30)
 b4:W.heap[w.heap.size+1+1]? = some (.cells zGp.toArray 89)
theorem PS.step{w W W':World}{a b:Sh}{p q:Option Addr}{c d:Nat}(h:PS w W a b p q c d)(hx:Ext W W'):PS w W' a b p q c d:=⟨Ext.step h.ex hx,heap_ext h.b2 hx,heap_ext h.b3 hx,heap_ext h.b4 hx⟩
theorem PS.sz{w W:World}{a b:Sh}{p q:Option Addr}{c d:Nat}(h:PS w W a b p q c d):w.heap.size+1+1<W.heap.size:=(Array.getElem?_eq_some_iff.1 h.b4).1
theorem PS.cells{w W:World}{a b:Sh}{p q:Option Addr}{c d:Nat}(h:PS w W a b p q c d):(W.cell? ⟨w.heap.size,0,none⟩=some (.int .i64 a.k)/\W.cell? ⟨w.heap.size,1,none⟩=some (.slice p a.n c)/\W.cell? ⟨w.heap.size,2,none⟩=some (.int .i64 a.r))/\W.cell? ⟨w.heap.size+1,0,none⟩=some (.int .i64 b.k)/\W.cell? ⟨w.heap.size+1,1,none⟩=some (.slice q b.n d)/\W.cell? ⟨w.heap.size+1,2,none⟩=some (.int .i64 b.r):=by
 have e2:=h.b2
 have e3:=h.b3
 have c2:∀i,W.cell? ⟨w.heap.size,i,none⟩=(shC3 a p c)[i]? := fun i=>by rw[cell_of_row _ _ _ _ _ _ e2]
 have c3:∀i,W.cell? ⟨w.heap.size+1,i,none⟩=(shC3 b q d)[i]? := fun i=>by rw[cell_of_row _ _ _ _ _ _ e3]
 exact⟨⟨(c2 0).trans rfl,(c2 1).trans rfl,(c2 2).trans rfl⟩,(c3 0).trans rfl,(c3 1).trans rfl,(c3 2).trans rfl⟩

set_option maxRecDepth 100000
section
def scOf:Code->Code
 | .seq _ (.scope c)=>c
 | c=>c
def sndS:Code->Code
 | .seq _ b=>b
 | c=>c
noncomputable def rest4:Code:=sndS (sndS (scOf (bodyF Tryz.prog 32)))
noncomputable def rest12:Code:=sndS (sndS (sndS rest4))
theorem rest12_eq:rest12=.seq (.seq (.region 12 (gR 12).toArray false) (.cond (.tmp 63) (.seq (.region 13 (gR 13).toArray true) (.seq (.region 14 (gR 14).toArray false) .ret)) .skip)) (.seq (.region 15 (gR 15).toArray false) (.seq (.region 16 (gR 16).toArray false) (.seq (.region 17 (gR 17).toArray false) .ret))):=by kernel_rfl
theorem kp_put{W:World}{D:Nat}{o o':Obj}(h:W.heap[D]? = some o)(ho:o.isCells=false):KpP [] W (W.putObj D o'):=⟨(grownBy_putObj' W D o').size,fun k u hk hu _=>by
 have hne:k≠D:=fun e=>by subst e;rw[h] at hk;cases hk;rw[ho] at hu;cases hu
 exact (World.putObj_heap_other (by omega)).trans hk⟩
theorem ret12{w W':World}{a':Act}{g:Gp}{b:Bool}{vs:List Value}{D B4:Nat}(hd:a'.defers=[{ target:=.collected D,args:=#[] }])(h4:a'.tmps.getD 4 undef=ptrA B4)(h5:a'.tmps.getD 5 undef=.bool b)(hg:W'.heap[B4]? = some (.cells vs.toArray 89))(hc:GpC W' g vs)(hx:Ext w W')(hD:W'.heap[D]? = some (.deferred (some [])))(hDw:w.heap.size<=D) :
  bodyPostM Fence.wide 6 Tryz.prog Tryz.f32 (OfPost w g b) .ret a' W':=by
 obtain⟨tm,df⟩:=a'
 obtain rfl:df=_:=hd
 have kp:=kp_put (o':=.deferred none) hD rfl
 have hg':=kp.same B4 _ hg rfl (by simp)
 have hc':GpC (W'.putObj D (.deferred none)) g vs:=hc.kp (X:=[]) (fun x hx=>by simp at hx) kp
 refine⟨by simp,.inl ⟨_,_,rfl,run_takeDeferred hD,?_⟩⟩
 refine⟨_,gapRes h4 h5 hg' hc.one.1,_,rfl,gapVal hc',?_⟩
 exact hx.trans ((Below.refl _ W').grown (grownBy_putObj' W' D (.deferred none)) (Nat.le_trans hDw (by have:=(Array.getElem?_eq_some_iff.1 hD).1;omega)) (fun k e=>by cases e;omega))
theorem nd_zGp:∀v∈zGp.toArray.toList,nd v:=fun v hv=>(zGpC default).nd v (by simpa using hv)
theorem GpC.only{W W':World}{B4:Nat}{g:Gp}{vs:List Value}(h:GpC W g vs)(ho:OnlyB B4 W W')(hB:W.heap[B4]? = some (.cells zGp.toArray 89)):GpC W' g vs :=
 h.kp (X:=[B4]) (fun x hx=>by rw[List.mem_singleton.1 hx];exact⟨_,_,hB,nd_zGp⟩) (ButX.only ho (by simp)).kp
theorem rest12_ok(w W:World)(A:Act)(a b:Sh)(met:Bool)(g:Gp)(B2 B3 B4 B6 Bl D:Nat)(hsz:A.tmps.size=94)(hd:A.defers=[{ target:=.collected D,args:=#[] }])(h2:A.tmps.getD 2 undef=ptrA B2)(h3:A.tmps.getD 3 undef=ptrA B3)(h4:A.tmps.getD 4 undef=ptrA B4)(h6:A.tmps.getD 6 undef=ptrA B6)(h8:A.tmps.getD 8 undef=lsF Bl)
  (g2:FpAt W B2 (shL a)) (g3:FpAt W B3 (shL b)) (g4:W.heap[B4]? = some (.cells zGp.toArray 89)) (g6:W.heap[B6]? = some (.cells #[.bool met] 4)) (gl:met=false->GpAt W Bl g) (hx:Ext w W) (hB4:w.heap.size<=B4) (hD:W.heap[D]? = some (.deferred (some []))) (hDw:w.heap.size<=D) :
  rest12.wp Tryz.prog (Exit.noGoto (bodyPostM Fence.wide 6 Tryz.prog Tryz.f32 (OfPost w (if met=true then ⟨true,zrt a b,Sp.no,Sp.no⟩ else { g with d:=(plusR g.d (sumR a b)).1 }) true))) A W:=by
 have hne:D≠B4:=fun e=>by rw[e,g4] at hD;cases hD
 rw[rest12_eq]
 have d12:gR 12=[gO 12 0]:=by kernel_rfl
 have e12:(gO 12 0).dst=some 63:=by kernel_rfl
 have r12':∀Q':Act->World->Prop,Q' (A.put (some 63) (.bool met)) W->WpS Tryz.prog (gR 12).toArray Q' (gR 12) A W:=fun Q' hq=>by
  rw[show WpS Tryz.prog (gR 12).toArray Q' (gR 12) A W=WpS Tryz.prog (gR 12).toArray Q' [gO 12 0] A W by rw[<- d12]]
  refine wpS_val (x:=.bool met) (W:=W) (by kernel_rfl) ?_ ?_
  ·have := ex_load (P := Tryz.prog) (o := gO 12 0) (a := A) (w := W) (t := 4) (x := .tmp 6) (j := 0) (n := 1) (b := false) (cs := [.bool met]) (by kernel_rfl) h6 g6 (by kernel_rfl) (by kernel_rfl) (by simp) (fun _ => rfl)
   exact this
  ·rw[e12];exact hq
 have s1:(A.put (some 63) (.bool met)).tmps.size=94:=by simp[Act.put,hsz]
 have e63:(A.put (some 63) (.bool met)).eval (.tmp 63)=.bool met:=put_lt (by rw[hsz];decide)
 refine wp_seq (wp_seq (wp_region_lit (WpS.wp (r12' _ ?_))))
 cases met with
 | true =>
  rw[if_pos rfl]
  refine wp_cond_true e63 (wp_seq (r13 _ W a b B2 B3 _ s1 (by rw[put_ne (by decide)];exact h2) (by rw[put_ne (by decide)];exact h3) g2 g3 fun a1 W1 s2 df1 of1 x1 hp=>?_))
  obtain⟨p,p1,p2⟩:=hp
  refine wp_seq (wp_region_lit (WpS.wp (r14 a1 W1 _ B4 p _ s2 (by rw[of1 4 (by kernel_rfl),put_ne (by decide)];exact h4) p1 p2 (heap_ext g4 x1) fun a2 W2 W3 vs x2 hc hr=>wp_ret ?_)))
  have xx:=Ext.step x1 x2
  exact ret12 (hr.df.trans (df1.trans hd)) hr.t4 hr.t5 hr.c (hc.only hr.on (heap_ext g4 xx)) ((Ext.step hx xx).trans (hr.on.below hB4)) ((hr.on.block D hne).trans (heap_ext hD xx)) hDw
 | false =>
  rw[if_neg (by decide)]
  refine wp_cond_false e63 (wp_skip ?_)
  refine wp_seq (wp_region_lit (WpS.wp (r15 _ W g a b B2 B3 Bl _ s1 (by rw[put_ne (by decide)];exact h8) (by rw[put_ne (by decide)];exact h2) (by rw[put_ne (by decide)];exact h3) g2 g3 (gl rfl) fun a1 V1 W1 x1 hJ1 of1=>?_)))
  refine wp_seq (wp_region_lit (WpS.wp (r16 _ V1 W1 g a b _ (show JJ V1 (mkS 94 (dG g a b)) (dfA [] (dfA _ a1)) W1 from ?_) fun a2 W2 hJ2 of2=>?_)))
  ·obtain ⟨r, cm, hj⟩ := hJ1
   exact⟨r,cm,⟨hj.1.1,rfl⟩,hj.2⟩
  refine wp_seq (wp_region_lit (WpS.wp (r17 _ V1 W2 _ a b B4 _ (show JJ V1 (mkS 94 (dG { g with d:=(plusR g.d (sumR a b)).1 } a b)) (dfA [] (dfA _ a2)) W2 from ?_) ?_ (heap_ext g4 x1) fun a3 W3 W4 vs x3 hc hr=>wp_ret ?_)))
  ·obtain ⟨r, cm, hj⟩ := hJ2
   exact⟨r,cm,⟨hj.1.1,rfl⟩,hj.2⟩
  ·show a2.tmps.getD 4 undef = _
   rw[of2 4 (by kernel_rfl)]
   show a1.tmps.getD 4 undef=_
   rw[of1 4 (by kernel_rfl),put_ne (by decide)]
   exact h4
  have xx:=Ext.step x1 x3
  exact ret12 (hr.df.trans hd) hr.t4 hr.t5 hr.c (hc.only hr.on (heap_ext g4 xx)) ((Ext.step hx xx).trans (hr.on.below hB4)) ((hr.on.block D hne).trans (heap_ext hD xx)) hDw
end
def eT(s:Sh)(i:Nat):Ed:=if i<s.n then s.e i else ⟨0,0,0,0,0,0,0⟩
theorem eT_I{W:World}{s:Sh}{p:Option Addr}{c:Nat}(h:ShAt W s p c)(i:Nat):EdI (eT s i):=by
 unfold eT
 split
 ·rename_i hi
  obtain⟨_,_,_,_,_,h3⟩:=h.row
  obtain⟨g',o,xs,T,k1,k2,k3,cs,d,k4,k5⟩:=h3 i hi
  obtain⟨_,_,rfl,⟨rfl,_,a0⟩,_,_,rfl,⟨rfl,_,a1⟩,_,_,rfl,⟨rfl,_,a2⟩,_,_,rfl,⟨rfl,_,a3⟩,_,_,rfl,⟨rfl,_,a4⟩,_,_,rfl,⟨rfl,_,a5⟩,_,_,rfl,⟨rfl,_,a6⟩,rfl⟩:=k5
  exact⟨a0,a1,a2,a3,a4,a5,a6⟩
 ·have z : I64 0 := by unfold I64; omega
  exact⟨z,z,z,z,z,z,z⟩
theorem eT_row{v:Nat}{W:World}{s:Sh}{p:Option Addr}(h:EdRow v W p s.n s.e):EdRow v W p s.n (eT s):=fun i hi=>by
 obtain⟨g,o,h1,h2,h3⟩:=h i hi
 exact⟨g,o,h1,h2,by unfold eT;rw[if_pos hi];exact h3⟩
def cndT(a b:Sh)(i:Nat):Pr:=edgesR (eT a (i/b.n)) (eT b (i%b.n))
def sepT(a b:Sh)(i:Nat):Bool:=countE (eT a (i/b.n)) (eT b (i%b.n))==0
theorem eT_at{a b:Sh}{i:Nat}(hi:i<a.n*b.n):eT a (i/b.n)=a.e (i/b.n)/\eT b (i%b.n)=b.e (i%b.n):=by
 have hb:0<b.n:=Nat.pos_of_ne_zero fun e=>by rw[e,Nat.mul_zero] at hi;omega
 unfold eT
 rw[if_pos ((Nat.div_lt_iff_lt_mul hb).2 hi),if_pos (Nat.mod_lt _ hb)]
 exact⟨rfl,rfl⟩
theorem cndT_at{a b:Sh}{i:Nat}(hi:i<a.n*b.n):cndT a b i=cnd a b i:=by
 obtain⟨h1,h2⟩:=eT_at hi
 unfold cndT cnd
 rw[h1,h2]
theorem sepT_at{a b:Sh}{i:Nat}(hi:i<a.n*b.n):sepT a b i=sep a b i:=by
 obtain⟨h1,h2⟩:=eT_at hi
 unfold sepT sep
 rw[h1,h2]
def gapS(c:Nat->Pr)(l:List Nat):Bool×Gp:=l.foldl (fun s x=>(true,if (!s.1||decide (cmpRt (c x).d s.2.d<0))=true then (c x).gp else s.2)) (false,Gp.no)
theorem gapS_snoc(c:Nat->Pr)(l:List Nat)(x:Nat):gapS c (l++[x])=(true,if (!(gapS c l).1||decide (cmpRt (c x).d (gapS c l).2.d<0))=true then (c x).gp else (gapS c l).2):=by
 unfold gapS
 rw[List.foldl_append]
 rfl
theorem gapS_up(c c':Nat->Pr):∀k,(∀i,i<k->c i=c' i)->gapS c (upT k)=(!(k==0),gapK c' k)
 | 0,_=>rfl
 | k+1,h=>by
  rw[upT_succ,gapS_snoc,gapS_up c c' k fun i hi=>h i (by omega),h k (by omega)]
  simp only[Bool.not_not]
  rfl
structure LI (w W:World) (a b:Sh) (p q:Option Addr) (c d B6 B7 Bs Bl:Nat) (m:Bool):Prop where
 ps:PS w W a b p q c d
 b6:W.heap[B6]? = some (.cells #[.bool m] 4)
 b7:W.heap[B7]? = some (.cells #[kpF Bs Bl] 132)
theorem LI.kp{w W W':World}{a b:Sh}{p q:Option Addr}{c d B6 B7 Bs Bl:Nat}{m:Bool}(h:LI w W a b p q c d B6 B7 Bs Bl m)(hk:KpP [] W W')(hx:Ext w W'):LI w W' a b p q c d B6 B7 Bs Bl m :=
 ⟨⟨hx,hk.same _ _ h.ps.b2 rfl (by simp),hk.same _ _ h.ps.b3 rfl (by simp),hk.same _ _ h.ps.b4 rfl (by simp)⟩,hk.same _ _ h.b6 rfl (by simp),hk.same _ _ h.b7 rfl (by simp)⟩
theorem kp_grown{W W':World}{row:Option Nat}(hg:W.grownBy W' row)(hr:∀r,row=some r->∃o:Obj,W.heap[r]? = some o/\o.isCells=false):KpP [] W W':=⟨hg.size,fun _ _ hk ho _=>(grownBy_keeps_cells hg hr hk ho).trans hk⟩
theorem KpP.mono{X Y:List Nat}{A B:World}(h:KpP X A B)(hs:∀x∈X,x∈Y):KpP Y A B:=⟨h.size,fun k o hk ho hx=>h.same k o hk ho fun g=>hx (hs k g)⟩
theorem GpAt.kp{W W':World}{B:Nat}{g:Gp}(h:GpAt W B g)(hk:KpP [] W W'):GpAt W' B g:=by
 obtain⟨cs,h1,h2⟩:=h
 exact⟨cs,hk.same _ _ h1 rfl (by simp),h2.kp (X:=[]) (fun x hx=>by simp at hx) hk⟩
theorem ext_grown{w W W':World}{row:Option Nat}{B:Nat}(hx:Ext w W)(hg:W.grownBy W' row)(hB:w.heap.size<=B)(hr:∀r,row=some r->B<=r):Ext w W':=hx.trans ((Below.refl _ W).grown hg hx.size fun k e=>by have:=hr k e;omega)
structure RI (w w3:World) (a b:Sh) (p q:Option Addr) (c d B6 B7 Bs Bl:Nat) (m0:Bool) (pre:List Nat) (W:World):Prop where
 li:LI w W a b p q c d B6 B7 Bs Bl m0
 bs:W.heap[Bs]? = some (.cells #[.bool (gapS (cndT a b) pre).1] 4)
 bl:GpAt W Bl (gapS (cndT a b) pre).2
 sz:w3.heap.size<=W.heap.size
 m:pre ≠ []->m0=false
 sp:∀i∈pre,sepT a b i=true
theorem RI.own(w w3:World)(a b:Sh)(p q:Option Addr)(c d B6 B7 Bs Bl:Nat)(m0:Bool)(h3:w.heap.size<=w3.heap.size):OwnFrom w3.heap.size (RI w w3 a b p q c d B6 B7 Bs Bl m0):=fun _ A B row hs hg hr=>by
 have kp:=kp_grown hg fun r e=>(hr r e).2
 exact⟨hs.li.kp kp (ext_grown hs.li.ps.ex hg h3 fun r e=>(hr r e).1),kp.same _ _ hs.bs rfl (by simp),hs.bl.kp kp,Nat.le_trans hs.sz hg.size,hs.m,hs.sp⟩
structure XI (w w3:World) (a b:Sh) (p q:Option Addr) (c d B6 B7 Bs Bl:Nat) (m0:Bool) (cc:Code) (pre:List Nat) (W:World):Prop where
 cc:cc=.exit 0
 li:LI w W a b p q c d B6 B7 Bs Bl true
 sz:w3.heap.size<=W.heap.size
 why:m0=true\/∃i∈pre,sepT a b i=false
theorem XI.own(w w3:World)(a b:Sh)(p q:Option Addr)(c d B6 B7 Bs Bl:Nat)(m0:Bool)(cc:Code)(h3:w.heap.size<=w3.heap.size):OwnFrom w3.heap.size (XI w w3 a b p q c d B6 B7 Bs Bl m0 cc):=fun _ A B row hs hg hr=>by
 have kp:=kp_grown hg fun r e=>(hr r e).2
 exact⟨hs.cc,hs.li.kp kp (ext_grown hs.li.ps.ex hg h3 fun r e=>(hr r e).1),Nat.le_trans hs.sz hg.size,hs.why⟩
def AI(w3:World)(a b:Sh)(B6 B7:Nat)(x:Nat)(a':Act)(W:World):Prop:=∃P9 P10,a'.tmps.size=94/\a'.tmps.getD 6 undef=ptrA B6/\a'.tmps.getD 7 undef=ptrA B7/\a'.tmps.getD 9 undef=ptrA P9/\a'.tmps.getD 10 undef=ptrA P10/\(w3.heap.size<=P9/\w3.heap.size<=P10) /\
 W.heap[P9]? = some (.cells (edL (eT a (x/b.n))).toArray 108)/\W.heap[P10]? = some (.cells (edL (eT b (x%b.n))).toArray 108)
theorem AI.own(w3:World)(a b:Sh)(B6 B7:Nat)(x:Nat)(a':Act):OwnFrom w3.heap.size (fun (_:Unit) W=>AI w3 a b B6 B7 x a' W):=fun _ A B row ⟨P9,P10,s,h6,h7,h9,h10,hl,g9,g10⟩ hg hr=>by
 have kp:=kp_grown hg fun r e=>(hr r e).2
 exact⟨P9,P10,s,h6,h7,h9,h10,hl,kp.same _ _ g9 rfl (by simp),kp.same _ _ g10 rfl (by simp)⟩
theorem round_ok{w w3:World}{a b:Sh}{p q:Option Addr}{c d B6 B7 Bs Bl:Nat}{m0:Bool}(ha:ShAt w a p c)(hb:ShAt w b q d)(h3:w.heap.size+1+1<B6/\B6<Bl/\Bl<Bs/\Bs<B7/\B7<w3.heap.size)(l m:Nat)(pre:List Nat)(x:Nat)(a':Act)(W:World)(hI:RI w w3 a b p q c d B6 B7 Bs Bl m0 pre W)(hA:AI w3 a b B6 B7 x a' W) :
  rfBody.wpIn (Fence.wide.inRound l) m Tryz.prog (ownPostG w3.heap.size (KpP [B6,Bs,Bl]) (RI w w3 a b p q c d B6 B7 Bs Bl m0) (XI w w3 a b p q c d B6 B7 Bs Bl m0) (pre++[x]) W) a' W:=by
 obtain⟨P9,P10,s,h6,h7,h9,h10,⟨l9,l10⟩,g9,g10⟩:=hA
 obtain⟨k1,k2,k3,k4,k5⟩:=h3
 have hX:∀k ∈ [B6,Bs,Bl],∃o,W.heap[k]? = some o/\o.isCells=true:=fun k hk=>by
  simp only[List.mem_cons,List.not_mem_nil,or_false] at hk
  rcases hk with rfl|rfl|rfl
  ·exact⟨_,hI.li.b6,rfl⟩
  ·exact⟨_,hI.bs,rfl⟩
  ·obtain⟨cs,h,_⟩:=hI.bl;exact⟨_,h,rfl⟩
 have li':∀ {W':World} {t:Bool},ButX [B6,Bs,Bl] W W'->W'.heap[B6]? = some (.cells #[.bool t] 4)->LI w W' a b p q c d B6 B7 Bs Bl t:=fun {W' t} hb h=>by
  have no:∀k,(k<B6\/Bs<k)->k ∉ [B6,Bs,Bl]:=fun k hk hm=>by
   simp only[List.mem_cons,List.not_mem_nil,or_false] at hm
   omega
  refine⟨⟨hI.li.ps.ex.trans (hb.below hI.li.ps.ex.size fun x hx=>?_),hb.at hI.li.ps.b2 (no _ (by omega)),hb.at hI.li.ps.b3 (no _ (by omega)),hb.at hI.li.ps.b4 (no _ (by omega))⟩,h,hb.at hI.li.b7 (no _ (by omega))⟩
  simp only[List.mem_cons,List.not_mem_nil,or_false] at hx
  omega
 refine body_ok l m a' W (eT a (x/b.n)) (eT b (x%b.n)) m0 _ _ B6 B7 Bs Bl P9 P10 _ s h6 h7 h9 h10 hI.li.b6 hI.li.b7 g9 g10 (eT_I ha _) (eT_I hb _) hI.bs hI.bl (by omega) (by omega) (by omega) (by omega) (by omega) (by omega) ?_ ?_
 ·intro a2 W' bx h1 h2
  refine⟨bx.keeps _ hX,rfl,li' bx h1,Nat.le_trans hI.sz bx.size,?_⟩
  cases m0 with
  | true=>exact .inl rfl
  | false=>exact .inr ⟨x,by simp,by unfold sepT;simpa using h2⟩
 ·intro a2 W' bx h1 h2 h4 h5
  simp only[Bool.or_eq_false_iff] at h5
  obtain⟨m1,m2⟩:=h5
  subst m1
  refine⟨bx.keeps _ hX,bx.kp,li' bx h1,by rw[gapS_snoc];exact h2,by rw[gapS_snoc];exact h4,Nat.le_trans hI.sz bx.size,fun _=>rfl,fun i hi=>?_⟩
  rcases List.mem_append.1 hi with hi|hi
  ·exact hI.sp i hi
  ·rw[List.mem_singleton.1 hi];unfold sepT;simpa using m2
end Go.Proofs.YtghemgdfmldoeaaGreat
