import Derived.Test.YteajakbpmeebnaaGreatH29
set_option linter.unusedVariables false
set_option linter.unusedSimpArgs false

namespace Go.Proofs.YteajakbpmeebnaaGreat
open Go.RowKit
def moveE(e:Ed)(x y t:Int)(m:Bool):Ed :=
 ⟨if m then (fam e.k).k else e.k,(applyP x y t m e.ax e.ay).1,(applyP x y t m e.ax e.ay).2,(applyP x y t m e.bx e.by').1,(applyP x y t m e.bx e.by').2,
  if e.k=1 then e.cx else (applyP x y t m e.cx e.cy).1,if e.k=1 then e.cy else (applyP x y t m e.cx e.cy).2⟩

set_option maxHeartbeats 2000000
set_option maxRecDepth 100000
section
attribute [local go_sem] Gives givesU
theorem vec_turns8(ax ay t:Int)(m:Bool)(w:World)(h : -8<=t/\t<=8) :
  Calls Tryz.prog 158 #[.agg #[.int .i64 ax,.int .i64 ay,.int .i64 t,.bool m]] w fun e w'=>e=.returned (.int .i64 (modZ t 4))/\Ext w w':=by
 obtain rfl|rfl|rfl|rfl|rfl|rfl|rfl|rfl|rfl|rfl|rfl|rfl|rfl|rfl|rfl|rfl|rfl:t = -8\/t = -7\/t = -6\/t = -5\/t = -4\/t = -3\/t = -2\/t = -1\/t=0\/t=1\/t=2\/t=3\/t=4\/t=5\/t=6\/t=7\/t=8:=by omega
 all_goals
  go_enter Tryz.func158,Tryz.ntmps158
  go_wp2
  go_ret
  exact⟨rfl,bxx⟩
def cTurns8:Con where
 f:=158
 g:=fun | [⟨true,[.i _ _,.i _ _,.i n _,.v (.bool _)]⟩]=>some (.one (inV (modZ n 4) 3),[-8<=n/\n<=8])|_=>none
 ok:=by
  intro args res ps h hp
  split at h<;>cases h
  rename_i n _ _
  intro W vals hv
  simp only[rvs_cons,rvs_nil,rv_t,rl_i,rl_v,rl_nil] at hv
  obtain⟨_,⟨_,⟨_,_,rfl,_,_,rfl,_,_,rfl,_,_,rfl,rfl⟩,rfl⟩,_,rfl,rfl⟩:=hv
  have hb:=modZ_bd n (m:=4) (by omega)
  exact (vec_turns8 _ _ _ _ W hp.1).mono fun _ _ h=>gv_in ⟨by omega,by unfold I64;omega⟩ h
def KV:List Con:=[cTurns8]
theorem tn3'{n x y ax ay:Int}{m:Bool}(h:modZ n 4=3):applyQ ax ay n m x y=(0-(0-y)+ax,0-(if m then 0-x else x)+ay):=by
 rw[tn3 h];congr 1;omega
theorem vApply_ok(ax ay n x y:Int)(m:Bool)(hn : -8<=n/\n<=8):Fok Tryz.prog 106 [moV ax ay n m c40,ptV x y c40] (.one (ptL (applyQ ax ay n m x y))):=by
 have hb:=modZ_bd n (m:=4) (by omega)
 have q:∀k b,decide (k<modZ n 4)=b->decide (k<modZ n 4)=b:=fun _ _ h=>h
 by_cases h0:modZ n 4=0
 ·have f0 : decide (0 < modZ n 4) = false := by rw [h0]; rfl
  rw[tn0 h0]
  cases m with
  | true=>exact fok KV [true,false] [pT rfl,pP hn,pF f0] (by kernel_rfl)
  | false=>exact fok KV [false,false] [pF rfl,pP hn,pF f0] (by kernel_rfl)
 have t0:decide (0<modZ n 4)=true:=by simp;omega
 by_cases h1:modZ n 4=1
 ·have f1 : decide (0 + 1 < modZ n 4) = false := by rw [h1]; rfl
  rw[tn1 h1]
  cases m with
  | true=>exact fok KV [true,true,false] [pT rfl,pP hn,pT t0,pF f1] (by kernel_rfl)
  | false=>exact fok KV [false,true,false] [pF rfl,pP hn,pT t0,pF f1] (by kernel_rfl)
 have t1:decide (0+1<modZ n 4)=true:=by simp;omega
 by_cases h2:modZ n 4=2
 ·have f2 : decide (0 + 1 + 1 < modZ n 4) = false := by rw [h2]; rfl
  rw[tn2 h2]
  cases m with
  | true=>exact fok KV [true,true,true,false] [pT rfl,pP hn,pT t0,pT t1,pF f2] (by kernel_rfl)
  | false=>exact fok KV [false,true,true,false] [pF rfl,pP hn,pT t0,pT t1,pF f2] (by kernel_rfl)
 have h3:modZ n 4=3:=by omega
 have t2:decide (0+1+1<modZ n 4)=true:=by rw[h3];rfl
 have f3:decide (0+1+1+1<modZ n 4)=false:=by rw[h3];rfl
 rw[tn3' h3]
 cases m with
 | true=>exact fok KV [true,true,true,true,false] [pT rfl,pP hn,pT t0,pT t1,pT t2,pF f3] (by kernel_rfl)
 | false=>exact fok KV [false,true,true,true,false] [pF rfl,pP hn,pT t0,pT t1,pT t2,pF f3] (by kernel_rfl)
def cVApply:Con:=appC 106 (fun n=>[-8<=n/\n<=8]) fun ax ay n x y m h=>vApply_ok ax ay n x y m h.1
def KMv:List Con:=[cOfE,cVApply]
theorem nz_F{k:Int}(h:k=1):(k != 1)=false:=by rw[h];rfl
theorem nz_T{k:Int}(h:¬k=1):(k != 1)=true:=by simpa using h
theorem move_fok(e:Ed)(x y n:Int)(m:Bool)(he:e.ok=true)(hn : -8<=n/\n<=8):Fok Tryz.prog 54 [edV e 3 c26,moV x y n m c26] (.one (edV (moveE e x y (modZ n 4) m) lim lim)):=by
 have hf:(fam e.k).k=1 <-> e.k=1:=by rcases kind_of he with k|k|k<;>rw[k]<;>decide
 unfold moveE
 cases m with
 | true =>
  by_cases hk:e.k=1
  ·simp only [if_pos hk]
   exact fok KMv [true,false] [pT rfl,pF (nz_F (hf.2 hk)),pP hn,pP hn] (by kernel_rfl)
  ·simp only [if_neg hk]
   exact fok KMv [true,true] [pT rfl,pT (nz_T fun h=>hk (hf.1 h)),pP hn,pP hn,pP hn] (by kernel_rfl)
 | false =>
  by_cases hk:e.k=1
  ·simp only [if_pos hk]
   exact fok KMv [false,false] [pF rfl,pF (nz_F hk),pP hn,pP hn] (by kernel_rfl)
  ·simp only [if_neg hk]
   exact fok KMv [false,true] [pF rfl,pT (nz_T hk),pP hn,pP hn,pP hn] (by kernel_rfl)
end

set_option maxRecDepth 100000
section
def edsOf(m:List It)(n:Nat):List Ed:=(List.range n).map fun i=>edAt ((m.drop (i*7)).take 7)
def shOf(z:AV×List Mb):Option (Int×List Ed×Int) :=
 match z.1 with
 | .one ⟨true,[i,.sl b n c,k]⟩=>(match asI i,argI (z.2.map some) (.sl b n c),asI k with
  | some x,some (.fs _ m n c),some y=>if c=7/\(m.all fun i=>i.n==1)=true/\((List.range n).all fun i=>isEd ((m.drop (i*7)).take 7))=true then some (x.1,edsOf m n,y.1) else none
  | _,_,_=>none)
 | _=>none
theorem rowC_congr{R:List It->List Value->Prop}{V:World}{z n:Nat}{f g:Nat->List It}{v:Value}(h:∀i,i<n->f i=g i):RowC R V z n f v->RowC R V z n g v
 | ⟨a,c,e,h1,h2,h3⟩=>⟨a,c,e,h1,h2,fun i hi=>by rw[<- h i hi];exact h3 i hi⟩
theorem rowE_eds(m:List It)(n i:Nat)(h:i<n):rowE (edsOf m n) i=edAt ((m.drop (i*7)).take 7):=by
 unfold rowE edsOf
 simp[h]
theorem shOf_rep{V W:World}{r:Nat->Nat}{cm:Nat->List Value}{z:AV×List Mb}{x:Int×List Ed×Int}{v:Value}(h:shOf z=some x)(hM:RM V r cm (z.2.map some) W)(hv:RepA W W r z.2.length z.1 v):RepV W W (fun _=>0) 0 (shpV (shL' x.1 x.2.1 x.2.2)) v:=by
 obtain⟨z1,ms⟩:=z
 unfold shOf at h
 split at h
 ·rename_i i b n c k hz
  subst hz
  split at h
  ·rename_i x o m n' c' y hx ha hy
   split at h
   ·rename_i hc
    obtain⟨rfl,c1,c2⟩:=hc
    cases h
    obtain⟨cs,⟨a0,_,rfl,q0,a1,_,rfl,q1,a2,_,rfl,q2,rfl⟩,h2,h3⟩:=hv
    have k1:=argI_rep hM ha (show RepI V W r (ms.map some).length (.sl b n c) a1 by rw[List.length_map];exact q1)
    have k0:=asI_lim hx q0
    have k2:=asI_lim hy q2
    obtain⟨rfl,p0⟩:=k0
    obtain⟨rfl,p2⟩:=k2
    have ht:toRo (.fs o m n' 7)=some (n',fun i=>(m.drop (i*7)).take 7):=by
     unfold toRo
     simp only[c1,and_self,if_true]
    obtain⟨v',rfl,hro⟩:=toRo_rep ht (fun i hi=>by rw[List.all_eq_true] at c2;exact c2 i (List.mem_range.2 hi)) k1
    refine⟨_,⟨[_],_,rfl,⟨rfl,p0⟩,[_],_,rfl,⟨_,rfl,?_⟩,[_],[],rfl,⟨rfl,p2⟩,rfl⟩,h2,nofun⟩
    have hl:(edsOf m n').length=n':=by unfold edsOf;simp
    show RowC (RepF W) W 7 (edsOf m n').length _ _
    rw[hl]
    exact rowC_congr (fun i hi=>congrArg edI (rowE_eds m n' i hi).symm) hro
   ·cases h
  ·cases h
 ·cases h
theorem fokS{f:FuncId}{args:List V1}{k:Int}{l:List Ed}{r:Int}(X:List Eff)(K:List Con)(q:List Bool)(pf:List Pf)(h:((aFun Tryz.prog (env X) (tab K) 40 f args q).bind fun z=>(shOf z.1).map fun y=>(y,z.2))=some ((k,l,r),pf.map Pf.p,[])):Fok Tryz.prog f args (.one (shpV (shL' k l r))):=by
 cases hz:aFun Tryz.prog (env X) (tab K) 40 f args q with
 | none=>rw[hz] at h;cases h
 | some z =>
  obtain⟨z0,z2,z3⟩:=z
  rw[hz] at h
  cases hs:shOf z0 with
  | none=>simp[hs] at h
  | some y =>
   simp only[Option.bind_some,hs,Option.map_some,Option.some.injEq,Prod.mk.injEq] at h
   obtain⟨rfl,rfl,rfl⟩:=h
   have hB:=(aFun_ok prog_nm EQ_ok (env_ok X) MT_ok WR_ok (tab_ok K) 40).ok f args q _ _ [] hz (all_pf pf)
   intro W vals hv
   refine (hB W vals hv).mono ?_
   rintro e w' ⟨v,r,cm,rfl,hM,hr⟩
   refine⟨v,rfl,?_,hM.ext⟩
   exact shOf_rep hs hM hr
def qV(e:Ed)(A B:Nat):V1:=⟨true,[.i e.k 3,.i e.ax A,.i e.ay B,.i e.bx (A+64),.i e.by' (B+64),.i e.cx (A+64),.i e.cy (B+64)]⟩
theorem quart_fok(px py r t:Int)(g:Bool):Fok Tryz.prog 52 [ptV px py 1000,inV r 16,inV t 16,blV g] (.one (edV (quartE px py r t g) lim lim)):=by
 unfold quartE
 cases g with
 | true=>exact fok [dApply] [true] [pT rfl] (by kernel_rfl)
 | false=>exact fok [dApply] [false] [pF rfl] (by kernel_rfl)
theorem quart_bd{px py r t:Int}{g:Bool}{A B:Nat}(h1:px.natAbs<=A)(h2:py.natAbs<=B)(h3:r.natAbs<=16):((quartE px py r t g).k.natAbs<=3/\(quartE px py r t g).ax.natAbs<=A/\(quartE px py r t g).ay.natAbs<=B)/\((quartE px py r t g).bx.natAbs<=A+64/\(quartE px py r t g).by'.natAbs<=B+64)/\(quartE px py r t g).cx.natAbs<=A+64/\(quartE px py r t g).cy.natAbs<=B+64:=by
 obtain⟨u1,u2⟩:=applyQ_bd (ax:=0) (ay:=0) (n:=t) (x:=r) (y:=0) (m:=false) (A:=0) (B:=0) (D:=16) (E:=0) (by decide) (by decide) h3 (by decide)
 unfold quartE
 simp only
 generalize applyQ 0 0 t false r 0=c at *
 obtain⟨v1,v2⟩:=applyQ_bd (ax:=0) (ay:=0) (n:=if g then 3 else 1) (x:=px-(px+c.1)) (y:=py-(py+c.2)) (m:=false) (A:=0) (B:=0) (D:=16) (E:=16) (by decide) (by decide) (by omega) (by omega)
 generalize applyQ 0 0 (if g then 3 else 1) false (px-(px+c.1)) (py-(py+c.2))=v at *
 refine⟨⟨by split<;>decide,h1,h2⟩,⟨by omega,by omega⟩,by omega,by omega⟩
def dQuart:Con where
 f:=52
 g:=fun | [⟨true,[.i px A,.i py B]⟩,⟨false,[.i r C]⟩,⟨false,[.i t D]⟩,⟨false,[.v (.bool g)]⟩]=>if (A<=1000/\B<=1000)/\C<=16/\D<=16 then some (.one (qV (quartE px py r t g) A B),[]) else none|_=>none
 ok:=by
  intro args res ps h hp
  split at h<;>try cases h
  split at h<;>cases h
  rename_i px A py B r C t D g hb
  intro W vals hv
  have hv2:=hv
  simp only[rvs_cons,rvs_nil,rv_t,rv_i,rv_v,rl_i,rl_nil] at hv2
  obtain⟨_,⟨_,⟨⟨a1,i1⟩,_,rfl,⟨a2,i2⟩,_,rfl,rfl⟩,rfl⟩,_,rfl,_,⟨⟨a3,i3⟩,rfl⟩,_,rfl,_,⟨⟨a4,i4⟩,rfl⟩,_,rfl,_,⟨ok,rfl⟩,_,rfl,rfl⟩:=hv2
  obtain⟨⟨q1,q2,q3⟩,⟨q4,q5⟩,q6,q7⟩:=quart_bd (t:=t) (g:=g) a1 a2 (show r.natAbs<=16 by omega)
  refine (quart_fok px py r t g W _ (rvs_cons.2 ⟨_,rv_t.2 ⟨_,rl_i.2 ⟨⟨by omega,i1⟩,_,rfl,rl_i.2 ⟨⟨by omega,i2⟩,_,rfl,rfl⟩⟩,rfl⟩,_,rfl,rvs_cons.2 ⟨_,rv_i.2 ⟨⟨by omega,i3⟩,rfl⟩,_,rfl,rvs_cons.2 ⟨_,rv_i.2 ⟨⟨by omega,i4⟩,rfl⟩,_,rfl,rvs_cons.2 ⟨_,rv_v.2 ⟨ok,rfl⟩,_,rfl,rfl⟩⟩⟩⟩)).mono fun e w' ⟨v,e1,h1,h2⟩=>⟨v,e1,?_,h2⟩
  simp only[RepA,edV,qV,rv_t,rl_i,rl_nil] at h1 ⊢
  obtain⟨cs,⟨⟨_,g1⟩,_,rfl,⟨_,g2⟩,_,rfl,⟨_,g3⟩,_,rfl,⟨_,g4⟩,_,rfl,⟨_,g5⟩,_,rfl,⟨_,g6⟩,_,rfl,⟨_,g7⟩,_,rfl,rfl⟩,e2⟩:=h1
  exact⟨_,⟨⟨q1,g1⟩,_,rfl,⟨q2,g2⟩,_,rfl,⟨q3,g3⟩,_,rfl,⟨q4,g4⟩,_,rfl,⟨q5,g5⟩,_,rfl,⟨q6,g6⟩,_,rfl,⟨q7,g7⟩,_,rfl,rfl⟩,e2⟩
end

set_option maxHeartbeats 4000000
set_option maxRecDepth 100000
section
def sanL:List It:=[.k 1,.k 0,.k 0,.k 4,.k 0,.k 0,.k 0,.k 1,.k 4,.k 0,.k 4,.k 4,.k 0,.k 0,.k 1,.k 4,.k 4,.k 0,.k 4,.k 0,.k 0,.k 1,.k 0,.k 4,.k 0,.k 0,.k 0,.k 0]
def frS(k:Int)(l:List It)(n:Nat)(r:Int):Sh:=⟨k,n,fun i=>edAt ((l.drop (i*7)).take 7),r⟩
def sanO:Sh:=frS 2 sanL 4 0
def sanP:Sh:=shL' 1 [lnEd 2 2 2 2] 1
def sanM:List (Option Mb):=List.replicate 15 none++[some ⟨37,sanL⟩,some ⟨30,[.k 2,.sl 15 4 7,.k 0]⟩]
def sanD0:Ds:=⟨[(5,.eq (blV true)),(10,.eq (blV true)),(13,.eq (blV true)),(14,.eq (ptrN 16))],sanM⟩
def sanD1:Ds:=⟨[(5,.eq (blV true)),(10,.eq (blV true)),(13,.eq (blV true)),(14,.eq (ptrN 16)),(15,.eq (ptrN 17)),(16,.eq (blV (borderQ sanO sanP).2))],sanM++[some ⟨53,gpL (borderQ sanO sanP).1⟩]⟩
noncomputable def sR:List Oper:=match lpC 5 (2*10+1) with | .region _ ops _=>ops.toList|_=>[]
noncomputable def sO (i : Nat) : Oper := ((sR)[i]?).getD ⟨none, .move (.tmp 0), 0, "", #[], none⟩
theorem path_fok(x0 y0 x1 y1 r:Int):Fok Tryz.prog 14 [inV x0 lim,inV y0 lim,inV x1 lim,inV y1 lim,inV r lim] (.one (shpV (shL' 1 [lnEd x0 y0 x1 y1] r))):=fokS [] [] [] [] (by kernel_rfl)
theorem shpV_mono(s:Sh)(v:Value):FMono fun W=>RepV W W (fun _=>0) 0 (shpV s) v:=fun W W' h hb=>by
 obtain⟨p,c,rfl,h1⟩:=ShAt.of h
 exact (h1.ext hb).rep
theorem gpC_val{W:World}{g:Gp}{b:Bool}{v:Value}(h:RepA W W (fun _=>0) 0 (ofV (g,b)) v):∃cs,v=.tuple #[.agg cs.toArray,.bool b]/\GpC W g cs:=by
 obtain⟨_,rfl,h⟩:=h
 obtain⟨_,hx,_,rfl,h2⟩:=rvs_cons.1 h
 obtain⟨_,hy,_,rfl,h3⟩:=rvs_cons.1 h2
 cases h3
 obtain⟨cs,hr,rfl⟩:=rv_t.1 hx
 exact⟨cs,by rw[(rv_v.1 hy).2],gpC_ofL hr⟩
theorem gpL_rl{V W:World}{r:Nat->Nat}{k:Nat}{g:Gp}{cs:List Value}(h:GpC W g cs):RepL V W r k (gpL g) cs:=by
 obtain⟨n,p,l,c,m,q,k,d,rfl,h1,h2,⟨i1,i2⟩,⟨j1,j2,j3,j4,j5,j6,j7⟩,k1,k2,k3,k4,k5,k6,k7⟩:=h
 exact⟨[_],_,rfl,⟨rfl,rfl⟩,[_],_,rfl,⟨rfl,lim64 i1⟩,[_],_,rfl,⟨rfl,lim64 i2⟩,[_,_],_,rfl,⟨_,_,_,_,rfl,h1⟩,[_,_],_,rfl,⟨_,_,_,_,rfl,h2⟩,[_],_,rfl,⟨rfl,lim64 j1⟩,[_],_,rfl,⟨rfl,lim64 j2⟩,[_],_,rfl,⟨rfl,lim64 j3⟩,[_],_,rfl,⟨rfl,lim64 j4⟩,[_],_,rfl,⟨rfl,lim64 j5⟩,[_],_,rfl,⟨rfl,lim64 j6⟩,[_],_,rfl,⟨rfl,lim64 j7⟩,[_],_,rfl,⟨rfl,lim64 k1⟩,[_],_,rfl,⟨rfl,lim64 k2⟩,[_],_,rfl,⟨rfl,lim64 k3⟩,[_],_,rfl,⟨rfl,lim64 k4⟩,[_],_,rfl,⟨rfl,lim64 k5⟩,[_],_,rfl,⟨rfl,lim64 k6⟩,[_],[],rfl,⟨rfl,lim64 k7⟩,rfl⟩
theorem san_10:OrcOk Tryz.prog (lpC 5 (2*10+1)) ⟨nF 5,sanD0,.nm,sanD1⟩:=by
 intro V a w Q hJ hQ
 obtain⟨r,cm,⟨hM,hd⟩,hsz,hT⟩:=hJ
 have hn:a.tmps.size=134:=hsz.trans (by kernel_rfl)
 have t14:RepV V w r 17 (ptrN 16) (a.tmps.getD 14 undef):=hT 14 (.one (ptrN 16)) (by kernel_rfl)
 have e14:a.tmps.getD 14 undef=.pointer (some ⟨r 16,0,none⟩):=by simpa using t14.scal.2
 obtain⟨h15,q15⟩:=hM.blk 15 ⟨37,sanL⟩ (by kernel_rfl)
 obtain⟨h16,c,dd,e16,rl,hnd⟩:=hM.blk 16 ⟨30,[.k 2,.sl 15 4 7,.k 0]⟩ (by kernel_rfl)
 have A:∀W,Ext w W->RepV W W (fun _=>0) 0 (shpV sanO) (.agg c.toArray):=fun W hW =>
  toShF_rep (l:=[.k 2,.fs 0 sanL 4 7,.k 0]) (ps:=[]) (by kernel_rfl) trivial ⟨c,argL_rep (hM.step hW) (show argL sanM [.k 2,.sl 15 4 7,.k 0]=some [.k 2,.fs 0 sanL 4 7,.k 0] by kernel_rfl) (rl.imp (RepI.ext hW)),rfl,nofun⟩
 have hc3:c.length=3:=by
  obtain⟨_,_,rfl,⟨rfl,_⟩,_,_,rfl,⟨_,_,_,_,rfl,_⟩,_,_,rfl,⟨rfl,_⟩,rfl⟩:=rl
  rfl
 refine wp_as (c':=Code.region 10 sR.toArray true) (by kernel_rfl) ?_
 refine wp_region_F (fun W=>Ext w W) (by kernel_rfl) (by kernel_rfl) (fun W W' h hb=>Ext.step h hb) (fun W h=>h.size) (Below.refl _ _) ?_
 rw[show sR=[sO 0,sO 1,sO 2,sO 3,sO 4,sO 5,sO 6,sO 7,sO 8] by kernel_rfl]
 have d0:(sO 0).dst=some 87:=by kernel_rfl
 have d1:(sO 1).dst=some 88:=by kernel_rfl
 have d2:(sO 2).dst=some 89:=by kernel_rfl
 have d3:(sO 3).dst=some 86:=by kernel_rfl
 have d4:(sO 4).dst=some 90:=by kernel_rfl
 have d5:(sO 5).dst=some 91:=by kernel_rfl
 have d6:(sO 6).dst=some 15:=by kernel_rfl
 have d7:(sO 7).dst=none:=by kernel_rfl
 have d8:(sO 8).dst=some 16:=by kernel_rfl
 refine F_run (v:=.agg c.toArray) (by kernel_rfl) (fun W hW=>?_) ?_
 ·have := ex_load (P := Tryz.prog) (o := sO 0) (a := a) (w := W) (t := 30) (x := .tmp 14) (j := 0) (n := 3) (b := true) (cs := cm 16) (by kernel_rfl) e14 (heap_ext h16 hW) (by kernel_rfl) (by kernel_rfl) (by rw [e16, List.length_append]; omega) nofun
  rw[List.drop_zero,e16,List.take_left' hc3] at this
  exact this
 rw[d0]
 refine F_callE (I:=Value) (fun v=>v) (fun v W=>RepV W W (fun _=>0) 0 (shpV sanP) v) (shpV_mono sanP) (by kernel_rfl) (by kernel_rfl) (fun W hW=>?_) fun v1 hv1=>?_
 ·have en:(execOp (a.put (some 87) (.agg c.toArray)).eval (sO 1)).run Tryz.prog W=.ok (.enter 14 #[.int .i64 2,.int .i64 2,.int .i64 2,.int .i64 2,.int .i64 1]) W:=by
   have:=run_enter (P:=Tryz.prog) (o:=sO 1) (a:=a.put (some 87) (.agg c.toArray)) (f:=14) (x:=.func 14) (caps:=#[]) (cl:={ callee:=.value (.func 14),args:=#[.const (.int .i64 2),.const (.int .i64 2),.const (.int .i64 2),.const (.int .i64 2),.const (.int .i64 1)],argTypes:=#[3,3,3,3,3] }) prog_nm Tryz.func14 rfl (by kernel_rfl) rfl rfl W
   rw[this]
   simp only[List.map_toArray,List.map_cons,List.map_nil]
   rfl
  refine gives_enter en ((path_fok 2 2 2 2 1 W [.int .i64 2,.int .i64 2,.int .i64 2,.int .i64 2,.int .i64 1] ?_).mono ?_)
  ·have i2 : ∀ z : Int, I64 z -> RepV W W (fun _ => 0) 0 (inV z lim) (.int .i64 z) := fun z hz => rv_i.2 ⟨lim64 hz, rfl⟩
   have b2:I64 2:=by unfold I64;omega
   have b1:I64 1:=by unfold I64;omega
   exact rvs_cons.2 ⟨_,i2 2 b2,_,rfl,rvs_cons.2 ⟨_,i2 2 b2,_,rfl,rvs_cons.2 ⟨_,i2 2 b2,_,rfl,rvs_cons.2 ⟨_,i2 2 b2,_,rfl,rvs_cons.2 ⟨_,i2 1 b1,_,rfl,rfl⟩⟩⟩⟩⟩
  ·rintro e W' ⟨v, rfl, hv, hx⟩
   exact⟨v,rfl,v,rfl,hx,hv⟩
 rw[d1]
 refine F_callE (I:=List Value) (fun cs=>.tuple #[.agg cs.toArray,.bool (borderQ sanO sanP).2]) (fun cs W=>GpC W (borderQ sanO sanP).1 cs) (fun cs W W' h hb=>h.ext hb) (by kernel_rfl) (by kernel_rfl) (fun W hW=>?_) fun cs hcs=>?_
 ·have en:(execOp ((a.put (some 87) (.agg c.toArray)).put (some 88) v1).eval (sO 2)).run Tryz.prog W=.ok (.enter 20 #[.agg c.toArray,v1]) W:=by
   have:=run_enter (P:=Tryz.prog) (o:=sO 2) (a:=(a.put (some 87) (.agg c.toArray)).put (some 88) v1) (f:=20) (x:=.func 20) (caps:=#[]) (cl:={ callee:=.value (.func 20),args:=#[.tmp 87,.tmp 88],argTypes:=#[30,30] }) prog_nm Tryz.func20 rfl (by kernel_rfl) rfl rfl W
   rw[this]
   simp only[List.map_toArray,List.map_cons,List.map_nil]
   rw[show ((a.put (some 87) (.agg c.toArray)).put (some 88) v1).eval (.tmp 87)=.agg c.toArray from (put_ne (by decide)).trans (put_lt (by rw[hn];decide)),show ((a.put (some 87) (.agg c.toArray)).put (some 88) v1).eval (.tmp 88)=v1 from put_lt (by rw[put_size,hn];decide)]
   rfl
  refine gives_enter en ((border_fok sanO sanP W _ (rvs_cons.2 ⟨_,A W hW.1,_,rfl,rvs_cons.2 ⟨_,hW.2,_,rfl,rfl⟩⟩)).mono ?_)
  rintro e W' ⟨v,rfl,hv,hx⟩
  obtain⟨cs,rfl,hg⟩:=gpC_val hv
  exact⟨_,rfl,cs,rfl,hx,hg⟩
 rw[d2]
 obtain⟨W0,hW0⟩:=hcs
 obtain⟨h21,h1c⟩:=hW0.2.one
 have hnc:=hW0.2.nd
 clear hW0
 obtain⟨ok,hok⟩:∃ok,(borderQ sanO sanP).2=ok:=⟨_,rfl⟩
 obtain⟨G,hG⟩:∃G,(borderQ sanO sanP).1=G:=⟨_,rfl⟩
 rw[hok,hG]
 refine F_run (v:=.tuple #[.agg cs.toArray,.bool ok]) (by kernel_rfl) (fun W _=>?_) ?_
 ·have := ex_move (P := Tryz.prog) (o := sO 3) (a := ((a.put (some 87) (.agg c.toArray)).put (some 88) v1).put (some 89) (.tuple #[.agg cs.toArray, .bool ok])) (x := .tmp 89) (by kernel_rfl) W
  rw[show ∀b:Act,b.eval (.tmp 89)=b.tmps.getD 89 undef from fun _=>rfl,put_lt (by rw[put_size,put_size,hn];decide)] at this
  exact this
 rw[d3]
 have s86:((((a.put (some 87) (.agg c.toArray)).put (some 88) v1).put (some 89) (.tuple #[.agg cs.toArray,.bool ok])).put (some 86) (.tuple #[.agg cs.toArray,.bool ok])).tmps.size=134:=by simp[put_size,hn]
 have e86:((((a.put (some 87) (.agg c.toArray)).put (some 88) v1).put (some 89) (.tuple #[.agg cs.toArray,.bool ok])).put (some 86) (.tuple #[.agg cs.toArray,.bool ok])).tmps.getD 86 undef=.tuple #[.agg cs.toArray,.bool ok]:=put_lt (by simp[put_size,hn])
 have off86:∀t,t≠86->t≠87->t≠88->t≠89->((((a.put (some 87) (.agg c.toArray)).put (some 88) v1).put (some 89) (.tuple #[.agg cs.toArray,.bool ok])).put (some 86) (.tuple #[.agg cs.toArray,.bool ok])).tmps.getD t undef=a.tmps.getD t undef:=fun t h1 h2 h3 h4=>by rw[put_ne (Ne.symm h1),put_ne (Ne.symm h4),put_ne (Ne.symm h3),put_ne (Ne.symm h2)]
 have hd86:((((a.put (some 87) (.agg c.toArray)).put (some 88) v1).put (some 89) (.tuple #[.agg cs.toArray,.bool ok])).put (some 86) (.tuple #[.agg cs.toArray,.bool ok])).defers=[]:=hd
 generalize (((a.put (some 87) (.agg c.toArray)).put (some 88) v1).put (some 89) (.tuple #[.agg cs.toArray,.bool ok])).put (some 86) (.tuple #[.agg cs.toArray,.bool ok])=b at *
 refine F_run (v:=.agg cs.toArray) (by kernel_rfl) (fun W _=>ex_extract (x:=.tmp 86) (j:=0) (vs:=[.agg cs.toArray,.bool ok]) (by kernel_rfl) e86 rfl W) ?_
 rw[d4]
 refine F_run (v:=.bool ok) (by kernel_rfl) (fun W _=>ex_extract (x:=.tmp 86) (j:=1) (vs:=[.agg cs.toArray,.bool ok]) (by kernel_rfl) (by show (b.put (some 90) _).tmps.getD 86 undef=_;rw[put_ne (by decide)];exact e86) rfl W) ?_
 rw[d5]
 refine F_alloc (.cells zGp.toArray 53) (by kernel_rfl) (by kernel_rfl) (fun W _=>?_) (fun g hg=>?_) (by intro g;kernel_rfl)
 ·obtain ⟨i, i1, i2⟩ := info_of (P := Tryz.prog) (t := 53) (z := .agg zGp.toArray) (by kernel_rfl)
  exact ex_alloc (by kernel_rfl) i1 i2 W
 rw[d6]
 have hgw:w.heap.size<=g:=Nat.le_of_not_lt fun h=>hg (List.mem_range.2 h)
 have sB:((b.put (some 90) (.agg cs.toArray)).put (some 91) (.bool ok)).tmps.size=134:=by simp[put_size,s86]
 refine F_store (fun W=>Ext w W/\GpC W G cs/\W.heap[g]? = some (.cells cs.toArray 53)) (fun W W' h hb=>⟨Ext.step h.1 hb,h.2.1.ext hb,heap_ext h.2.2 hb⟩) (fun _ h=>h.1) (by kernel_rfl) (by kernel_rfl) (fun W hW=>?_) ?_
 ·obtain ⟨⟨⟨x1, _⟩, hg1⟩, hgg⟩ := hW
  obtain⟨o1,o2⟩:=onlyB_setRow (cs':=(zGp.take 0++(cs++zGp.drop (0+cs.length))).toArray) hgg
  have ec:zGp.take 0++(cs++zGp.drop (0+cs.length))=cs:=by rw[List.take_zero,List.nil_append,Nat.zero_add,List.drop_eq_nil_of_le (by rw[h21];decide),List.append_nil]
  refine gives_skip (W:=W.setRow g (zGp.take 0++(cs++zGp.drop (0+cs.length))).toArray) (ex_store (t:=53) (vs:=cs) (x:=.tmp 15) (y:=.tmp 90) (n:=21) (by kernel_rfl) ?_ hgg ?_ (by kernel_rfl) h21 (by rw[h21];decide) h1c) ⟨rfl,by rw[o1.size];exact Nat.le_refl _,x1.trans (o1.below hgw),hg1.only o1 hgg,by rw[o2,ec]⟩
  ·exact put_lt (by rw[sB];decide)
  ·rw [show ∀ c : Act, c.eval (.tmp 90) = c.tmps.getD 90 undef from fun _ => rfl, put_ne (by decide), put_ne (by decide), put_lt (by rw [s86]; decide)]
   rfl
 rw[d7,put_none]
 refine F_run (v:=.bool ok) (by kernel_rfl) (fun W _=>?_) ?_
 ·have := ex_assign (P := Tryz.prog) (o := sO 8) (a := ((b.put (some 90) (.agg cs.toArray)).put (some 91) (.bool ok)).put (some 15) (.pointer (some ⟨g, 0, none⟩))) (x := .tmp 91) (by kernel_rfl) W
  rw[show ∀c:Act,c.eval (.tmp 91)=c.tmps.getD 91 undef from fun _=>rfl,put_ne (by decide),put_lt (by simp[put_size,s86])] at this
  exact this
 rw[d8]
 rintro W ⟨⟨x1,hg1,hgg⟩,_⟩
 have hM':=hM.step x1
 have hno:∀b x,mb (mkS (nF 5) sanD0).m b=some x->r b≠g:=fun b x hb e=>by
  have:=(Array.getElem?_eq_some_iff.1 (hM.blk b x hb).1).1
  omega
 have hM2:=hM'.new (T:=53) (l:=gpL G) hgg (RepL.pre (gpL_rl hg1)) (by have:=hM.ext.size;omega) hno
 have hd1:sanD1=⟨[(5,.eq (blV true)),(10,.eq (blV true)),(13,.eq (blV true)),(14,.eq (ptrN 16)),(15,.eq (ptrN 17)),(16,.eq (blV ok))],sanM++[some ⟨53,gpL G⟩]⟩:=by unfold sanD1;rw[hok,hG]
 rw[hd1] at hQ
 have off:∀t,t≠86->t≠87->t≠88->t≠89->t≠90->t≠91->t≠15->t≠16->((((b.put (some 90) (.agg cs.toArray)).put (some 91) (.bool ok)).put (some 15) (.pointer (some ⟨g,0,none⟩))).put (some 16) (.bool ok)).tmps.getD t undef=a.tmps.getD t undef:=fun t h1 h2 h3 h4 h5 h6 h7 h8=>by
  rw[put_ne (Ne.symm h8),put_ne (Ne.symm h7),put_ne (Ne.symm h6),put_ne (Ne.symm h5)]
  exact off86 t h1 h2 h3 h4
 have up':∀ {v:V1} {x:Value},RepV V w r 17 v x->RepV V W (up r 17 g) 18 v x:=fun {v x} h=>by
  obtain⟨cs',k1,k2⟩:=h
  exact⟨cs',k1.imp fun i cs h=>RepI.grow (Nat.le_succ _) (fun b hb=>up_old hb) i cs (RepI.ext x1 i cs h),k2⟩
 refine hQ _ _ ⟨up r 17 g,upM cm 17 cs,⟨hM2,hd86⟩,?_,fun i v hv=>?_⟩
 ·show (Act.put _ _ _).tmps.size = _
  rw[put_size,put_size,sB]
  kernel_rfl
 ·rcases Tr.sets_get (Tm.get_lt hv).2 with rfl | ⟨x, hx', rfl⟩
  ·trivial
  ·simp only [List.mem_cons, List.not_mem_nil, or_false, Prod.mk.injEq] at hx'
   rcases hx' with⟨rfl,rfl⟩|⟨rfl,rfl⟩|⟨rfl,rfl⟩|⟨rfl,rfl⟩|⟨rfl,rfl⟩|⟨rfl,rfl⟩
   ·rw[off 5 (by decide) (by decide) (by decide) (by decide) (by decide) (by decide) (by decide) (by decide)];exact up' (hT 5 (.one (blV true)) (by kernel_rfl))
   ·rw[off 10 (by decide) (by decide) (by decide) (by decide) (by decide) (by decide) (by decide) (by decide)];exact up' (hT 10 (.one (blV true)) (by kernel_rfl))
   ·rw[off 13 (by decide) (by decide) (by decide) (by decide) (by decide) (by decide) (by decide) (by decide)];exact up' (hT 13 (.one (blV true)) (by kernel_rfl))
   ·rw[off 14 (by decide) (by decide) (by decide) (by decide) (by decide) (by decide) (by decide) (by decide)];exact up' t14
   ·rw [put_ne (by decide), put_lt (by rw [sB]; decide)]
    exact RepI.val (i:=.p 17 0) ⟨Nat.lt_succ_self _,by simp[up]⟩
   ·rw [put_lt (by rw [put_size, sB]; decide)]
    exact rv_v.2 ⟨rfl,rfl⟩
end

set_option maxRecDepth 1000000
section
def KSa:List Con:=[cGapF,cTouch,cLeastG,cBord,cHolds,cRtOf,cNOf,cRight,cCmp,cCmpInt]
def pC:Pf:=⟨true=true,rfl⟩
theorem sanity10:Fok Tryz.prog 5 [] (.one (blV true)) :=
 fokL [] KSa _ (LT.cons san_10 LT.nil) (List.replicate 24 true) (List.replicate 13 pC++([pR (blV true),pR (blV true),pR (blV true),pR (ptrN 16),⟨It.sl 15 4 7=It.sl 15 4 7,rfl⟩]++List.replicate 11 pC)) (by kernel_rfl)
theorem sanC(w:World):Calls Tryz.prog 5 #[] w fun e w'=>e=.returned (.bool true)/\Ext w w' :=
 (sanity10 w [] rfl).mono fun e w' ⟨v,e1,h1,h2⟩=>⟨by rw[e1,(rv_v.1 h1).2],h2⟩
end

set_option maxRecDepth 100000
section
def KMd:List Con:=[dQuart,dApply]
def roundQ(px py r w h:Int):Sh :=
 let q:=fun (t x y:Int)=>applyQ 0 0 t false x y
 let n0:=(px+r+(q 0 w 0).1,py+(q 0 w 0).2)
 let c0:=(n0.1+(q 0 0 r).1,n0.2+(q 0 0 r).2)
 let e0:=(c0.1+(q 0 r 0).1,c0.2+(q 0 r 0).2)
 let n1:=(e0.1+(q 1 h 0).1,e0.2+(q 1 h 0).2)
 let c1:=(n1.1+(q 1 0 r).1,n1.2+(q 1 0 r).2)
 let e1:=(c1.1+(q 1 r 0).1,c1.2+(q 1 r 0).2)
 let n2:=(e1.1+(q 2 w 0).1,e1.2+(q 2 w 0).2)
 let c2:=(n2.1+(q 2 0 r).1,n2.2+(q 2 0 r).2)
 let e2:=(c2.1+(q 2 r 0).1,c2.2+(q 2 r 0).2)
 let n3:=(e2.1+(q 3 h 0).1,e2.2+(q 3 h 0).2)
 let c3:=(n3.1+(q 3 0 r).1,n3.2+(q 3 0 r).2)
 let e3:=(c3.1+(q 3 r 0).1,c3.2+(q 3 r 0).2)
 shL' 2 [lnEd (px+r) py n0.1 n0.2,⟨2,n0.1,n0.2,e0.1,e0.2,c0.1,c0.2⟩,lnEd e0.1 e0.2 n1.1 n1.2,⟨2,n1.1,n1.2,e1.1,e1.2,c1.1,c1.2⟩,
  lnEd e1.1 e1.2 n2.1 n2.2,⟨2,n2.1,n2.2,e2.1,e2.2,c2.1,c2.2⟩,lnEd e2.1 e2.2 n3.1 n3.2,⟨2,n3.1,n3.2,e3.1,e3.2,c3.1,c3.2⟩] 0
theorem roundQ_eq(px py r w h:Int):roundQ px py r w h=roundS px py r w h:=by
 have m0:modZ 0 4=0:=by decide
 have m1:modZ 1 4=1:=by decide
 have m2:modZ 2 4=2:=by decide
 have m3:modZ 3 4=3:=by decide
 have ex:∀ {a b c d e f a' b' c' d' e' f':Int},a=a'->b=b'->c=c'->d=d'->e=e'->f=f'->(⟨2,a,b,c,d,e,f⟩:Ed)=⟨2,a',b',c',d',e',f'⟩:=fun h1 h2 h3 h4 h5 h6=>by rw[h1,h2,h3,h4,h5,h6]
 have lx:∀ {a b c d a' b' c' d':Int},a=a'->b=b'->c=c'->d=d'->lnEd a b c d=lnEd a' b' c' d':=fun h1 h2 h3 h4=>by rw[h1,h2,h3,h4]
 unfold roundQ roundS
 simp only[tn0 m0,tn1 m1,tn2 m2,tn3 m3,Bool.false_eq_true,if_false]
 refine congrArg (fun l=>shL' 2 l 0) ?_
 refine congr (congrArg List.cons (lx ?_ ?_ ?_ ?_)) (congr (congrArg List.cons (ex ?_ ?_ ?_ ?_ ?_ ?_)) (congr (congrArg List.cons (lx ?_ ?_ ?_ ?_)) (congr (congrArg List.cons (ex ?_ ?_ ?_ ?_ ?_ ?_)) (congr (congrArg List.cons (lx ?_ ?_ ?_ ?_)) (congr (congrArg List.cons (ex ?_ ?_ ?_ ?_ ?_ ?_)) (congr (congrArg List.cons (lx ?_ ?_ ?_ ?_)) (congr (congrArg List.cons (ex ?_ ?_ ?_ ?_ ?_ ?_)) rfl)))))))<;>omega
theorem made_0(L:List Int)(h0:nV L 2 6=0):Fok Tryz.prog 21 [⟨false,[.ds L]⟩] (.one (shpV (madeS L))):=by
 unfold madeS
 simp only[if_pos h0]
 exact fokS [xNext] KMd [true] [pT (bq_T h0)] (by kernel_rfl)
theorem made_1(L:List Int)(h0:¬nV L 2 6=0)(h1:nV L 2 6=1):Fok Tryz.prog 21 [⟨false,[.ds L]⟩] (.one (shpV (madeS L))):=by
 unfold madeS
 simp only[if_neg h0,if_pos h1]
 rw[<- roundQ_eq]
 exact fokS [xNext] KMd [false,true] [pF (bq_F h0),pT (bq_T h1)] (by kernel_rfl)
theorem made_2(L:List Int)(h0:¬nV L 2 6=0)(h1:¬nV L 2 6=1)(h2:nV L 2 6=2):Fok Tryz.prog 21 [⟨false,[.ds L]⟩] (.one (shpV (madeS L))):=by
 unfold madeS
 simp only[if_neg h0,if_neg h1,if_pos h2]
 exact fokS [xNext] KMd [false,false,true] [pF (bq_F h0),pF (bq_F h1),pT (bq_T h2)] (by kernel_rfl)
theorem made_3(L:List Int)(h0:¬nV L 2 6=0)(h1:¬nV L 2 6=1)(h2:¬nV L 2 6=2)(h3:nV L 2 6=3):Fok Tryz.prog 21 [⟨false,[.ds L]⟩] (.one (shpV (madeS L))):=by
 unfold madeS
 simp only[if_neg h0,if_neg h1,if_neg h2,if_pos h3]
 exact fokS [xNext] KMd [false,false,false,true] [pF (bq_F h0),pF (bq_F h1),pF (bq_F h2),pT (bq_T h3)] (by kernel_rfl)
theorem path_T{L:List Int}{a:Nat}(h:nV L (a+2) 2=1):pathB L a=true:=by unfold pathB;simpa using h
theorem path_F{L:List Int}{a:Nat}(h:¬nV L (a+2) 2=1):pathB L a=false:=by unfold pathB;simpa using h
def NoK(L:List Int):Prop:=¬nV L 2 6=0/\¬nV L 2 6=1/\¬nV L 2 6=2/\¬nV L 2 6=3
theorem path_1T(L:List Int)(k:NoK L)(hm:nV L 4 3=0)(g0:nV L 7 2=1):Fok Tryz.prog 21 [⟨false,[.ds L]⟩] (.one (shpV (shL' 1 (pathL L 1 5 (nV L 0 50) (nV L 1 50)) (nV L 3 6)))):=by
 simp only[pathL,pathE,pathN,Nat.reduceAdd,path_T (a:=5) g0,if_true,if_false,Bool.false_eq_true]
 exact fokS [xNext] KMd [false,false,false,false,true,true,false] [pF (bq_F k.1),pF (bq_F k.2.1),pF (bq_F k.2.2.1),pF (bq_F k.2.2.2),pT (decide_eq_true (show (0:Int)<1+nV L 4 3 by omega)),pT (bq_T g0),pF (decide_eq_false (show ¬(0+1:Int)<1+nV L 4 3 by omega))] (by kernel_rfl)
theorem path_1F(L:List Int)(k:NoK L)(hm:nV L 4 3=0)(g0:¬nV L 7 2=1):Fok Tryz.prog 21 [⟨false,[.ds L]⟩] (.one (shpV (shL' 1 (pathL L 1 5 (nV L 0 50) (nV L 1 50)) (nV L 3 6)))):=by
 simp only[pathL,pathE,pathN,Nat.reduceAdd,path_F (a:=5) g0,if_true,if_false,Bool.false_eq_true]
 exact fokS [xNext] KMd [false,false,false,false,true,false,false] [pF (bq_F k.1),pF (bq_F k.2.1),pF (bq_F k.2.2.1),pF (bq_F k.2.2.2),pT (decide_eq_true (show (0:Int)<1+nV L 4 3 by omega)),pF (bq_F g0),pF (decide_eq_false (show ¬(0+1:Int)<1+nV L 4 3 by omega))] (by kernel_rfl)
theorem path_2TT(L:List Int)(k:NoK L)(hm:nV L 4 3=1)(g0:nV L 7 2=1)(g1:nV L 13 2=1):Fok Tryz.prog 21 [⟨false,[.ds L]⟩] (.one (shpV (shL' 1 (pathL L 2 5 (nV L 0 50) (nV L 1 50)) (nV L 3 6)))):=by
 simp only[pathL,pathE,pathN,Nat.reduceAdd,path_T (a:=5) g0,path_T (a:=11) g1,if_true,if_false,Bool.false_eq_true]
 exact fokS [xNext] KMd [false,false,false,false,true,true,true,true,false] [pF (bq_F k.1),pF (bq_F k.2.1),pF (bq_F k.2.2.1),pF (bq_F k.2.2.2),pT (decide_eq_true (show (0:Int)<1+nV L 4 3 by omega)),pT (bq_T g0),pT (decide_eq_true (show (0+1:Int)<1+nV L 4 3 by omega)),pT (bq_T g1),pF (decide_eq_false (show ¬(0+1+1:Int)<1+nV L 4 3 by omega))] (by kernel_rfl)
theorem path_2TF(L:List Int)(k:NoK L)(hm:nV L 4 3=1)(g0:nV L 7 2=1)(g1:¬nV L 13 2=1):Fok Tryz.prog 21 [⟨false,[.ds L]⟩] (.one (shpV (shL' 1 (pathL L 2 5 (nV L 0 50) (nV L 1 50)) (nV L 3 6)))):=by
 simp only[pathL,pathE,pathN,Nat.reduceAdd,path_T (a:=5) g0,path_F (a:=11) g1,if_true,if_false,Bool.false_eq_true]
 exact fokS [xNext] KMd [false,false,false,false,true,true,true,false,false] [pF (bq_F k.1),pF (bq_F k.2.1),pF (bq_F k.2.2.1),pF (bq_F k.2.2.2),pT (decide_eq_true (show (0:Int)<1+nV L 4 3 by omega)),pT (bq_T g0),pT (decide_eq_true (show (0+1:Int)<1+nV L 4 3 by omega)),pF (bq_F g1),pF (decide_eq_false (show ¬(0+1+1:Int)<1+nV L 4 3 by omega))] (by kernel_rfl)
theorem path_2FT(L:List Int)(k:NoK L)(hm:nV L 4 3=1)(g0:¬nV L 7 2=1)(g1:nV L 10 2=1):Fok Tryz.prog 21 [⟨false,[.ds L]⟩] (.one (shpV (shL' 1 (pathL L 2 5 (nV L 0 50) (nV L 1 50)) (nV L 3 6)))):=by
 simp only[pathL,pathE,pathN,Nat.reduceAdd,path_F (a:=5) g0,path_T (a:=8) g1,if_true,if_false,Bool.false_eq_true]
 exact fokS [xNext] KMd [false,false,false,false,true,false,true,true,false] [pF (bq_F k.1),pF (bq_F k.2.1),pF (bq_F k.2.2.1),pF (bq_F k.2.2.2),pT (decide_eq_true (show (0:Int)<1+nV L 4 3 by omega)),pF (bq_F g0),pT (decide_eq_true (show (0+1:Int)<1+nV L 4 3 by omega)),pT (bq_T g1),pF (decide_eq_false (show ¬(0+1+1:Int)<1+nV L 4 3 by omega))] (by kernel_rfl)
theorem path_2FF(L:List Int)(k:NoK L)(hm:nV L 4 3=1)(g0:¬nV L 7 2=1)(g1:¬nV L 10 2=1):Fok Tryz.prog 21 [⟨false,[.ds L]⟩] (.one (shpV (shL' 1 (pathL L 2 5 (nV L 0 50) (nV L 1 50)) (nV L 3 6)))):=by
 simp only[pathL,pathE,pathN,Nat.reduceAdd,path_F (a:=5) g0,path_F (a:=8) g1,if_true,if_false,Bool.false_eq_true]
 exact fokS [xNext] KMd [false,false,false,false,true,false,true,false,false] [pF (bq_F k.1),pF (bq_F k.2.1),pF (bq_F k.2.2.1),pF (bq_F k.2.2.2),pT (decide_eq_true (show (0:Int)<1+nV L 4 3 by omega)),pF (bq_F g0),pT (decide_eq_true (show (0+1:Int)<1+nV L 4 3 by omega)),pF (bq_F g1),pF (decide_eq_false (show ¬(0+1+1:Int)<1+nV L 4 3 by omega))] (by kernel_rfl)
theorem path_3TTT(L:List Int)(k:NoK L)(hm:nV L 4 3=2)(g0:nV L 7 2=1)(g1:nV L 13 2=1)(g2:nV L 19 2=1):Fok Tryz.prog 21 [⟨false,[.ds L]⟩] (.one (shpV (shL' 1 (pathL L 3 5 (nV L 0 50) (nV L 1 50)) (nV L 3 6)))):=by
 simp only[pathL,pathE,pathN,Nat.reduceAdd,path_T (a:=5) g0,path_T (a:=11) g1,path_T (a:=17) g2,if_true,if_false,Bool.false_eq_true]
 exact fokS [xNext] KMd [false,false,false,false,true,true,true,true,true,true,false] [pF (bq_F k.1),pF (bq_F k.2.1),pF (bq_F k.2.2.1),pF (bq_F k.2.2.2),pT (decide_eq_true (show (0:Int)<1+nV L 4 3 by omega)),pT (bq_T g0),pT (decide_eq_true (show (0+1:Int)<1+nV L 4 3 by omega)),pT (bq_T g1),pT (decide_eq_true (show (0+1+1:Int)<1+nV L 4 3 by omega)),pT (bq_T g2),pF (decide_eq_false (show ¬(0+1+1+1:Int)<1+nV L 4 3 by omega))] (by kernel_rfl)
theorem path_3TTF(L:List Int)(k:NoK L)(hm:nV L 4 3=2)(g0:nV L 7 2=1)(g1:nV L 13 2=1)(g2:¬nV L 19 2=1):Fok Tryz.prog 21 [⟨false,[.ds L]⟩] (.one (shpV (shL' 1 (pathL L 3 5 (nV L 0 50) (nV L 1 50)) (nV L 3 6)))):=by
 simp only[pathL,pathE,pathN,Nat.reduceAdd,path_T (a:=5) g0,path_T (a:=11) g1,path_F (a:=17) g2,if_true,if_false,Bool.false_eq_true]
 exact fokS [xNext] KMd [false,false,false,false,true,true,true,true,true,false,false] [pF (bq_F k.1),pF (bq_F k.2.1),pF (bq_F k.2.2.1),pF (bq_F k.2.2.2),pT (decide_eq_true (show (0:Int)<1+nV L 4 3 by omega)),pT (bq_T g0),pT (decide_eq_true (show (0+1:Int)<1+nV L 4 3 by omega)),pT (bq_T g1),pT (decide_eq_true (show (0+1+1:Int)<1+nV L 4 3 by omega)),pF (bq_F g2),pF (decide_eq_false (show ¬(0+1+1+1:Int)<1+nV L 4 3 by omega))] (by kernel_rfl)
theorem path_3TFT(L:List Int)(k:NoK L)(hm:nV L 4 3=2)(g0:nV L 7 2=1)(g1:¬nV L 13 2=1)(g2:nV L 16 2=1):Fok Tryz.prog 21 [⟨false,[.ds L]⟩] (.one (shpV (shL' 1 (pathL L 3 5 (nV L 0 50) (nV L 1 50)) (nV L 3 6)))):=by
 simp only[pathL,pathE,pathN,Nat.reduceAdd,path_T (a:=5) g0,path_F (a:=11) g1,path_T (a:=14) g2,if_true,if_false,Bool.false_eq_true]
 exact fokS [xNext] KMd [false,false,false,false,true,true,true,false,true,true,false] [pF (bq_F k.1),pF (bq_F k.2.1),pF (bq_F k.2.2.1),pF (bq_F k.2.2.2),pT (decide_eq_true (show (0:Int)<1+nV L 4 3 by omega)),pT (bq_T g0),pT (decide_eq_true (show (0+1:Int)<1+nV L 4 3 by omega)),pF (bq_F g1),pT (decide_eq_true (show (0+1+1:Int)<1+nV L 4 3 by omega)),pT (bq_T g2),pF (decide_eq_false (show ¬(0+1+1+1:Int)<1+nV L 4 3 by omega))] (by kernel_rfl)
theorem path_3TFF(L:List Int)(k:NoK L)(hm:nV L 4 3=2)(g0:nV L 7 2=1)(g1:¬nV L 13 2=1)(g2:¬nV L 16 2=1):Fok Tryz.prog 21 [⟨false,[.ds L]⟩] (.one (shpV (shL' 1 (pathL L 3 5 (nV L 0 50) (nV L 1 50)) (nV L 3 6)))):=by
 simp only[pathL,pathE,pathN,Nat.reduceAdd,path_T (a:=5) g0,path_F (a:=11) g1,path_F (a:=14) g2,if_true,if_false,Bool.false_eq_true]
 exact fokS [xNext] KMd [false,false,false,false,true,true,true,false,true,false,false] [pF (bq_F k.1),pF (bq_F k.2.1),pF (bq_F k.2.2.1),pF (bq_F k.2.2.2),pT (decide_eq_true (show (0:Int)<1+nV L 4 3 by omega)),pT (bq_T g0),pT (decide_eq_true (show (0+1:Int)<1+nV L 4 3 by omega)),pF (bq_F g1),pT (decide_eq_true (show (0+1+1:Int)<1+nV L 4 3 by omega)),pF (bq_F g2),pF (decide_eq_false (show ¬(0+1+1+1:Int)<1+nV L 4 3 by omega))] (by kernel_rfl)
theorem path_3FTT(L:List Int)(k:NoK L)(hm:nV L 4 3=2)(g0:¬nV L 7 2=1)(g1:nV L 10 2=1)(g2:nV L 16 2=1):Fok Tryz.prog 21 [⟨false,[.ds L]⟩] (.one (shpV (shL' 1 (pathL L 3 5 (nV L 0 50) (nV L 1 50)) (nV L 3 6)))):=by
 simp only[pathL,pathE,pathN,Nat.reduceAdd,path_F (a:=5) g0,path_T (a:=8) g1,path_T (a:=14) g2,if_true,if_false,Bool.false_eq_true]
 exact fokS [xNext] KMd [false,false,false,false,true,false,true,true,true,true,false] [pF (bq_F k.1),pF (bq_F k.2.1),pF (bq_F k.2.2.1),pF (bq_F k.2.2.2),pT (decide_eq_true (show (0:Int)<1+nV L 4 3 by omega)),pF (bq_F g0),pT (decide_eq_true (show (0+1:Int)<1+nV L 4 3 by omega)),pT (bq_T g1),pT (decide_eq_true (show (0+1+1:Int)<1+nV L 4 3 by omega)),pT (bq_T g2),pF (decide_eq_false (show ¬(0+1+1+1:Int)<1+nV L 4 3 by omega))] (by kernel_rfl)
theorem path_3FTF(L:List Int)(k:NoK L)(hm:nV L 4 3=2)(g0:¬nV L 7 2=1)(g1:nV L 10 2=1)(g2:¬nV L 16 2=1):Fok Tryz.prog 21 [⟨false,[.ds L]⟩] (.one (shpV (shL' 1 (pathL L 3 5 (nV L 0 50) (nV L 1 50)) (nV L 3 6)))):=by
 simp only[pathL,pathE,pathN,Nat.reduceAdd,path_F (a:=5) g0,path_T (a:=8) g1,path_F (a:=14) g2,if_true,if_false,Bool.false_eq_true]
 exact fokS [xNext] KMd [false,false,false,false,true,false,true,true,true,false,false] [pF (bq_F k.1),pF (bq_F k.2.1),pF (bq_F k.2.2.1),pF (bq_F k.2.2.2),pT (decide_eq_true (show (0:Int)<1+nV L 4 3 by omega)),pF (bq_F g0),pT (decide_eq_true (show (0+1:Int)<1+nV L 4 3 by omega)),pT (bq_T g1),pT (decide_eq_true (show (0+1+1:Int)<1+nV L 4 3 by omega)),pF (bq_F g2),pF (decide_eq_false (show ¬(0+1+1+1:Int)<1+nV L 4 3 by omega))] (by kernel_rfl)
theorem path_3FFT(L:List Int)(k:NoK L)(hm:nV L 4 3=2)(g0:¬nV L 7 2=1)(g1:¬nV L 10 2=1)(g2:nV L 13 2=1):Fok Tryz.prog 21 [⟨false,[.ds L]⟩] (.one (shpV (shL' 1 (pathL L 3 5 (nV L 0 50) (nV L 1 50)) (nV L 3 6)))):=by
 simp only[pathL,pathE,pathN,Nat.reduceAdd,path_F (a:=5) g0,path_F (a:=8) g1,path_T (a:=11) g2,if_true,if_false,Bool.false_eq_true]
 exact fokS [xNext] KMd [false,false,false,false,true,false,true,false,true,true,false] [pF (bq_F k.1),pF (bq_F k.2.1),pF (bq_F k.2.2.1),pF (bq_F k.2.2.2),pT (decide_eq_true (show (0:Int)<1+nV L 4 3 by omega)),pF (bq_F g0),pT (decide_eq_true (show (0+1:Int)<1+nV L 4 3 by omega)),pF (bq_F g1),pT (decide_eq_true (show (0+1+1:Int)<1+nV L 4 3 by omega)),pT (bq_T g2),pF (decide_eq_false (show ¬(0+1+1+1:Int)<1+nV L 4 3 by omega))] (by kernel_rfl)
theorem path_3FFF(L:List Int)(k:NoK L)(hm:nV L 4 3=2)(g0:¬nV L 7 2=1)(g1:¬nV L 10 2=1)(g2:¬nV L 13 2=1):Fok Tryz.prog 21 [⟨false,[.ds L]⟩] (.one (shpV (shL' 1 (pathL L 3 5 (nV L 0 50) (nV L 1 50)) (nV L 3 6)))):=by
 simp only[pathL,pathE,pathN,Nat.reduceAdd,path_F (a:=5) g0,path_F (a:=8) g1,path_F (a:=11) g2,if_true,if_false,Bool.false_eq_true]
 exact fokS [xNext] KMd [false,false,false,false,true,false,true,false,true,false,false] [pF (bq_F k.1),pF (bq_F k.2.1),pF (bq_F k.2.2.1),pF (bq_F k.2.2.2),pT (decide_eq_true (show (0:Int)<1+nV L 4 3 by omega)),pF (bq_F g0),pT (decide_eq_true (show (0+1:Int)<1+nV L 4 3 by omega)),pF (bq_F g1),pT (decide_eq_true (show (0+1+1:Int)<1+nV L 4 3 by omega)),pF (bq_F g2),pF (decide_eq_false (show ¬(0+1+1+1:Int)<1+nV L 4 3 by omega))] (by kernel_rfl)
theorem made_fok(L:List Int):Fok Tryz.prog 21 [⟨false,[.ds L]⟩] (.one (shpV (madeS L))):=by
 by_cases h0:nV L 2 6=0
 ·exact made_0 L h0
 by_cases h1:nV L 2 6=1
 ·exact made_1 L h0 h1
 by_cases h2:nV L 2 6=2
 ·exact made_2 L h0 h1 h2
 by_cases h3:nV L 2 6=3
 ·exact made_3 L h0 h1 h2 h3
 have k:NoK L:=⟨h0,h1,h2,h3⟩
 have hb:=nV_bd L 4 (m:=3) (by omega)
 unfold madeS
 simp only[if_neg h0,if_neg h1,if_neg h2,if_neg h3]
 obtain hm|hm|hm:nV L 4 3=0\/nV L 4 3=1\/nV L 4 3=2:=by omega
 ·rw [show (1 + nV L 4 3).toNat = 1 by omega]
  by_cases g0:nV L 7 2=1
  ·exact path_1T L k hm g0
  ·exact path_1F L k hm g0
 ·rw [show (1 + nV L 4 3).toNat = 2 by omega]
  by_cases g0:nV L 7 2=1
  ·by_cases g1 : nV L 13 2 = 1
   ·exact path_2TT L k hm g0 g1
   ·exact path_2TF L k hm g0 g1
  ·by_cases g1 : nV L 10 2 = 1
   ·exact path_2FT L k hm g0 g1
   ·exact path_2FF L k hm g0 g1
 ·rw [show (1 + nV L 4 3).toNat = 3 by omega]
  by_cases g0:nV L 7 2=1
  ·by_cases g1 : nV L 13 2 = 1
   ·by_cases g2 : nV L 19 2 = 1
    ·exact path_3TTT L k hm g0 g1 g2
    ·exact path_3TTF L k hm g0 g1 g2
   ·by_cases g2 : nV L 16 2 = 1
    ·exact path_3TFT L k hm g0 g1 g2
    ·exact path_3TFF L k hm g0 g1 g2
  ·by_cases g1 : nV L 10 2 = 1
   ·by_cases g2 : nV L 16 2 = 1
    ·exact path_3FTT L k hm g0 g1 g2
    ·exact path_3FTF L k hm g0 g1 g2
   ·by_cases g2 : nV L 13 2 = 1
    ·exact path_3FFT L k hm g0 g1 g2
    ·exact path_3FFF L k hm g0 g1 g2
end

set_option maxHeartbeats 1000000
set_option maxRecDepth 100000
section
def rowL(e:Nat->Ed):Nat->List Value
 | 0=>[]
 | n+1=>rowL e n++edL (e n)
theorem edL_len(e:Ed):(edL e).length=7:=rfl
theorem rowL_len(e:Nat->Ed):∀n,(rowL e n).length=n*7
 | 0=>rfl
 | n+1=>by rw[rowL,List.length_append,rowL_len e n,edL_len,Nat.succ_mul]
theorem rowL_at(e:Nat->Ed):∀(n i t:Nat),i<n->t<7->(rowL e n)[i*7+t]? = (edL (e i))[t]?
 | 0,_,_,h,_=>absurd h (Nat.not_lt_zero _)
 | n+1,i,t,h,ht=>by
  rw[rowL]
  by_cases hi:i<n
  ·rw [List.getElem?_append_left (by rw [rowL_len]; omega)]
   exact rowL_at e n i t hi ht
  ·obtain rfl : i = n := by omega
   rw[List.getElem?_append_right (by rw[rowL_len];omega),rowL_len]
   congr 1
   omega
theorem rowL_one(e:Nat->Ed):∀n,∀v∈rowL e n,v.oneCell'=true
 | 0,v,h=>by cases h
 | n+1,v,h=>by
  rw[rowL] at h
  rcases List.mem_append.1 h with h|h
  ·exact rowL_one e n v h
  ·exact edL_one (e n) v h
theorem edAt_cell{w:World}{g o t:Nat}{e:Ed}{u:Value}(h:EdAt w g o e)(hu:(edL e)[t]? = some u):w.cell? ⟨g,o+t,none⟩=some u:=by
 obtain⟨h0,h1,h2,h3,h4,h5,h6⟩:=h
 have ht:t<7:=by have:=(List.getElem?_eq_some_iff.1 hu).1;simpa[edL] using this
 obtain rfl|rfl|rfl|rfl|rfl|rfl|rfl:t=0\/t=1\/t=2\/t=3\/t=4\/t=5\/t=6:=by omega
 all_goals (simp only[edL,List.getElem?_cons_succ,List.getElem?_cons_zero,Option.some.injEq] at hu;subst hu;assumption)
theorem infoEd:(Tryz.prog.info? 37).map (fun i=>(i.zero,i.size,i.bytes))=some (some (.agg #[.int .i64 0,.int .i64 0,.int .i64 0,.int .i64 0,.int .i64 0,.int .i64 0,.int .i64 0]),7,56):=by kernel_rfl
def NewE(w:World)(e:Nat->Ed)(n:Nat)(v:Value)(w':World):Prop:=∃g c cur,v=.slice (some ⟨g,0,none⟩) n c/\w.heap.size<=g/\w'.heap[g]? = some (.cells cur 37)/\n<=c/\c<=maxLen/\cur.toList.take (n*7)=rowL e n/\Ext w w'
theorem cloneEd(n:Nat)(e:Nat->Ed)(p:Option Addr)(c:Nat)(w:World)(hR:EdRow w.heap.size w p n e)(h1:1<=n)(hn:n<=1000) :
  Calls Tryz.prog 53 #[.slice p n c] w fun x w'=>∃v,x=.returned v/\NewE w e n v w':=by
 obtain⟨b,o,rfl,hb,_⟩:=hR 0 (by omega)
 obtain⟨i,hi,hz0,hz1,hz2⟩:=info_parts infoEd
 have qT:∀(w:World) (a:Option Addr) (n c n' c':Nat),(binOp .eql 28 (.slice a n c) (.slice none n' c')).run Tryz.prog w=.ok (.bool a.isNone) w :=
  fun w a n c n' c'=>Lib.run_eql_slice_nil w _ _ a n c n' c' Tryz.underlying28
 have hnews:∀j u,(rowL e n)[j]? = some u->w.cell? ⟨b,o+j,none⟩=some u:=by
  intro j u hu
  have hj:j<n*7:=by have:=(List.getElem?_eq_some_iff.1 hu).1;rwa [rowL_len] at this
  obtain⟨g,o',hp,hg,hE⟩:=hR (j/7) (by omega)
  cases hp
  have hd:j/7*7+j%7=j:=by omega
  rw[<- hd] at hu
  rw[rowL_at e n _ _ (by omega) (by omega)] at hu
  have:=edAt_cell hE hu
  rw[Nat.add_assoc,hd] at this
  exact this
 have HN:=Lib.hid hnews
 have H1:=Lib.hid h1
 have HR:=Lib.hid hR
 clear hnews hR h1
 go_enter Tryz.func53,Tryz.ntmps53
 go_wp2_with (at_builtin;refine wpList_append_own _ rfl _ _ 28 rfl w.heap.size 37 i (.agg #[.int .i64 0,.int .i64 0,.int .i64 0,.int .i64 0,.int .i64 0,.int .i64 0,.int .i64 0]) 7 56 Tryz.underlying28 hi hz0 hz1 hz2 rfl (by decide) _ _ _ rfl (World.ownsRow_made w #[] 0 (Nat.le_refl _) (by decide) rfl) ⟨b,o,none⟩ n c (rowL e n) rfl (rowL_len e n) ?c2 (rowL_one e n) ?c3 ?c4 ?c5 ?_)
 case c2=>exact fun j u hu=>by rw[add_none];exact (cell_later ((Below.refl _ _).alloc (Nat.le_refl _) _) (HN.out j u hu))
 case c3=>unfold maxLen;omega
 case c4=>omega
 case c5=>simp
 intro v' w1 hown hgr _
 obtain⟨_,⟨_,h0⟩|⟨g,cp,cur,rfl,hbg,hc,hcp,hmx,hsz,htk⟩⟩:=hown
 ·have:=H1.out;omega
 have fin:Hid (NewE w e n (.slice (some ⟨g,0,none⟩) n cp) w1):=Lib.hid ⟨g,cp,cur,rfl,hbg,hc,by omega,hmx,by simpa using htk,((Below.refl _ _).alloc (Nat.le_refl _) _).grown hgr (by simp) (fun k hk=>by simp[Value.ownBlock] at hk;omega)⟩
 go_wp2
 go_ret
 exact⟨_,rfl,fin.out⟩
end
end Go.Proofs.YteajakbpmeebnaaGreat
