import Derived.Test.YtceemiodpccbhaaGreatP13
import Derived.Test.YtceemiodpccbhaaGreatRows
import Derived.ProofKit
import Derived.OpenShut
import Derived.ShutString
import Derived.ChangeOld
import Derived.Lib.SmallJoins
set_option linter.unusedVariables false
set_option linter.unusedSimpArgs false

namespace Go.Proofs.YtceemiodpccbhaaGreat
open Go.RowKit

set_option maxRecDepth 100000
section
theorem lim64{z:Int}(h:I64 z):z.natAbs<=lim/\I64 z:=⟨by unfold I64 at h;unfold lim;omega,h⟩
def c26:Nat:=67108864
def edV(e:Ed)(K B:Nat):V1:=⟨true,[.i e.k K,.i e.ax B,.i e.ay B,.i e.bx B,.i e.by' B,.i e.cx B,.i e.cy B]⟩
def toEd:List It->Option Ed
 | [.i k _,.i ax _,.i ay _,.i bx _,.i by' _,.i cx _,.i cy _]=>some ⟨k,ax,ay,bx,by',cx,cy⟩
 | _=>none
theorem toEd_rep{l:List It}{e:Ed}{V W:World}{r:Nat->Nat}{k:Nat}{x:Value}(h:toEd l=some e)(hr:RepV V W r k ⟨true,l⟩ x) :
  x=.agg #[.int .i64 e.k,.int .i64 e.ax,.int .i64 e.ay,.int .i64 e.bx,.int .i64 e.by',.int .i64 e.cx,.int .i64 e.cy]:=by
 unfold toEd at h
 split at h<;>cases h
 simp only[rv_t,rl_i,rl_nil] at hr
 obtain⟨_,⟨_,_,rfl,_,_,rfl,_,_,rfl,_,_,rfl,_,_,rfl,_,_,rfl,_,_,rfl,rfl⟩,rfl⟩:=hr
 rfl
def cVRight:Con where
 f:=151
 g:=fun | [⟨true,[.i x _,.i y _]⟩]=>some (.one (blV (coordB x y)),[])|_=>none
 ok:=by
  intro args res ps h _
  split at h<;>cases h
  intro W vals hv
  simp only[rvs_cons,rvs_nil,rv_t,rl_i,rl_nil] at hv
  obtain⟨_,⟨_,⟨_,_,rfl,_,_,rfl,rfl⟩,rfl⟩,_,rfl,rfl⟩:=hv
  exact (vec_Right _ _ W).mono fun _ _ h=>gv_bl h
def cTurns:Con where
 f:=164
 g:=fun | [⟨true,[.i _ _,.i _ _,.i n _,.v (.bool _)]⟩]=>if 0<=n/\n<=3 then some (.one ⟨false,[.k n]⟩,[]) else none|_=>none
 ok:=by
  intro args res ps h hp
  split at h<;>try cases h
  split at h<;>cases h
  rename_i hn
  intro W vals hv
  simp only[rvs_cons,rvs_nil,rv_t,rl_i,rl_v,rl_nil] at hv
  obtain⟨_,⟨_,⟨_,_,rfl,_,_,rfl,_,_,rfl,_,_,rfl,rfl⟩,rfl⟩,_,rfl,rfl⟩:=hv
  exact (vec_turns _ _ _ _ W hn).mono fun _ _ h=>⟨_,h.1,RepI.val (i:=.k _) ⟨rfl,by unfold I64;omega⟩,h.2⟩
theorem i64_0:I64 0:=by unfold I64;omega
abbrev pT{b:Bool}(h:b=true):Pf:=⟨b=true,h⟩
abbrev pF{b:Bool}(h:b=false):Pf:=⟨b=false,h⟩
abbrev pP{p:Prop}(h:p):Pf:=⟨p,h⟩
theorem gt_T{a b:Int}(h:b<a):decide (a>b)=true:=by simpa using h
theorem gt_F{a b:Int}(h:¬b<a):decide (a>b)=false:=by simpa using h
theorem ne_T{a b:Int}(h:a≠b):(a != b)=true:=by simpa using h
theorem ne_F{a b:Int}(h:¬a≠b):(a != b)=false:=by simpa using h
theorem bq_T{a b:Int}(h:a=b):(a==b)=true:=by simpa using h
theorem bq_F{a b:Int}(h:¬a=b):(a==b)=false:=by simpa using h
theorem co_b{x:Int}(h:Co x):x.natAbs<=c26/\I64 x:=by unfold Co at h;unfold c26 I64;omega
theorem edV_rep{V W:World}{r:Nat->Nat}{k:Nat}{e:Ed}(h:e.ok=true):RepV V W r k (edV e 3 c26) (.agg #[.int .i64 e.k,.int .i64 e.ax,.int .i64 e.ay,.int .i64 e.bx,.int .i64 e.by',.int .i64 e.cx,.int .i64 e.cy]):=by
 obtain⟨⟨h1,h2⟩,⟨h3,h4⟩,h5,h6⟩:=ok_right h
 have hk:=kind_of h
 exact rv_t.2 ⟨_,rl_i.2 ⟨⟨by omega,by unfold I64;omega⟩,_,rfl,rl_i.2 ⟨co_b h1,_,rfl,rl_i.2 ⟨co_b h2,_,rfl,rl_i.2 ⟨co_b h3,_,rfl,rl_i.2 ⟨co_b h4,_,rfl,rl_i.2 ⟨co_b h5,_,rfl,rl_i.2 ⟨co_b h6,_,rfl,rfl⟩⟩⟩⟩⟩⟩⟩,rfl⟩
theorem famk_b{e:Ed}(h:e.ok=true):(fam e.k).k.natAbs<=3/\I64 (fam e.k).k:=by
 rcases kind_of h with h|h|h<;>rw[h]<;>exact⟨by decide,by unfold I64;decide⟩
theorem pt_low{V W:World}{r:Nat->Nat}{k:Nat}{x y:Int}{A B C:Nat}(h1:A<=C)(h2:B<=C):∀v,RepV V W r k ⟨true,[.i x A,.i y B]⟩ v->RepV V W r k (ptV x y C) v:=by
 intro v h
 simp only[rv_t,rl_i,rl_nil] at h
 obtain⟨_,⟨⟨a1,a2⟩,_,rfl,⟨b1,b2⟩,_,rfl,rfl⟩,rfl⟩:=h
 exact rv_t.2 ⟨_,rl_i.2 ⟨⟨Nat.le_trans a1 h1,a2⟩,_,rfl,rl_i.2 ⟨⟨Nat.le_trans b1 h2,b2⟩,_,rfl,rfl⟩⟩,rfl⟩
theorem pt_lim{V W:World}{r:Nat->Nat}{k:Nat}{x y:Int}{A B:Nat}:∀v,RepV V W r k ⟨true,[.i x A,.i y B]⟩ v->RepV V W r k (ptV x y lim) v:=by
 intro v h
 simp only[rv_t,rl_i,rl_nil] at h
 obtain⟨_,⟨⟨a1,a2⟩,_,rfl,⟨b1,b2⟩,_,rfl,rfl⟩,rfl⟩:=h
 exact rv_t.2 ⟨_,rl_i.2 ⟨lim64 a2,_,rfl,rl_i.2 ⟨lim64 b2,_,rfl,rfl⟩⟩,rfl⟩
theorem pt_co{V W:World}{r:Nat->Nat}{k:Nat}{x y:Int}{A B:Nat}(h:Co x/\Co y):∀v,RepV V W r k ⟨true,[.i x A,.i y B]⟩ v->RepV V W r k (ptV x y c26) v:=by
 intro v hv
 simp only[rv_t,rl_i,rl_nil] at hv
 obtain⟨_,⟨⟨a1,a2⟩,_,rfl,⟨b1,b2⟩,_,rfl,rfl⟩,rfl⟩:=hv
 exact rv_t.2 ⟨_,rl_i.2 ⟨co_b h.1,_,rfl,rl_i.2 ⟨co_b h.2,_,rfl,rfl⟩⟩,rfl⟩
theorem checkZ_64(e:Ed):(checkZ e).natAbs<=11/\I64 (checkZ e):=by
 unfold checkZ I64
 (repeat' split)<;>decide
theorem Fok.pre{f:FuncId}{args args':List V1}{res:AV}(h:Fok Tryz.prog f args' res)(hr:∀W vals,RepVs W W (fun _=>0) 0 args vals->RepVs W W (fun _=>0) 0 args' vals):Fok Tryz.prog f args res :=
 fun W vals hv=>h W vals (hr W vals hv)
theorem rvs_1{V W:World}{r:Nat->Nat}{k:Nat}{a b:V1}{l m:List V1}(h:∀x,RepV V W r k a x->RepV V W r k b x)(g:∀xs,RepVs V W r k l xs->RepVs V W r k m xs):∀xs,RepVs V W r k (a::l) xs->RepVs V W r k (b::m) xs :=
 fun _ ⟨x,ys,e,h1,h2⟩=>⟨x,ys,e,h x h1,g ys h2⟩
theorem rvs_0{V W:World}{r:Nat->Nat}{k:Nat}:∀xs,RepVs V W r k [] xs->RepVs V W r k [] xs:=fun _ h=>h
theorem ed_bd{V W:World}{r:Nat->Nat}{k:Nat}{l:List It}{e:Ed}{K B:Nat}(he:toEd l=some e)(h1:I64 e.k->e.k.natAbs<=K)(h2:∀z ∈ [e.ax,e.ay,e.bx,e.by',e.cx,e.cy],I64 z->z.natAbs<=B):∀v,RepV V W r k ⟨true,l⟩ v->RepV V W r k (edV e K B) v:=fun v hr=>by
 unfold toEd at he
 split at he<;>cases he
 simp only[rv_t,rl_i,rl_nil] at hr
 obtain⟨_,⟨⟨_,i0⟩,_,rfl,⟨_,i1⟩,_,rfl,⟨_,i2⟩,_,rfl,⟨_,i3⟩,_,rfl,⟨_,i4⟩,_,rfl,⟨_,i5⟩,_,rfl,⟨_,i6⟩,_,rfl,rfl⟩,rfl⟩:=hr
 exact rv_t.2 ⟨_,rl_i.2 ⟨⟨h1 i0,i0⟩,_,rfl,rl_i.2 ⟨⟨h2 _ (by simp) i1,i1⟩,_,rfl,rl_i.2 ⟨⟨h2 _ (by simp) i2,i2⟩,_,rfl,rl_i.2 ⟨⟨h2 _ (by simp) i3,i3⟩,_,rfl,rl_i.2 ⟨⟨h2 _ (by simp) i4,i4⟩,_,rfl,rl_i.2 ⟨⟨h2 _ (by simp) i5,i5⟩,_,rfl,rl_i.2 ⟨⟨h2 _ (by simp) i6,i6⟩,_,rfl,rfl⟩⟩⟩⟩⟩⟩⟩,rfl⟩
theorem ed_lim{V W:World}{r:Nat->Nat}{k:Nat}{l:List It}{e:Ed}(he:toEd l=some e):∀v,RepV V W r k ⟨true,l⟩ v->RepV V W r k (edV e lim lim) v :=
 ed_bd he (fun h=>(lim64 h).1) (fun z _ h=>(lim64 h).1)
theorem ed_rt{V W:World}{r:Nat->Nat}{k:Nat}{l:List It}{e:Ed}(he:toEd l=some e)(h:e.right=true):∀v,RepV V W r k ⟨true,l⟩ v->RepV V W r k (edV e lim c26) v:=by
 simp only[Ed.right,Bool.and_eq_true,coordB_iff,Co] at h
 refine ed_bd he (fun h=>(lim64 h).1) (fun z hz _=>?_)
 unfold c26
 simp only[List.mem_cons,List.not_mem_nil,or_false] at hz
 rcases hz with rfl|rfl|rfl|rfl|rfl|rfl<;>omega
theorem ed_ok{V W:World}{r:Nat->Nat}{k:Nat}{l:List It}{e:Ed}(he:toEd l=some e)(h:e.ok=true):∀v,RepV V W r k ⟨true,l⟩ v->RepV V W r k (edV e 3 c26) v:=by
 have hk:=kind_of h
 have hr:e.right=true:=by simp only[Ed.ok,Bool.and_eq_true] at h;exact h.1
 simp only[Ed.right,Bool.and_eq_true,coordB_iff,Co] at hr
 refine ed_bd he (fun _=>by omega) (fun z hz _=>?_)
 unfold c26
 simp only[List.mem_cons,List.not_mem_nil,or_false] at hz
 rcases hz with rfl|rfl|rfl|rfl|rfl|rfl<;>omega
theorem toEd_V(e:Ed)(K B:Nat):toEd (edV e K B).l=some e:=rfl
def famV(k:Int):V1:=⟨true,[.v (fam k).c,.v (fam k).o,.v (fam k).r,.i (fam k).k lim]⟩
def KO:List Con:=[cVRight,cTurns]
theorem of_1(e:Ed)(hk:e.k=1):Fok Tryz.prog 103 [edV e lim lim] (.tup [famV e.k,blV e.ok]):=by
 have k1:(e.k==1)=true:=by simp[hk]
 rw[show famV e.k=famV 1 by rw[hk]]
 cases hA:coordB e.ax e.ay with
 | false =>
  rw[show e.ok=false by simp[Ed.ok,Ed.right,hA]]
  exact fok KO [true,false] [pT k1,pF hA] (by kernel_rfl)
 | true =>
  cases hB:coordB e.bx e.by' with
  | false =>
   rw[show e.ok=false by simp[Ed.ok,Ed.right,hB]]
   exact fok KO [true,true,false] [pT k1,pT hA,pF hB] (by kernel_rfl)
  | true =>
   cases hC:coordB e.cx e.cy with
   | false =>
    rw[show e.ok=false by simp[Ed.ok,Ed.right,hC]]
    exact fok KO [true,true,true,false] [pT k1,pT hA,pT hB,pF hC] (by kernel_rfl)
   | true =>
    rw[show e.ok=(e.cx==0&&e.cy==0) by simp[Ed.ok,Ed.right,Ed.lone,hA,hB,hC,hk]]
    exact fok KO [true,true,true,true] [pT k1,pT hA,pT hB,pT hC] (by kernel_rfl)
theorem of_2(e:Ed)(hk:e.k=2):Fok Tryz.prog 103 [edV e lim lim] (.tup [famV e.k,blV e.ok]):=by
 have k1:(e.k==1)=false:=by simp[hk]
 have k2:(e.k==2)=true:=by simp[hk]
 rw[show famV e.k=famV 2 by rw[hk]]
 cases hA:coordB e.ax e.ay with
 | false =>
  rw[show e.ok=false by simp[Ed.ok,Ed.right,hA]]
  exact fok KO [false,true,false] [pF k1,pT k2,pF hA] (by kernel_rfl)
 | true =>
  cases hB:coordB e.bx e.by' with
  | false =>
   rw[show e.ok=false by simp[Ed.ok,Ed.right,hB]]
   exact fok KO [false,true,true,false] [pF k1,pT k2,pT hA,pF hB] (by kernel_rfl)
  | true =>
   cases hC:coordB e.cx e.cy with
   | false =>
    rw[show e.ok=false by simp[Ed.ok,Ed.right,hC]]
    exact fok KO [false,true,true,true,false] [pF k1,pT k2,pT hA,pT hB,pF hC] (by kernel_rfl)
   | true =>
    refine Fok.pre ?_ fun W=>rvs_1 (ed_rt (toEd_V e lim lim) (by simp[Ed.right,hA,hB,hC])) rvs_0
    have E:e.ok=((!((e.ax-e.cx==0)==(e.ay-e.cy==0)))&&(e.bx-e.cx==0-(e.ay-e.cy)+0&&e.by'-e.cy==e.ax-e.cx+0)):=by
     rw[show 0-(e.ay-e.cy)+0=(rot 1 (e.ax-e.cx,e.ay-e.cy)).1 by simp[rot],show e.ax-e.cx+0=(rot 1 (e.ax-e.cx,e.ay-e.cy)).2 by simp[rot]]
     simp[Ed.ok,Ed.right,Ed.quarter,quarterB,hA,hB,hC,hk,bne]
    cases hq:(!((e.ax-e.cx==0)==(e.ay-e.cy==0))) with
    | false =>
     rw[E,hq,Bool.false_and]
     exact fok KO [false,true,true,true,true,false] [pF k1,pT k2,pT hA,pT hB,pT hC,pF hq] (by kernel_rfl)
    | true =>
     rw[E,hq,Bool.true_and]
     exact fok KO [false,true,true,true,true,true] [pF k1,pT k2,pT hA,pT hB,pT hC,pT hq] (by kernel_rfl)
theorem of_3(e:Ed)(hk:e.k=3):Fok Tryz.prog 103 [edV e lim lim] (.tup [famV e.k,blV e.ok]):=by
 have k1:(e.k==1)=false:=by simp[hk]
 have k2:(e.k==2)=false:=by simp[hk]
 have k3:(e.k==3)=true:=by simp[hk]
 rw[show famV e.k=famV 3 by rw[hk]]
 cases hA:coordB e.ax e.ay with
 | false =>
  rw[show e.ok=false by simp[Ed.ok,Ed.right,hA]]
  exact fok KO [false,false,true,false] [pF k1,pF k2,pT k3,pF hA] (by kernel_rfl)
 | true =>
  cases hB:coordB e.bx e.by' with
  | false =>
   rw[show e.ok=false by simp[Ed.ok,Ed.right,hB]]
   exact fok KO [false,false,true,true,false] [pF k1,pF k2,pT k3,pT hA,pF hB] (by kernel_rfl)
  | true =>
   cases hC:coordB e.cx e.cy with
   | false =>
    rw[show e.ok=false by simp[Ed.ok,Ed.right,hC]]
    exact fok KO [false,false,true,true,true,false] [pF k1,pF k2,pT k3,pT hA,pT hB,pF hC] (by kernel_rfl)
   | true =>
    refine Fok.pre ?_ fun W=>rvs_1 (ed_rt (toEd_V e lim lim) (by simp[Ed.right,hA,hB,hC])) rvs_0
    have E:e.ok=((!((e.ax-e.cx==0)==(e.ay-e.cy==0)))&&(e.bx-e.cx==0-(0-(e.ay-e.cy))+0&&e.by'-e.cy==0-(e.ax-e.cx)+0)):=by
     rw[show 0-(0-(e.ay-e.cy))+0=(rot 3 (e.ax-e.cx,e.ay-e.cy)).1 by simp[rot],show 0-(e.ax-e.cx)+0=(rot 3 (e.ax-e.cx,e.ay-e.cy)).2 by simp[rot]]
     simp[Ed.ok,Ed.right,Ed.quarter,quarterB,hA,hB,hC,hk,bne]
    cases hq:(!((e.ax-e.cx==0)==(e.ay-e.cy==0))) with
    | false =>
     rw[E,hq,Bool.false_and]
     exact fok KO [false,false,true,true,true,true,false] [pF k1,pF k2,pT k3,pT hA,pT hB,pT hC,pF hq] (by kernel_rfl)
    | true =>
     rw[E,hq,Bool.true_and]
     exact fok KO [false,false,true,true,true,true,true] [pF k1,pF k2,pT k3,pT hA,pT hB,pT hC,pT hq] (by kernel_rfl)
theorem of_0(e:Ed)(h1:¬e.k=1)(h2:¬e.k=2)(h3:¬e.k=3):Fok Tryz.prog 103 [edV e lim lim] (.tup [famV e.k,blV e.ok]):=by
 have k1:(e.k==1)=false:=by simpa using h1
 have k2:(e.k==2)=false:=by simpa using h2
 have k3:(e.k==3)=false:=by simpa using h3
 rw[show e.ok=false by simp[Ed.ok,h1,h2,h3]]
 unfold famV
 rw[kindB_fam (k:=e.k) (by simp[kindB,h1,h2,h3])]
 exact fok KO [false,false,false] [pF k1,pF k2,pF k3] (by kernel_rfl)
def cOfE:Con where
 f:=103
 g:=fun | [⟨true,l⟩]=>(toEd l).map fun e=>(.tup [famV e.k,blV e.ok],[])|_=>none
 ok:=by
  intro args res ps h hp
  split at h<;>try cases h
  rename_i l
  cases he:toEd l with
  | none=>simp[he] at h
  | some e =>
   simp only[he,Option.map_some,Option.some.injEq,Prod.mk.injEq] at h
   obtain⟨rfl,rfl⟩:=h
   refine Fok.pre ?_ fun W=>rvs_1 (ed_lim he) rvs_0
   by_cases h1:e.k=1
   ·exact of_1 e h1
   by_cases h2:e.k=2
   ·exact of_2 e h2
   by_cases h3:e.k=3
   ·exact of_3 e h3
   ·exact of_0 e h1 h2 h3
theorem rad_b{e:Ed}(h:e.ok=true):(radZ e).natAbs<=134217728/\I64 (radZ e):=by
 have h1:=rad_le h
 by_cases hk:e.k=1
 ·rw[radZ_line hk];exact⟨by decide,i64_0⟩
 ·have := rad_pos h hk
  exact⟨by omega,by unfold I64;omega⟩
theorem chk_F{e:Ed}(h:e.ok=true):(checkZ e != 0)=false:=by rw[checkZ_z h];rfl
theorem chk_T{e:Ed}(h:e.ok=false):(checkZ e != 0)=true:=by have:=checkZ_nz h;simpa using this
theorem ge_T{a b:Int}(h:b<=a):decide (a >= b)=true:=by simpa using h
theorem ge_F{a b:Int}(h:¬b<=a):decide (a >= b)=false:=by simpa using h
theorem not_T{b:Bool}(h:b=false):(!b)=true:=by rw[h];rfl
theorem not_F{b:Bool}(h:b=true):(!b)=false:=by rw[h];rfl
theorem check_ok(e:Ed):Fok Tryz.prog 92 [edV e lim lim] (.one (inV (checkZ e) lim)):=by
 cases ho:e.ok with
 | true =>
  rw[checkZ_z ho]
  exact fok [cOfE] [true] [pT ho] (by kernel_rfl)
 | false =>
  by_cases h1:1<=e.k
  rotate_left
  ·rw [checkZ_11a ho h1]
   exact fok [cOfE] [false,false] [pF ho,pF (ge_F h1)] (by kernel_rfl)
  by_cases h3:e.k<=3
  rotate_left
  ·rw [checkZ_11b ho h3]
   exact fok [cOfE] [false,true,false] [pF ho,pT (ge_T h1),pF (decide_eq_false h3)] (by kernel_rfl)
  have d3:=decide_eq_true h3
  cases hA:coordB e.ax e.ay with
  | false =>
   rw[checkZ_10 ho h1 h3 (.inl hA)]
   exact fok [cOfE,cVRight] [false,true,true,false] [pF ho,pT (ge_T h1),pT d3,pF hA] (by kernel_rfl)
  | true =>
   cases hB:coordB e.bx e.by' with
   | false =>
    rw[checkZ_10 ho h1 h3 (.inr (.inl hB))]
    exact fok [cOfE,cVRight] [false,true,true,true,false] [pF ho,pT (ge_T h1),pT d3,pT hA,pF hB] (by kernel_rfl)
   | true =>
    cases hC:coordB e.cx e.cy with
    | false =>
     rw[checkZ_10 ho h1 h3 (.inr (.inr hC))]
     exact fok [cOfE,cVRight] [false,true,true,true,true,true] [pF ho,pT (ge_T h1),pT d3,pT hA,pT hB,pT (not_T hC)] (by kernel_rfl)
    | true =>
     rw[checkZ_11c ho hA hB hC]
     exact fok [cOfE,cVRight] [false,true,true,true,true,false] [pF ho,pT (ge_T h1),pT d3,pT hA,pT hB,pF (not_F hC)] (by kernel_rfl)
theorem Fok.bd{f:FuncId}{args:List V1}{z:Int}{B:Nat}(h:Fok Tryz.prog f args (.one (inV z lim)))(hB:z.natAbs<=B):Fok Tryz.prog f args (.one (inV z B)) :=
 h.mono fun W x hx=>rv_i.2 ⟨⟨hB,(rv_i.1 hx).1.2⟩,(rv_i.1 hx).2⟩
def cChk:Con where
 f:=92
 g:=fun | [⟨true,l⟩]=>(toEd l).map fun e=>(.one (inV (checkZ e) 11),[])|_=>none
 ok:=by
  intro args res ps h _
  split at h<;>try cases h
  rename_i l
  cases he:toEd l with
  | none=>simp[he] at h
  | some e =>
   simp only[he,Option.map_some,Option.some.injEq,Prod.mk.injEq] at h
   obtain⟨rfl,rfl⟩:=h
   exact ((check_ok e).bd (checkZ_64 e).1).pre fun W=>rvs_1 (ed_lim he) rvs_0
theorem radZ_arc{e:Ed}(h:e.ok=true)(hk:(e.k==1)=false):radZ e=max (max (e.ax-e.cx) (0-(e.ax-e.cx))) (max (e.ay-e.cy) (0-(e.ay-e.cy))):=by
 unfold radZ
 rw[h,hk,Int.zero_sub,Int.zero_sub]
 rfl
theorem radius_ok(e:Ed)(ho:e.ok=true):Fok Tryz.prog 114 [edV e 3 c26] (.one (inV (radZ e) lim)):=by
 cases hk:(e.k==1) with
 | true =>
  rw[radZ_line (by simpa using hk)]
  exact fok [cOfE] [false,true] [pF (not_F ho),pT hk] (by kernel_rfl)
 | false =>
  rw[radZ_arc ho hk]
  exact fok [cOfE] [false,false] [pF (not_F ho),pF hk] (by kernel_rfl)
def cRad:Con where
 f:=114
 g:=fun | [⟨true,l⟩]=>(toEd l).map fun e=>(.one (inV (radZ e) 134217728),[e.ok=true])|_=>none
 ok:=by
  intro args res ps h hp
  split at h<;>try cases h
  rename_i l
  cases he:toEd l with
  | none=>simp[he] at h
  | some e =>
   simp only[he,Option.map_some,Option.some.injEq,Prod.mk.injEq] at h
   obtain⟨rfl,rfl⟩:=h
   exact ((radius_ok e hp.1).bd (rad_b hp.1).1).pre fun W=>rvs_1 (ed_ok he hp.1) rvs_0
theorem reverse_ok(e:Ed):Fok Tryz.prog 201 [edV e 3 c26] (.one (edV (revE e) lim lim)):=fok [cOfE] [] [] (by kernel_rfl)
def cRev:Con where
 f:=201
 g:=fun | [⟨true,l⟩]=>(toEd l).map fun e=>(.one (edV (revE e) 3 c26),[e.ok=true])|_=>none
 ok:=by
  intro args res ps h hp
  split at h<;>try cases h
  rename_i l
  cases he:toEd l with
  | none=>simp[he] at h
  | some e =>
   simp only[he,Option.map_some,Option.some.injEq,Prod.mk.injEq] at h
   obtain⟨rfl,rfl⟩:=h
   refine ((reverse_ok e).mono fun W x hx=>?_).pre fun W=>rvs_1 (ed_ok he hp.1) rvs_0
   obtain⟨⟨h1,h2⟩,⟨h3,h4⟩,h5,h6⟩:=ok_right hp.1
   refine ed_bd (toEd_V (revE e) lim lim) (fun _=>(famk_b hp.1).1) (fun z hz _=>?_) x hx
   have:=(co_b h1).1;have:=(co_b h2).1;have:=(co_b h3).1;have:=(co_b h4).1;have:=(co_b h5).1;have:=(co_b h6).1
   simp only[revE,List.mem_cons,List.not_mem_nil,or_false] at hz
   rcases hz with rfl|rfl|rfl|rfl|rfl|rfl<;>assumption
end
end Go.Proofs.YtceemiodpccbhaaGreat

set_option maxRecDepth 100000
namespace Go.Proofs.YtceemiodpccbhaaGreat.fin
open Go.ChangeShapes Go.WideShapes Go.ChangeAt Go.RowKit Go.Joins
set_option linter.unusedVariables false
def In64(z:Int):Prop := -9223372036854775808<=z/\z<=9223372036854775807
theorem list_cons{α:Type}{L:List α}{n:Nat}(h:L.length=n+1):∃x M,L=x::M/\M.length=n:=by
 cases L with
 | nil=>simp at h
 | cons x M=>exact⟨x,M,rfl,by simpa using h⟩
theorem own:ownKnob Tryz.prog.godebug=none:=by kernel_rfl
theorem laidOut:laidOutB Tryz.prog=true:=by kernel_rfl
def IsRow(k:IntKind)(w:World)(a:Option Addr)(len cap:Nat)(zs:List Int):Prop :=
 (a=none/\len=0/\cap=0/\zs=[]) \/
 ∃x,a=some x/\len<=cap/\cap<=maxLen/\zs.length=cap/\(∀i,i<zs.length->w.cell? (x.add i)=some (.int k (zs.getD i 0)))/\∀n∈zs,(Lit.int k n).wf=true
theorem IsRow.ints{w:World}{a:Option Addr}{len cap:Nat}{zs:List Int}(h:IsRow .i64 w a len cap zs):Ints w a len (zs.take len)/\len<=cap/\cap<=9223372036854775807:=by
 rcases h with⟨rfl,rfl,rfl,rfl⟩|⟨x,rfl,hl,hm,hz,hc,_⟩
 ·exact⟨⟨rfl,by omega,fun h=>absurd h (by omega)⟩,by omega,by omega⟩
 ·unfold maxLen at hm
  refine⟨⟨by rw[List.length_take,hz];omega,by omega,fun h0=>?_⟩,hl,by omega⟩
  obtain⟨b,o,rfl,hd⟩:=ints_at hc (by omega)
  refine⟨b,o,rfl,?_,fun i hi=>?_⟩
  ·exact World.block_lt_of_cell? w _ (hd 0 (by omega))
  ·rw [hd i (by omega), List.getElem?_take_of_lt hi]
   rfl
theorem int_of{W:World}{base:Nat}{v:Value}(h:Cell.okWide Tryz.prog W .any base 3 v):∃z,v=.int .i64 z/\In64 z:=by
 have hu:=Tryz.underlying3
 unfold Cell.okWide at h
 rw[hu] at h
 cases v with
 | int k z =>
  simp only[Cell.ok,hu,IntKind.has] at h
  obtain⟨rfl,h1,h2⟩:=h
  simp[IntKind.min,IntKind.max,IntKind.signed,IntKind.bits] at h1 h2
  exact⟨z,rfl,h1,h2⟩
 | _=>simp[Cell.ok,hu] at h
theorem ints_in{H:Type}{enc:TypeId×Value->H}{W:World}{base:Nat}{v:Value}{d:DataW H}{p:List MemPlace}(hv:Value.okWide Tryz.prog W .any base 25 v)(h:DataW.Trod enc Tryz.prog W 0 (fun _=>true) true 25 v d p):∃a len cap zs,v=.slice a len cap/\IsRow .i64 W a len cap zs:=by
 obtain⟨a2,len2,cap2,rfl⟩:=okWide_slice Tryz.underlying25 hv
 obtain⟨fuel,hf⟩:=h
 rcases open_ints Tryz.underlying25 Tryz.underlying3 (by kernel_rfl) hf with⟨hcs,_⟩|⟨x,l,c,zs,hcs,_,hl,hm,hz,_,hcell,hwz⟩
 ·simp [Value.cells] at hcs
  obtain⟨rfl,rfl,rfl⟩:=hcs
  exact⟨_,_,_,[],rfl,.inl ⟨rfl,rfl,rfl,rfl⟩⟩
 ·simp [Value.cells] at hcs
  obtain⟨rfl,rfl,rfl⟩:=hcs
  exact⟨_,_,_,zs,rfl,.inr ⟨_,rfl,hl,hm,by simpa using hz,hcell,hwz⟩⟩
theorem rv_ds{w V:World}{r:Nat->Nat}{k:Nat}{a:Option Addr}{len cap:Nat}{zs:List Int}(h:IsRow .i64 w a len cap zs):RepV w V r k ⟨false,[.ds (zs.take len)]⟩ (.slice a len cap):=by
 obtain⟨h1,h2,h3⟩:=IsRow.ints h
 exact RepI.val (i:=.ds _) ⟨_,rfl,a,len,cap,rfl,h1,h2,h3⟩
end Go.Proofs.YtceemiodpccbhaaGreat.fin
namespace Go.Proofs.YtceemiodpccbhaaGreat
open Go.RowKit
theorem guess_dec{U V P u0 u2 high v0 v1 v2 q r:Nat}(hu0:u0<P)(hU:U=u0+P*(u2+4294967296*high))(hV:V=v0+P*(v2+4294967296*v1))(hlt:U<4294967296*V)
  (hq:q*v1+r=high) (hle:U/V<=q) (h:4294967296<=q\/r*4294967296+u2<q*v2):1<=q/\U/V<=q-1:=by
 have hV0:0<V:=by
  rcases Nat.eq_zero_or_pos V with e|e
  ·rw[e] at hlt;omega
  ·exact e
 rcases h with h|h
 ·have : U / V < 4294967296 := (Nat.div_lt_iff_lt_mul hV0).2 hlt
  omega
 ·have h1:1<=q:=by
   rcases Nat.eq_zero_or_pos q with e|e
   ·subst e;simp at h
   ·exact e
  refine⟨h1,?_⟩
  have:¬q<=U/V:=by
   intro hc
   rw[Nat.le_div_iff_mul_le hV0] at hc
   have e1:q*V=q*v0+P*(q*v2)+P*(4294967296*(q*v1)):=by rw[hV];grind
   have e2:U=u0+P*u2+P*(4294967296*(q*v1))+P*(r*4294967296):=by rw[hU,<- hq];grind
   have h2:=Nat.mul_le_mul_left P (Nat.succ_le_of_lt h)
   have e3:P*Nat.succ (r*4294967296+u2)=P*(r*4294967296)+P*u2+P:=by rw[Nat.succ_eq_add_one];grind
   rw[e3] at h2
   rw[e1,e2] at hc
   generalize P*(4294967296*(q*v1))=x1 at *
   generalize P*(q*v2)=x2 at *
   generalize P*(r*4294967296)=x3 at *
   generalize P*u2=x4 at *
   generalize q*v0=x5 at *
   omega
  omega
theorem guess_start{U V P w high v1 vr:Nat}(hw:w<P)(hU:U=w+P*high)(hV:V=vr+P*v1)(hv1:0<v1):U/V<=high/v1:=by
 have hP:0<P:=by omega
 have hV0:0<V:=by
  have:=Nat.mul_pos hP hv1
  omega
 rw[Nat.le_div_iff_mul_le hv1]
 have h:=Nat.div_mul_le_self U V
 generalize U/V=q at *
 have e1:q*V=q*vr+P*(q*v1):=by rw[hV];grind
 have:P*(q*v1)<P*(high+1):=by
  have e2:P*(high+1)=P*high+P:=by grind
  rw[e1] at h
  rw[e2]
  generalize P*(q*v1)=x1 at *
  generalize P*high=x2 at *
  generalize q*vr=x3 at *
  omega
 have:=Nat.lt_of_mul_lt_mul_left this
 omega
theorem guess_end{U V P u0 u1 u2 ut v0 v1 v2 q r:Nat}(hv0:v0<P)(hv1:0<v1)(hv2:v2<4294967296)(hu0:u0<P)(hu1:u1<4294967296)(hU:U=u0+P*(u2+4294967296*(u1+4294967296*ut)))(hV:V=v0+P*(v2+4294967296*v1))(hlt:U<4294967296*V)
  (hq:q*v1+r=u1+4294967296*ut) (h:4294967296<=r\/(q<4294967296/\q*v2<=r*4294967296+u2)):q<4294967296/\q<=U/V+1:=by
 have hP:0<P:=by omega
 have hV0:0<V:=by
  rcases Nat.eq_zero_or_pos V with e|e
  ·rw[e] at hlt;omega
  ·exact e
 have hut:ut<=v1:=by
  have:¬v1+1<=ut:=by
   intro hc
   have h1:=Nat.mul_le_mul_left (P*(4294967296*4294967296)) hc
   have e1:P*(4294967296*4294967296)*(v1+1)=4294967296*(P*(4294967296*v1))+4294967296*(P*4294967296):=by grind
   have e2:U=u0+P*u2+P*(4294967296*u1)+P*(4294967296*4294967296)*ut:=by rw[hU];grind
   have e3:4294967296*V=4294967296*v0+4294967296*(P*v2)+4294967296*(P*(4294967296*v1)):=by rw[hV];grind
   have h2:P*v2+P<=P*4294967296:=by
    have h9:P*(v2+1)<=P*4294967296:=Nat.mul_le_mul_left P hv2
    have e9:P*(v2+1)=P*v2+P:=by grind
    omega
   rw[e1] at h1
   rw[e3,e2] at hlt
   omega
  omega
 have hqb:q<4294967296:=by
  rcases h with h|h
  ·have:¬4294967296<=q:=by
    intro hc
    have h1:=Nat.mul_le_mul_right v1 hc
    have h2:=Nat.mul_le_mul_left 4294967296 hut
    omega
   omega
  ·exact h.1
 have h2:q*v2<=r*4294967296+u2:=by
  rcases h with h|h
  ·have h1 : q * v2 <= 4294967296 * 4294967296 := Nat.mul_le_mul (by omega) (by omega)
   omega
  ·exact h.2
 refine⟨hqb,?_⟩
 rcases Nat.eq_zero_or_pos q with e|e
 ·rw[e];exact Nat.zero_le _
 ·obtain ⟨p, rfl⟩ : ∃ p, q = p + 1 := ⟨q - 1, by omega⟩
  have:p<=U/V:=by
   rw[Nat.le_div_iff_mul_le hV0]
   have e1:(p+1)*V=(p+1)*v0+P*((p+1)*v2)+P*(4294967296*((p+1)*v1)):=by rw[hV];grind
   have e2:U=u0+P*u2+P*(4294967296*((p+1)*v1))+P*(r*4294967296):=by rw[hU,<- hq];grind
   have e3:(p+1)*V=p*V+V:=by grind
   have h3:=Nat.mul_le_mul_left P h2
   have e4:P*(r*4294967296+u2)=P*(r*4294967296)+P*u2:=by grind
   have h5:(p+1)*v0<=V:=by
    have h6:(p+1)*v0<=4294967296*P:=Nat.mul_le_mul (by omega) (by omega)
    have h7:P*(4294967296*1)<=P*(4294967296*v1):=Nat.mul_le_mul_left _ (Nat.mul_le_mul_left _ hv1)
    have e5:V=v0+P*v2+P*(4294967296*v1):=by rw[hV];grind
    have e6:P*(4294967296*1)=4294967296*P:=by grind
    rw[e5]
    omega
   rw[e4] at h3
   rw[e3] at e1
   omega
  omega
def RedInv(q:Nat)(u v:List Nat)(o:List Nat)(c b:Nat):Prop :=
 Dig o/\c<=q/\b<=1/\val (u.take o.length)+4294967296 ^ o.length*(c+b)=val o+q*val (v.take o.length)
theorem val_snocK(o:List Nat)(x:Nat):val (o++[x])=val o+4294967296 ^ o.length*x:=by rw[val_append];simp[val]
theorem val_take_K(d:List Nat)(k:Nat):val (d.take (k+1))=val (d.take k)+4294967296 ^ k*(d[k]?.getD 0):=by
 by_cases h:k<d.length
 ·rw[List.take_succ_eq_append_getElem h,val_append,List.length_take,Nat.min_eq_left (by omega),List.getElem?_eq_getElem h];simp[val]
 ·rw[List.take_of_length_le (by omega),List.take_of_length_le (by omega),List.getElem?_eq_none (by omega)];simp
theorem red_step{q:Nat}{u v o:List Nat}{c b x d:Nat}(hq:q<4294967296)(h:RedInv q u v o c b)(hx:u[o.length]?.getD 0=x)(hd:v[o.length]?.getD 0=d)(hdb:d<4294967296)(hxb:x<4294967296) :
  RedInv q u v (o++[(x+8589934592-(c+q*d)%4294967296-b)%4294967296]) ((c+q*d)/4294967296) (if x<(c+q*d)%4294967296+b then 1 else 0)/\c+q*d<18446744073709551616:=by
 obtain⟨h1,h2,h3,h4⟩:=h
 have hqd:q*d<=q*4294967295:=Nat.mul_le_mul_left _ (by omega)
 have hc:c+q*d<18446744073709551616:=by omega
 refine⟨⟨?_,by omega,by split<;>omega,?_⟩,hc⟩
 ·intro y hy
  rcases List.mem_append.1 hy with g|g
  ·exact h1 y g
  ·rw[List.mem_singleton] at g;subst g;exact Nat.mod_lt _ (by omega)
 ·rw [List.length_append, List.length_singleton, val_take_K, val_take_K, val_snocK, hx, hd, Nat.pow_succ]
  have e1:q*(val (v.take o.length)+4294967296 ^ o.length*d)=q*val (v.take o.length)+4294967296 ^ o.length*(q*d):=by grind
  rw[e1]
  generalize q*val (v.take o.length)=a1 at *
  generalize val (u.take o.length)=a2 at *
  generalize val o=a3 at *
  generalize 4294967296 ^ o.length=P at *
  generalize q*d=t at *
  have key:∀(b' y:Nat),x+4294967296*((c+t)/4294967296+b')+(c+b)=y+t+(c+b)+0+(c+b)->a2+P*x+P*4294967296*((c+t)/4294967296+b')=a3+P*y+(a1+P*t):=by
   intro b' y hy
   have e2:P*x+P*4294967296*((c+t)/4294967296+b')=P*(y+t+(c+b)):=by
    have:x+4294967296*((c+t)/4294967296+b')=y+t+(c+b):=by omega
    rw[<- this];grind
   have e3:P*(y+t+(c+b))=P*y+P*t+P*(c+b):=by grind
   rw[Nat.add_assoc,e2,e3]
   omega
  apply key
  split<;>omega
theorem val_pos_of{b:List Nat}{n x:Nat}(hl:b.length=n+1)(hx:b[n]?.getD 0=x):val b=val (b.take n)+4294967296 ^ n*x:=by
 have h:=val_take_K b n
 rw[hx,List.take_of_length_le (by omega)] at h
 exact h
theorem red_keep{q:Nat}{u v o:List Nat}{c b x:Nat}(h:RedInv q u v o c b)(ho:o.length=v.length)(hu:u.length=v.length+1)(hx:u[v.length]?.getD 0=x)(hle:c+b<=x) :
  val u=val (o++[x-c-b])+q*val v:=by
 obtain⟨_,_,_,h4⟩:=h
 rw[ho,List.take_of_length_le (Nat.le_refl v.length)] at h4
 rw[val_pos_of hu hx,val_snocK,ho]
 generalize 4294967296 ^ v.length=P at *
 obtain⟨t,rfl⟩:∃t,x=t+(c+b):=⟨x-(c+b),by omega⟩
 rw[show t+(c+b)-c-b=t by omega]
 have e:P*(t+(c+b))=P*t+P*(c+b):=by grind
 omega
theorem red_borrow{q:Nat}{u v o:List Nat}{c b x:Nat}(h:RedInv q u v o c b)(hq:q<4294967296)(ho:o.length=v.length)(hu:u.length=v.length+1)(hx:u[v.length]?.getD 0=x)(hlt:x<c+b) :
  val u+4294967296 ^ (v.length+1)=val (o++[x+4294967296-c-b])+q*val v:=by
 obtain⟨_,h2,h3,h4⟩:=h
 rw[ho,List.take_of_length_le (Nat.le_refl v.length)] at h4
 rw[val_pos_of hu hx,val_snocK,ho,Nat.pow_succ]
 generalize 4294967296 ^ v.length=P at *
 obtain⟨t,ht⟩:∃t,x+4294967296=t+(c+b):=⟨x+4294967296-(c+b),by omega⟩
 rw[show x+4294967296-c-b=t by omega]
 have e:P*(x+4294967296)=P*t+P*(c+b):=by rw[ht];grind
 have e2:P*(x+4294967296)=P*x+P*4294967296:=by grind
 omega
theorem quot_of{U V W q:Nat}(hV:0<V)(h:U=W+q*V)(hq:U/V<=q):q=U/V/\W=U%V:=by
 have h1:q<=U/V:=by rw[Nat.le_div_iff_mul_le hV];omega
 obtain rfl:q=U/V:=by omega
 refine⟨rfl,?_⟩
 have:=Nat.div_add_mod U V
 rw[Nat.mul_comm V] at this
 omega
theorem red_back{q:Nat}{u v o o2:List Nat}{y c2:Nat}(h:val u+4294967296 ^ (v.length+1)=val (o++[y])+q*val v)(ho:o.length=v.length)(ho2:o2.length=v.length)(hs:sumInv (o++[y]) v o2 c2)
  (hy:y<4294967296) (dd:Dig o) (du:Dig u) (hu:u.length=v.length+1) (hV:0<val v) (hq:q<=val u/val v+1):y+c2=4294967296/\q-1=val u/val v/\1<=q/\val o2=val u%val v:=by
 obtain⟨d2,hc2,hs2⟩:=hs
 have hlu:=val_lt du
 rw[hu] at hlu
 have hlo2:=val_lt d2
 have hlo:val (o++[y])<4294967296 ^ (v.length+1):=by
  have:=val_lt (dd.append (Dig.cons hy Dig.nil))
  rwa [List.length_append,List.length_singleton,ho] at this
 have hqV:val u<q*val v:=by omega
 have hq1:val u/val v<q:=(Nat.div_lt_iff_lt_mul hV).2 hqV
 obtain rfl:q=val u/val v+1:=by omega
 have hm:=Nat.div_add_mod (val u) (val v)
 rw[Nat.mul_comm] at hm
 have hmlt:=Nat.mod_lt (val u) hV
 rw[Nat.add_mul,Nat.one_mul] at h
 rw[ho2,List.take_of_length_le (Nat.le_refl v.length),<- ho,List.take_left,ho] at hs2
 rw[val_snocK,ho,Nat.pow_succ] at h
 rw[ho2] at hlo2
 have key:val o2+4294967296 ^ v.length*(c2+y)=val u%val v+4294967296 ^ v.length*4294967296:=by
  have e:4294967296 ^ v.length*(c2+y)=4294967296 ^ v.length*c2+4294967296 ^ v.length*y:=by grind
  omega
 have hvl:val u%val v<4294967296 ^ v.length*(c2+y+1):=by
  have e:4294967296 ^ v.length*(c2+y+1)=4294967296 ^ v.length*(c2+y)+4294967296 ^ v.length:=by grind
  rw[e]
  omega
 have hb:¬c2+y<4294967296:=by
  intro hc
  have h9:4294967296 ^ v.length*(c2+y+1)<=4294967296 ^ v.length*4294967296:=Nat.mul_le_mul_left _ hc
  have e:4294967296 ^ v.length*(c2+y+1)=4294967296 ^ v.length*(c2+y)+4294967296 ^ v.length:=by grind
  omega
 have hb2:y+c2=4294967296:=by omega
 refine⟨hb2,Nat.add_sub_cancel _ _,Nat.le_add_left _ _,?_⟩
 rw[show c2+y=4294967296 by omega] at key
 omega
def ShInv(s:Nat)(a o:List Nat)(c:Nat):Prop:=Dig o/\c<s/\val o+4294967296 ^ o.length*c=s*val (a.take o.length)
theorem sh_step{s e:Nat}(hse:s*e=4294967296){a o:List Nat}{c d:Nat}(h:ShInv s a o c)(hd:a[o.length]?.getD 0=d)(hdb:d<4294967296) :
  ShInv s a (o++[d%e*s+c]) (d/e)/\d%e*s+c<4294967296:=by
 obtain⟨h1,h2,h3⟩:=h
 have he:0<e:=by
  rcases Nat.eq_zero_or_pos e with g|g
  ·subst g;simp at hse
  ·exact g
 have hm:=Nat.mod_lt d he
 have hlt:d%e*s+c<4294967296:=by
  have h4:(d%e+1)*s<=e*s:=Nat.mul_le_mul_right _ hm
  rw[Nat.mul_comm e,hse,Nat.add_mul,Nat.one_mul] at h4
  omega
 refine⟨⟨h1.append (Dig.cons hlt Dig.nil),?_,?_⟩,hlt⟩
 ·rw[Nat.div_lt_iff_lt_mul he,hse];exact hdb
 ·rw [List.length_append, List.length_singleton, val_snocK, val_take_K, hd, Nat.pow_succ]
  have e1:s*(val (a.take o.length)+4294967296 ^ o.length*d)=s*val (a.take o.length)+4294967296 ^ o.length*(s*d):=by grind
  have e2:s*d=d%e*s+4294967296*(d/e):=by
   have:=Nat.div_add_mod d e
   rw[<- hse]
   conv=>lhs;rw[<- this]
   grind
  rw[e1,e2,<- h3]
  generalize 4294967296 ^ o.length=P
  grind
theorem sh_end{s:Nat}{a o:List Nat}{c:Nat}(h:ShInv s a o c)(hl:o.length=a.length):val (o++[c])=s*val a:=by
 obtain⟨_,_,h3⟩:=h
 rw[hl,List.take_of_length_le (Nat.le_refl a.length)] at h3
 rw[val_snocK,hl]
 exact h3
theorem shr_digit{s e:Nat}(hse:s*e=4294967296){u1 u0:Nat}(h0:u0<4294967296) :
  s*((u1*4294967296+u0)/s%4294967296)=u1%s*4294967296+s*(u0/s):=by
 have hs:0<s:=by
  rcases Nat.eq_zero_or_pos s with g|g
  ·subst g;simp at hse
  ·exact g
 have he:0<e:=by
  rcases Nat.eq_zero_or_pos e with g|g
  ·subst g;simp at hse
  ·exact g
 have e1:(u1*4294967296+u0)/s=u1*e+u0/s:=by
  rw[<- hse,show u1*(s*e)+u0=s*(u1*e)+u0 by grind,Nat.mul_add_div hs]
 have e2:u1*e=u1%s*e+4294967296*(u1/s):=by
  have:=Nat.div_add_mod u1 s
  rw[<- hse]
  conv=>lhs;rw[<- this]
  grind
 have h3:u0/s<e:=by rw[Nat.div_lt_iff_lt_mul hs,Nat.mul_comm,hse];exact h0
 have h4:(u1%s+1)*e<=s*e:=Nat.mul_le_mul_right _ (Nat.mod_lt u1 hs)
 rw[hse,Nat.add_mul,Nat.one_mul] at h4
 have e3:(u1*4294967296+u0)/s%4294967296=u1%s*e+u0/s:=by
  rw[e1,e2]
  rw[show u1%s*e+4294967296*(u1/s)+u0/s=(u1%s*e+u0/s)+4294967296*(u1/s) by omega,Nat.add_mul_mod_self_left,Nat.mod_eq_of_lt]
  generalize u0/s=g at *
  omega
 rw[e3,<- hse]
 grind
def ShrInv(s:Nat)(u o:List Nat):Prop:=Dig o/\s*val o+val u%s=val (u.take o.length)+4294967296 ^ o.length*(u[o.length]?.getD 0%s)
theorem shr_start{s e:Nat}(hse:s*e=4294967296)(u:List Nat)(h0:0<u.length):ShrInv s u []:=by
 refine⟨Dig.nil,?_⟩
 cases u with
 | nil=>simp at h0
 | cons x r =>
  simp only[val_nil,List.length_nil,List.take_zero,List.getElem?_cons_zero,Option.getD_some,val_cons]
  rw[<- hse,Nat.mul_assoc,Nat.add_mul_mod_self_left]
  simp
theorem shr_step{s e:Nat}(hse:s*e=4294967296){u o:List Nat}(h:ShrInv s u o){u0 u1:Nat}(h0:u[o.length]?.getD 0=u0)(h1:u[o.length+1]?.getD 0=u1)(hb:u0<4294967296) :
  ShrInv s u (o++[(u1*4294967296+u0)/s%4294967296]):=by
 obtain⟨d,h2⟩:=h
 refine⟨d.append (Dig.cons (Nat.mod_lt _ (by omega)) Dig.nil),?_⟩
 rw[List.length_append,List.length_singleton,val_snocK,val_take_K,h0,h1,Nat.pow_succ]
 rw[h0] at h2
 have k:=shr_digit hse (u1:=u1) hb
 generalize (u1*4294967296+u0)/s%4294967296=r at *
 have e1:s*(val o+4294967296 ^ o.length*r)=s*val o+4294967296 ^ o.length*(s*r):=by grind
 rw[e1,k]
 have e2:u0=s*(u0/s)+u0%s:=(Nat.div_add_mod u0 s).symm
 generalize 4294967296 ^ o.length=P at *
 generalize u0/s=g at *
 generalize u0%s=g2 at *
 rw[e2]
 grind
theorem shr_end{s:Nat}{u o:List Nat}(h:ShrInv s u o){n R:Nat}(hs:0<s)(hl:o.length=n)(hu:val u<4294967296 ^ n)(hd:Dig u)(hul:n<u.length)(hR:val u=s*R):val o=R:=by
 obtain⟨_,h2⟩:=h
 rw[hl] at h2
 have h3:=val_take_drop u n (by omega)
 have h4:val (u.drop n)=0:=by
  rcases Nat.eq_zero_or_pos (val (u.drop n)) with g|g
  ·exact g
  ·have := Nat.mul_le_mul_left (4294967296 ^ n) g
   omega
 have h5:u[n]?.getD 0=0:=by
  rw[List.drop_eq_getElem_cons hul,val_cons] at h4
  rw[List.getElem?_eq_getElem hul,Option.getD_some]
  omega
 rw[h5,Nat.zero_mod,Nat.mul_zero,Nat.add_zero] at h2
 rw[h4,Nat.mul_zero,Nat.add_zero] at h3
 rw[<- h3,hR,Nat.mul_mod_right,Nat.add_zero] at h2
 exact Nat.eq_of_mul_eq_mul_left hs h2
structure LongInv (A V k:Nat) (u qs:List Nat):Prop where
 du:Dig u
 dq:Dig qs
 eq:val u+4294967296 ^ k*(val qs*V)=A
 lt:val u<4294967296 ^ k*V
theorem long_part{A V k n:Nat}{pre part post qs:List Nat}(hl:pre.length=k)(hp:part.length=n+1)(hV:V<4294967296 ^ n)(h:LongInv A V (k+1) (pre++(part++post)) qs) :
  val post=0/\val part<4294967296*V:=by
 have h1:=h.lt
 have ek:(4294967296:Nat) ^ (k+1)=4294967296 ^ k*4294967296:=Nat.pow_succ _ _
 rw[val_append,val_append,hl,hp,ek] at h1
 have h2:val part+4294967296 ^ (n+1)*val post<4294967296*V:=by
  have:4294967296 ^ k*(val part+4294967296 ^ (n+1)*val post)<4294967296 ^ k*(4294967296*V):=by
   rw[<- Nat.mul_assoc];omega
  exact Nat.lt_of_mul_lt_mul_left this
 refine⟨?_,by omega⟩
 rcases Nat.eq_zero_or_pos (val post) with g|g
 ·exact g
 ·have h3 : 4294967296 ^ (n + 1) * 1 <= 4294967296 ^ (n + 1) * val post := Nat.mul_le_mul_left _ g
  rw[Nat.mul_one,Nat.pow_succ] at h3
  rw[Nat.pow_succ] at h2
  omega
theorem long_step{A V k n:Nat}{pre part post qs part':List Nat}(hl:pre.length=k)(hp:part.length=n+1)(hp':part'.length=n+1)(hV:V<4294967296 ^ n)(hV0:0<V)(h:LongInv A V (k+1) (pre++(part++post)) qs)
  (d':Dig part') (he:val part'=val part%V):LongInv A V k (pre++(part'++post)) (val part/V::qs):=by
 obtain⟨h1,h2⟩:=long_part hl hp hV h
 have dpre:Dig pre:=fun x hx=>h.du x (List.mem_append_left _ hx)
 have dpost:Dig post:=fun x hx=>h.du x (List.mem_append_right _ (List.mem_append_right _ hx))
 refine⟨dpre.append (d'.append dpost),Dig.cons ((Nat.div_lt_iff_lt_mul hV0).2 h2) h.dq,?_,?_⟩
 ·have h3 := h.eq
  rw[val_append,val_append,h1,hl,Nat.mul_zero,Nat.add_zero,Nat.pow_succ] at h3
  rw[val_append,val_append,h1,hl,Nat.mul_zero,Nat.add_zero,he,val_cons,<- h3]
  have h4:=Nat.div_add_mod (val part) V
  conv=>rhs;rw[<- h4]
  generalize val part%V=m
  generalize val part/V=g
  generalize 4294967296 ^ k=P
  grind
 ·rw [val_append, val_append, h1, hl, Nat.mul_zero, Nat.add_zero, he]
  have h3:=val_lt dpre
  rw[hl] at h3
  have h4:=Nat.mul_le_mul_left (4294967296 ^ k) (Nat.succ_le_of_lt (Nat.mod_lt (val part) hV0))
  have e:4294967296 ^ k*(val part%V).succ=4294967296 ^ k*(val part%V)+4294967296 ^ k:=by rw[Nat.succ_eq_add_one];grind
  omega
theorem long_end{A V:Nat}{u qs:List Nat}(hV0:0<V)(h:LongInv A V 0 u qs):val qs=A/V/\val u=A%V:=by
 have h1:=h.eq
 have h2:=h.lt
 rw[Nat.pow_zero,Nat.one_mul] at h1 h2
 refine quot_of hV0 h1.symm ?_
 rw[<- Nat.lt_succ_iff,Nat.div_lt_iff_lt_mul hV0,<- h1,Nat.succ_eq_add_one]
 have:(val qs+1)*V=val qs*V+V:=by grind
 omega
end Go.Proofs.YtceemiodpccbhaaGreat
