import Derived.Test.YtcfpcafnjgpfdaaGreatK13
import Derived.Test.YtcfpcafnjgpfdaaGreatRows
import Derived.ProofKit
import Derived.OpenShut
import Derived.ShutString
import Derived.ChangeOld
import Derived.Lib.SmallJoins
set_option linter.unusedVariables false
set_option linter.unusedSimpArgs false

namespace Go.Proofs.YtcfpcafnjgpfdaaGreat
open Go.RowKit

set_option maxRecDepth 100000
section
theorem lim64{z:Int}(h:I64 z):z.natAbs<=lim/\I64 z:=⟨by unfold I64 at h;unfold lim;omega,h⟩
def c26:Nat:=67108864
def edV(e:Ed)(K B:Nat):V1:=⟨true,[.i e.k K,.i e.ax B,.i e.ay B,.i e.bx B,.i e.by' B,.i e.cx B,.i e.cy B]⟩
def toEd:List It->Option Ed
 | [.i k _,.i ax _,.i ay _,.i bx _,.i by' _,.i cx _,.i cy _]=>some ⟨k,ax,ay,bx,by',cx,cy⟩
 | _=>none
theorem toEd_rep{l:List It}{e:Ed}{V W:World}{r:Nat->Nat}{k:Nat}{x:Value}(h:toEd l=some e)(hr:RepV V W r k ⟨true,l⟩ x) :
  x=.agg #[.int .i64 e.k,.int .i64 e.ax,.int .i64 e.ay,.int .i64 e.bx,.int .i64 e.by',.int .i64 e.cx,.int .i64 e.cy]:=by
 unfold toEd at h
 split at h<;>cases h
 simp only[rv_t,rl_i,rl_nil] at hr
 obtain⟨_,⟨_,_,rfl,_,_,rfl,_,_,rfl,_,_,rfl,_,_,rfl,_,_,rfl,_,_,rfl,rfl⟩,rfl⟩:=hr
 rfl
def cVRight:Con where
 f:=25
 g:=fun | [⟨true,[.i x _,.i y _]⟩]=>some (.one (blV (coordB x y)),[])|_=>none
 ok:=by
  intro args res ps h _
  split at h<;>cases h
  intro W vals hv
  simp only[rvs_cons,rvs_nil,rv_t,rl_i,rl_nil] at hv
  obtain⟨_,⟨_,⟨_,_,rfl,_,_,rfl,rfl⟩,rfl⟩,_,rfl,rfl⟩:=hv
  exact (vec_Right _ _ W).mono fun _ _ h=>gv_bl h
def cTurns:Con where
 f:=137
 g:=fun | [⟨true,[.i _ _,.i _ _,.i n _,.v (.bool _)]⟩]=>if 0<=n/\n<=3 then some (.one ⟨false,[.k n]⟩,[]) else none|_=>none
 ok:=by
  intro args res ps h hp
  split at h<;>try cases h
  split at h<;>cases h
  rename_i hn
  intro W vals hv
  simp only[rvs_cons,rvs_nil,rv_t,rl_i,rl_v,rl_nil] at hv
  obtain⟨_,⟨_,⟨_,_,rfl,_,_,rfl,_,_,rfl,_,_,rfl,rfl⟩,rfl⟩,_,rfl,rfl⟩:=hv
  exact (vec_turns _ _ _ _ W hn).mono fun _ _ h=>⟨_,h.1,RepI.val (i:=.k _) ⟨rfl,by unfold I64;omega⟩,h.2⟩
theorem i64_0:I64 0:=by unfold I64;omega
abbrev pT{b:Bool}(h:b=true):Pf:=⟨b=true,h⟩
abbrev pF{b:Bool}(h:b=false):Pf:=⟨b=false,h⟩
abbrev pP{p:Prop}(h:p):Pf:=⟨p,h⟩
theorem gt_T{a b:Int}(h:b<a):decide (a>b)=true:=by simpa using h
theorem gt_F{a b:Int}(h:¬b<a):decide (a>b)=false:=by simpa using h
theorem ne_T{a b:Int}(h:a≠b):(a != b)=true:=by simpa using h
theorem ne_F{a b:Int}(h:¬a≠b):(a != b)=false:=by simpa using h
theorem bq_T{a b:Int}(h:a=b):(a==b)=true:=by simpa using h
theorem bq_F{a b:Int}(h:¬a=b):(a==b)=false:=by simpa using h
theorem co_b{x:Int}(h:Co x):x.natAbs<=c26/\I64 x:=by unfold Co at h;unfold c26 I64;omega
theorem edV_rep{V W:World}{r:Nat->Nat}{k:Nat}{e:Ed}(h:e.ok=true):RepV V W r k (edV e 3 c26) (.agg #[.int .i64 e.k,.int .i64 e.ax,.int .i64 e.ay,.int .i64 e.bx,.int .i64 e.by',.int .i64 e.cx,.int .i64 e.cy]):=by
 obtain⟨⟨h1,h2⟩,⟨h3,h4⟩,h5,h6⟩:=ok_right h
 have hk:=kind_of h
 exact rv_t.2 ⟨_,rl_i.2 ⟨⟨by omega,by unfold I64;omega⟩,_,rfl,rl_i.2 ⟨co_b h1,_,rfl,rl_i.2 ⟨co_b h2,_,rfl,rl_i.2 ⟨co_b h3,_,rfl,rl_i.2 ⟨co_b h4,_,rfl,rl_i.2 ⟨co_b h5,_,rfl,rl_i.2 ⟨co_b h6,_,rfl,rfl⟩⟩⟩⟩⟩⟩⟩,rfl⟩
theorem famk_b{e:Ed}(h:e.ok=true):(fam e.k).k.natAbs<=3/\I64 (fam e.k).k:=by
 rcases kind_of h with h|h|h<;>rw[h]<;>exact⟨by decide,by unfold I64;decide⟩
theorem pt_low{V W:World}{r:Nat->Nat}{k:Nat}{x y:Int}{A B C:Nat}(h1:A<=C)(h2:B<=C):∀v,RepV V W r k ⟨true,[.i x A,.i y B]⟩ v->RepV V W r k (ptV x y C) v:=by
 intro v h
 simp only[rv_t,rl_i,rl_nil] at h
 obtain⟨_,⟨⟨a1,a2⟩,_,rfl,⟨b1,b2⟩,_,rfl,rfl⟩,rfl⟩:=h
 exact rv_t.2 ⟨_,rl_i.2 ⟨⟨Nat.le_trans a1 h1,a2⟩,_,rfl,rl_i.2 ⟨⟨Nat.le_trans b1 h2,b2⟩,_,rfl,rfl⟩⟩,rfl⟩
theorem pt_lim{V W:World}{r:Nat->Nat}{k:Nat}{x y:Int}{A B:Nat}:∀v,RepV V W r k ⟨true,[.i x A,.i y B]⟩ v->RepV V W r k (ptV x y lim) v:=by
 intro v h
 simp only[rv_t,rl_i,rl_nil] at h
 obtain⟨_,⟨⟨a1,a2⟩,_,rfl,⟨b1,b2⟩,_,rfl,rfl⟩,rfl⟩:=h
 exact rv_t.2 ⟨_,rl_i.2 ⟨lim64 a2,_,rfl,rl_i.2 ⟨lim64 b2,_,rfl,rfl⟩⟩,rfl⟩
theorem pt_co{V W:World}{r:Nat->Nat}{k:Nat}{x y:Int}{A B:Nat}(h:Co x/\Co y):∀v,RepV V W r k ⟨true,[.i x A,.i y B]⟩ v->RepV V W r k (ptV x y c26) v:=by
 intro v hv
 simp only[rv_t,rl_i,rl_nil] at hv
 obtain⟨_,⟨⟨a1,a2⟩,_,rfl,⟨b1,b2⟩,_,rfl,rfl⟩,rfl⟩:=hv
 exact rv_t.2 ⟨_,rl_i.2 ⟨co_b h.1,_,rfl,rl_i.2 ⟨co_b h.2,_,rfl,rfl⟩⟩,rfl⟩
theorem checkZ_64(e:Ed):(checkZ e).natAbs<=11/\I64 (checkZ e):=by
 unfold checkZ I64
 (repeat' split)<;>decide
theorem Fok.pre{f:FuncId}{args args':List V1}{res:AV}(h:Fok Tryz.prog f args' res)(hr:∀W vals,RepVs W W (fun _=>0) 0 args vals->RepVs W W (fun _=>0) 0 args' vals):Fok Tryz.prog f args res :=
 fun W vals hv=>h W vals (hr W vals hv)
theorem rvs_1{V W:World}{r:Nat->Nat}{k:Nat}{a b:V1}{l m:List V1}(h:∀x,RepV V W r k a x->RepV V W r k b x)(g:∀xs,RepVs V W r k l xs->RepVs V W r k m xs):∀xs,RepVs V W r k (a::l) xs->RepVs V W r k (b::m) xs :=
 fun _ ⟨x,ys,e,h1,h2⟩=>⟨x,ys,e,h x h1,g ys h2⟩
theorem rvs_0{V W:World}{r:Nat->Nat}{k:Nat}:∀xs,RepVs V W r k [] xs->RepVs V W r k [] xs:=fun _ h=>h
theorem ed_bd{V W:World}{r:Nat->Nat}{k:Nat}{l:List It}{e:Ed}{K B:Nat}(he:toEd l=some e)(h1:I64 e.k->e.k.natAbs<=K)(h2:∀z ∈ [e.ax,e.ay,e.bx,e.by',e.cx,e.cy],I64 z->z.natAbs<=B):∀v,RepV V W r k ⟨true,l⟩ v->RepV V W r k (edV e K B) v:=fun v hr=>by
 unfold toEd at he
 split at he<;>cases he
 simp only[rv_t,rl_i,rl_nil] at hr
 obtain⟨_,⟨⟨_,i0⟩,_,rfl,⟨_,i1⟩,_,rfl,⟨_,i2⟩,_,rfl,⟨_,i3⟩,_,rfl,⟨_,i4⟩,_,rfl,⟨_,i5⟩,_,rfl,⟨_,i6⟩,_,rfl,rfl⟩,rfl⟩:=hr
 exact rv_t.2 ⟨_,rl_i.2 ⟨⟨h1 i0,i0⟩,_,rfl,rl_i.2 ⟨⟨h2 _ (by simp) i1,i1⟩,_,rfl,rl_i.2 ⟨⟨h2 _ (by simp) i2,i2⟩,_,rfl,rl_i.2 ⟨⟨h2 _ (by simp) i3,i3⟩,_,rfl,rl_i.2 ⟨⟨h2 _ (by simp) i4,i4⟩,_,rfl,rl_i.2 ⟨⟨h2 _ (by simp) i5,i5⟩,_,rfl,rl_i.2 ⟨⟨h2 _ (by simp) i6,i6⟩,_,rfl,rfl⟩⟩⟩⟩⟩⟩⟩,rfl⟩
theorem ed_lim{V W:World}{r:Nat->Nat}{k:Nat}{l:List It}{e:Ed}(he:toEd l=some e):∀v,RepV V W r k ⟨true,l⟩ v->RepV V W r k (edV e lim lim) v :=
 ed_bd he (fun h=>(lim64 h).1) (fun z _ h=>(lim64 h).1)
theorem ed_rt{V W:World}{r:Nat->Nat}{k:Nat}{l:List It}{e:Ed}(he:toEd l=some e)(h:e.right=true):∀v,RepV V W r k ⟨true,l⟩ v->RepV V W r k (edV e lim c26) v:=by
 simp only[Ed.right,Bool.and_eq_true,coordB_iff,Co] at h
 refine ed_bd he (fun h=>(lim64 h).1) (fun z hz _=>?_)
 unfold c26
 simp only[List.mem_cons,List.not_mem_nil,or_false] at hz
 rcases hz with rfl|rfl|rfl|rfl|rfl|rfl<;>omega
theorem ed_ok{V W:World}{r:Nat->Nat}{k:Nat}{l:List It}{e:Ed}(he:toEd l=some e)(h:e.ok=true):∀v,RepV V W r k ⟨true,l⟩ v->RepV V W r k (edV e 3 c26) v:=by
 have hk:=kind_of h
 have hr:e.right=true:=by simp only[Ed.ok,Bool.and_eq_true] at h;exact h.1
 simp only[Ed.right,Bool.and_eq_true,coordB_iff,Co] at hr
 refine ed_bd he (fun _=>by omega) (fun z hz _=>?_)
 unfold c26
 simp only[List.mem_cons,List.not_mem_nil,or_false] at hz
 rcases hz with rfl|rfl|rfl|rfl|rfl|rfl<;>omega
theorem toEd_V(e:Ed)(K B:Nat):toEd (edV e K B).l=some e:=rfl
def famV(k:Int):V1:=⟨true,[.v (fam k).c,.v (fam k).o,.v (fam k).r,.i (fam k).k lim]⟩
def KO:List Con:=[cVRight,cTurns]
theorem of_1(e:Ed)(hk:e.k=1):Fok Tryz.prog 54 [edV e lim lim] (.tup [famV e.k,blV e.ok]):=by
 have k1:(e.k==1)=true:=by simp[hk]
 rw[show famV e.k=famV 1 by rw[hk]]
 cases hA:coordB e.ax e.ay with
 | false =>
  rw[show e.ok=false by simp[Ed.ok,Ed.right,hA]]
  exact fok KO [true,false] [pT k1,pF hA] (by kernel_rfl)
 | true =>
  cases hB:coordB e.bx e.by' with
  | false =>
   rw[show e.ok=false by simp[Ed.ok,Ed.right,hB]]
   exact fok KO [true,true,false] [pT k1,pT hA,pF hB] (by kernel_rfl)
  | true =>
   cases hC:coordB e.cx e.cy with
   | false =>
    rw[show e.ok=false by simp[Ed.ok,Ed.right,hC]]
    exact fok KO [true,true,true,false] [pT k1,pT hA,pT hB,pF hC] (by kernel_rfl)
   | true =>
    rw[show e.ok=(e.cx==0&&e.cy==0) by simp[Ed.ok,Ed.right,Ed.lone,hA,hB,hC,hk]]
    exact fok KO [true,true,true,true] [pT k1,pT hA,pT hB,pT hC] (by kernel_rfl)
theorem of_2(e:Ed)(hk:e.k=2):Fok Tryz.prog 54 [edV e lim lim] (.tup [famV e.k,blV e.ok]):=by
 have k1:(e.k==1)=false:=by simp[hk]
 have k2:(e.k==2)=true:=by simp[hk]
 rw[show famV e.k=famV 2 by rw[hk]]
 cases hA:coordB e.ax e.ay with
 | false =>
  rw[show e.ok=false by simp[Ed.ok,Ed.right,hA]]
  exact fok KO [false,true,false] [pF k1,pT k2,pF hA] (by kernel_rfl)
 | true =>
  cases hB:coordB e.bx e.by' with
  | false =>
   rw[show e.ok=false by simp[Ed.ok,Ed.right,hB]]
   exact fok KO [false,true,true,false] [pF k1,pT k2,pT hA,pF hB] (by kernel_rfl)
  | true =>
   cases hC:coordB e.cx e.cy with
   | false =>
    rw[show e.ok=false by simp[Ed.ok,Ed.right,hC]]
    exact fok KO [false,true,true,true,false] [pF k1,pT k2,pT hA,pT hB,pF hC] (by kernel_rfl)
   | true =>
    refine Fok.pre ?_ fun W=>rvs_1 (ed_rt (toEd_V e lim lim) (by simp[Ed.right,hA,hB,hC])) rvs_0
    have E:e.ok=((!((e.ax-e.cx==0)==(e.ay-e.cy==0)))&&(e.bx-e.cx==0-(e.ay-e.cy)+0&&e.by'-e.cy==e.ax-e.cx+0)):=by
     rw[show 0-(e.ay-e.cy)+0=(rot 1 (e.ax-e.cx,e.ay-e.cy)).1 by simp[rot],show e.ax-e.cx+0=(rot 1 (e.ax-e.cx,e.ay-e.cy)).2 by simp[rot]]
     simp[Ed.ok,Ed.right,Ed.quarter,quarterB,hA,hB,hC,hk,bne]
    cases hq:(!((e.ax-e.cx==0)==(e.ay-e.cy==0))) with
    | false =>
     rw[E,hq,Bool.false_and]
     exact fok KO [false,true,true,true,true,false] [pF k1,pT k2,pT hA,pT hB,pT hC,pF hq] (by kernel_rfl)
    | true =>
     rw[E,hq,Bool.true_and]
     exact fok KO [false,true,true,true,true,true] [pF k1,pT k2,pT hA,pT hB,pT hC,pT hq] (by kernel_rfl)
theorem of_3(e:Ed)(hk:e.k=3):Fok Tryz.prog 54 [edV e lim lim] (.tup [famV e.k,blV e.ok]):=by
 have k1:(e.k==1)=false:=by simp[hk]
 have k2:(e.k==2)=false:=by simp[hk]
 have k3:(e.k==3)=true:=by simp[hk]
 rw[show famV e.k=famV 3 by rw[hk]]
 cases hA:coordB e.ax e.ay with
 | false =>
  rw[show e.ok=false by simp[Ed.ok,Ed.right,hA]]
  exact fok KO [false,false,true,false] [pF k1,pF k2,pT k3,pF hA] (by kernel_rfl)
 | true =>
  cases hB:coordB e.bx e.by' with
  | false =>
   rw[show e.ok=false by simp[Ed.ok,Ed.right,hB]]
   exact fok KO [false,false,true,true,false] [pF k1,pF k2,pT k3,pT hA,pF hB] (by kernel_rfl)
  | true =>
   cases hC:coordB e.cx e.cy with
   | false =>
    rw[show e.ok=false by simp[Ed.ok,Ed.right,hC]]
    exact fok KO [false,false,true,true,true,false] [pF k1,pF k2,pT k3,pT hA,pT hB,pF hC] (by kernel_rfl)
   | true =>
    refine Fok.pre ?_ fun W=>rvs_1 (ed_rt (toEd_V e lim lim) (by simp[Ed.right,hA,hB,hC])) rvs_0
    have E:e.ok=((!((e.ax-e.cx==0)==(e.ay-e.cy==0)))&&(e.bx-e.cx==0-(0-(e.ay-e.cy))+0&&e.by'-e.cy==0-(e.ax-e.cx)+0)):=by
     rw[show 0-(0-(e.ay-e.cy))+0=(rot 3 (e.ax-e.cx,e.ay-e.cy)).1 by simp[rot],show 0-(e.ax-e.cx)+0=(rot 3 (e.ax-e.cx,e.ay-e.cy)).2 by simp[rot]]
     simp[Ed.ok,Ed.right,Ed.quarter,quarterB,hA,hB,hC,hk,bne]
    cases hq:(!((e.ax-e.cx==0)==(e.ay-e.cy==0))) with
    | false =>
     rw[E,hq,Bool.false_and]
     exact fok KO [false,false,true,true,true,true,false] [pF k1,pF k2,pT k3,pT hA,pT hB,pT hC,pF hq] (by kernel_rfl)
    | true =>
     rw[E,hq,Bool.true_and]
     exact fok KO [false,false,true,true,true,true,true] [pF k1,pF k2,pT k3,pT hA,pT hB,pT hC,pT hq] (by kernel_rfl)
theorem of_0(e:Ed)(h1:¬e.k=1)(h2:¬e.k=2)(h3:¬e.k=3):Fok Tryz.prog 54 [edV e lim lim] (.tup [famV e.k,blV e.ok]):=by
 have k1:(e.k==1)=false:=by simpa using h1
 have k2:(e.k==2)=false:=by simpa using h2
 have k3:(e.k==3)=false:=by simpa using h3
 rw[show e.ok=false by simp[Ed.ok,h1,h2,h3]]
 unfold famV
 rw[kindB_fam (k:=e.k) (by simp[kindB,h1,h2,h3])]
 exact fok KO [false,false,false] [pF k1,pF k2,pF k3] (by kernel_rfl)
def cOfE:Con where
 f:=54
 g:=fun | [⟨true,l⟩]=>(toEd l).map fun e=>(.tup [famV e.k,blV e.ok],[])|_=>none
 ok:=by
  intro args res ps h hp
  split at h<;>try cases h
  rename_i l
  cases he:toEd l with
  | none=>simp[he] at h
  | some e =>
   simp only[he,Option.map_some,Option.some.injEq,Prod.mk.injEq] at h
   obtain⟨rfl,rfl⟩:=h
   refine Fok.pre ?_ fun W=>rvs_1 (ed_lim he) rvs_0
   by_cases h1:e.k=1
   ·exact of_1 e h1
   by_cases h2:e.k=2
   ·exact of_2 e h2
   by_cases h3:e.k=3
   ·exact of_3 e h3
   ·exact of_0 e h1 h2 h3
theorem rad_b{e:Ed}(h:e.ok=true):(radZ e).natAbs<=134217728/\I64 (radZ e):=by
 have h1:=rad_le h
 by_cases hk:e.k=1
 ·rw[radZ_line hk];exact⟨by decide,i64_0⟩
 ·have := rad_pos h hk
  exact⟨by omega,by unfold I64;omega⟩
theorem chk_F{e:Ed}(h:e.ok=true):(checkZ e != 0)=false:=by rw[checkZ_z h];rfl
theorem chk_T{e:Ed}(h:e.ok=false):(checkZ e != 0)=true:=by have:=checkZ_nz h;simpa using this
theorem ge_T{a b:Int}(h:b<=a):decide (a >= b)=true:=by simpa using h
theorem ge_F{a b:Int}(h:¬b<=a):decide (a >= b)=false:=by simpa using h
theorem not_T{b:Bool}(h:b=false):(!b)=true:=by rw[h];rfl
theorem not_F{b:Bool}(h:b=true):(!b)=false:=by rw[h];rfl
theorem check_ok(e:Ed):Fok Tryz.prog 24 [edV e lim lim] (.one (inV (checkZ e) lim)):=by
 cases ho:e.ok with
 | true =>
  rw[checkZ_z ho]
  exact fok [cOfE] [true] [pT ho] (by kernel_rfl)
 | false =>
  by_cases h1:1<=e.k
  rotate_left
  ·rw [checkZ_11a ho h1]
   exact fok [cOfE] [false,false] [pF ho,pF (ge_F h1)] (by kernel_rfl)
  by_cases h3:e.k<=3
  rotate_left
  ·rw [checkZ_11b ho h3]
   exact fok [cOfE] [false,true,false] [pF ho,pT (ge_T h1),pF (decide_eq_false h3)] (by kernel_rfl)
  have d3:=decide_eq_true h3
  cases hA:coordB e.ax e.ay with
  | false =>
   rw[checkZ_10 ho h1 h3 (.inl hA)]
   exact fok [cOfE,cVRight] [false,true,true,false] [pF ho,pT (ge_T h1),pT d3,pF hA] (by kernel_rfl)
  | true =>
   cases hB:coordB e.bx e.by' with
   | false =>
    rw[checkZ_10 ho h1 h3 (.inr (.inl hB))]
    exact fok [cOfE,cVRight] [false,true,true,true,false] [pF ho,pT (ge_T h1),pT d3,pT hA,pF hB] (by kernel_rfl)
   | true =>
    cases hC:coordB e.cx e.cy with
    | false =>
     rw[checkZ_10 ho h1 h3 (.inr (.inr hC))]
     exact fok [cOfE,cVRight] [false,true,true,true,true,true] [pF ho,pT (ge_T h1),pT d3,pT hA,pT hB,pT (not_T hC)] (by kernel_rfl)
    | true =>
     rw[checkZ_11c ho hA hB hC]
     exact fok [cOfE,cVRight] [false,true,true,true,true,false] [pF ho,pT (ge_T h1),pT d3,pT hA,pT hB,pF (not_F hC)] (by kernel_rfl)
theorem Fok.bd{f:FuncId}{args:List V1}{z:Int}{B:Nat}(h:Fok Tryz.prog f args (.one (inV z lim)))(hB:z.natAbs<=B):Fok Tryz.prog f args (.one (inV z B)) :=
 h.mono fun W x hx=>rv_i.2 ⟨⟨hB,(rv_i.1 hx).1.2⟩,(rv_i.1 hx).2⟩
def cChk:Con where
 f:=24
 g:=fun | [⟨true,l⟩]=>(toEd l).map fun e=>(.one (inV (checkZ e) 11),[])|_=>none
 ok:=by
  intro args res ps h _
  split at h<;>try cases h
  rename_i l
  cases he:toEd l with
  | none=>simp[he] at h
  | some e =>
   simp only[he,Option.map_some,Option.some.injEq,Prod.mk.injEq] at h
   obtain⟨rfl,rfl⟩:=h
   exact ((check_ok e).bd (checkZ_64 e).1).pre fun W=>rvs_1 (ed_lim he) rvs_0
theorem radZ_arc{e:Ed}(h:e.ok=true)(hk:(e.k==1)=false):radZ e=max (max (e.ax-e.cx) (0-(e.ax-e.cx))) (max (e.ay-e.cy) (0-(e.ay-e.cy))):=by
 unfold radZ
 rw[h,hk,Int.zero_sub,Int.zero_sub]
 rfl
theorem radius_ok(e:Ed)(ho:e.ok=true):Fok Tryz.prog 29 [edV e 3 c26] (.one (inV (radZ e) lim)):=by
 cases hk:(e.k==1) with
 | true =>
  rw[radZ_line (by simpa using hk)]
  exact fok [cOfE] [false,true] [pF (not_F ho),pT hk] (by kernel_rfl)
 | false =>
  rw[radZ_arc ho hk]
  exact fok [cOfE] [false,false] [pF (not_F ho),pF hk] (by kernel_rfl)
def cRad:Con where
 f:=29
 g:=fun | [⟨true,l⟩]=>(toEd l).map fun e=>(.one (inV (radZ e) 134217728),[e.ok=true])|_=>none
 ok:=by
  intro args res ps h hp
  split at h<;>try cases h
  rename_i l
  cases he:toEd l with
  | none=>simp[he] at h
  | some e =>
   simp only[he,Option.map_some,Option.some.injEq,Prod.mk.injEq] at h
   obtain⟨rfl,rfl⟩:=h
   exact ((radius_ok e hp.1).bd (rad_b hp.1).1).pre fun W=>rvs_1 (ed_ok he hp.1) rvs_0
theorem reverse_ok(e:Ed):Fok Tryz.prog 91 [edV e 3 c26] (.one (edV (revE e) lim lim)):=fok [cOfE] [] [] (by kernel_rfl)
def cRev:Con where
 f:=91
 g:=fun | [⟨true,l⟩]=>(toEd l).map fun e=>(.one (edV (revE e) 3 c26),[e.ok=true])|_=>none
 ok:=by
  intro args res ps h hp
  split at h<;>try cases h
  rename_i l
  cases he:toEd l with
  | none=>simp[he] at h
  | some e =>
   simp only[he,Option.map_some,Option.some.injEq,Prod.mk.injEq] at h
   obtain⟨rfl,rfl⟩:=h
   refine ((reverse_ok e).mono fun W x hx=>?_).pre fun W=>rvs_1 (ed_ok he hp.1) rvs_0
   obtain⟨⟨h1,h2⟩,⟨h3,h4⟩,h5,h6⟩:=ok_right hp.1
   refine ed_bd (toEd_V (revE e) lim lim) (fun _=>(famk_b hp.1).1) (fun z hz _=>?_) x hx
   have:=(co_b h1).1;have:=(co_b h2).1;have:=(co_b h3).1;have:=(co_b h4).1;have:=(co_b h5).1;have:=(co_b h6).1
   simp only[revE,List.mem_cons,List.not_mem_nil,or_false] at hz
   rcases hz with rfl|rfl|rfl|rfl|rfl|rfl<;>assumption
end
end Go.Proofs.YtcfpcafnjgpfdaaGreat

set_option maxRecDepth 100000
namespace Go.Proofs.YtcfpcafnjgpfdaaGreat.fin
open Go.ChangeShapes Go.WideShapes Go.ChangeAt Go.RowKit Go.Joins
set_option linter.unusedVariables false
theorem own:ownKnob Tryz.prog.godebug=none:=by kernel_rfl
theorem laidOut:laidOutB Tryz.prog=true:=by kernel_rfl
def IsRow(k:IntKind)(w:World)(a:Option Addr)(len cap:Nat)(zs:List Int):Prop :=
 (a=none/\len=0/\cap=0/\zs=[]) \/
 ∃x,a=some x/\len<=cap/\cap<=maxLen/\zs.length=cap/\(∀i,i<zs.length->w.cell? (x.add i)=some (.int k (zs.getD i 0)))/\∀n∈zs,(Lit.int k n).wf=true
theorem IsRow.ints{w:World}{a:Option Addr}{len cap:Nat}{zs:List Int}(h:IsRow .i64 w a len cap zs):Ints w a len (zs.take len)/\len<=cap/\cap<=9223372036854775807:=by
 rcases h with⟨rfl,rfl,rfl,rfl⟩|⟨x,rfl,hl,hm,hz,hc,_⟩
 ·exact⟨⟨rfl,by omega,fun h=>absurd h (by omega)⟩,by omega,by omega⟩
 ·unfold maxLen at hm
  refine⟨⟨by rw[List.length_take,hz];omega,by omega,fun h0=>?_⟩,hl,by omega⟩
  obtain⟨b,o,rfl,hd⟩:=ints_at hc (by omega)
  refine⟨b,o,rfl,?_,fun i hi=>?_⟩
  ·exact World.block_lt_of_cell? w _ (hd 0 (by omega))
  ·rw [hd i (by omega), List.getElem?_take_of_lt hi]
   rfl
theorem ints_in{H:Type}{enc:TypeId×Value->H}{W:World}{base:Nat}{v:Value}{d:DataW H}{p:List MemPlace}(hv:Value.okWide Tryz.prog W .any base 22 v)(h:DataW.Trod enc Tryz.prog W 0 (fun _=>true) true 22 v d p):∃a len cap zs,v=.slice a len cap/\IsRow .i64 W a len cap zs:=by
 obtain⟨a2,len2,cap2,rfl⟩:=okWide_slice Tryz.underlying22 hv
 obtain⟨fuel,hf⟩:=h
 rcases open_ints Tryz.underlying22 Tryz.underlying3 (by kernel_rfl) hf with⟨hcs,_⟩|⟨x,l,c,zs,hcs,_,hl,hm,hz,_,hcell,hwz⟩
 ·simp [Value.cells] at hcs
  obtain⟨rfl,rfl,rfl⟩:=hcs
  exact⟨_,_,_,[],rfl,.inl ⟨rfl,rfl,rfl,rfl⟩⟩
 ·simp [Value.cells] at hcs
  obtain⟨rfl,rfl,rfl⟩:=hcs
  exact⟨_,_,_,zs,rfl,.inr ⟨_,rfl,hl,hm,by simpa using hz,hcell,hwz⟩⟩
theorem rv_ds{w V:World}{r:Nat->Nat}{k:Nat}{a:Option Addr}{len cap:Nat}{zs:List Int}(h:IsRow .i64 w a len cap zs):RepV w V r k ⟨false,[.ds (zs.take len)]⟩ (.slice a len cap):=by
 obtain⟨h1,h2,h3⟩:=IsRow.ints h
 exact RepI.val (i:=.ds _) ⟨_,rfl,a,len,cap,rfl,h1,h2,h3⟩
end Go.Proofs.YtcfpcafnjgpfdaaGreat.fin
namespace Go.Proofs.YtcfpcafnjgpfdaaGreat
open Go.RowKit

section
inductive Rq where
 | eq (v:V1)
 | le (v:V1)
def Rq.v:Rq->V1
 | .eq v=>v
 | .le v=>v
structure Ds where
 l:List (Nat×Rq)
 m:List (Option Mb)
def Tr.anyT:Nat->Tr
 | 0=>.e
 | k+1=>.n .any (Tr.anyT k) (Tr.anyT k)
def Tr.sets:List (Nat×Rq)->Tr
 | []=>Tr.anyT 12
 | (i,x)::l=>(Tr.sets l).set i (.one x.v)
def mkS(n:Nat)(d:Ds):St:=⟨⟨n,Tr.sets d.l⟩,d.m,0⟩
def leI(u v:It):Option (List Prop) :=
 match u,v with
 | .i z A,.i y B=>if A<=B then some [z=y] else some [z=y/\z.natAbs<=B]
 | .k n,.i y B=>if n.natAbs<=B then some [n=y] else none
 | .k n,.k m=>if n=m then some [] else none
 | .b x,.b y=>if x=y then some [] else none
 | .b x,.v (.bool y)=>some [x=y]
 | .p x o,.p y u=>if x=y/\o=u then some [] else none
 | u,v=>some [u=v]
def leL:List It->List It->Option (List Prop)
 | [],[]=>some []
 | u::l,v::m=>match leI u v,leL l m with|some a,some b=>some (a++b)|_,_=>none
 | _,_=>none
def leR(u:V1):Rq->Option (List Prop)
 | .eq v=>some [u=v]
 | .le v=>if u.g=v.g then leL u.l v.l else none
def leT(t:Tm):List (Nat×Rq)->Option (List Prop)
 | []=>some []
 | (i,x)::l=>match t.get i with
  | some (.one u)=>(match leR u x,leT t l with|some a,some b=>some (a++b)|_,_=>none)
  | _=>none
def leM:List (Option Mb)->List (Option Mb)->Option (List Prop)
 | _,[]=>some []
 | some x::l,some y::m=>if x.T=y.T then (match leL x.l y.l,leM l m with|some a,some b=>some (a++b)|_,_=>none) else none
 | _::l,none::m=>leM l m
 | _,_=>none
def It.bk(k:Nat):It->Bool
 | .p x _=>Nat.blt x k
 | .sl x _ _=>Nat.blt x k
 | .px x _ _ _=>Nat.blt x k
 | .fn _ c=>c.all fun p=>Nat.blt p.1 k
 | _=>true
def Ds.bk(d:Ds):Bool:=(d.l.all fun x=>x.2.v.l.all (It.bk d.m.length))&&d.m.all fun x=>match x with|some y=>y.l.all (It.bk d.m.length)|none=>true
def leS(s:St)(d:Ds):Option (List Prop):=if d.bk&&Nat.ble d.m.length s.m.length then (match leT s.t d.l,leM s.m d.m with|some a,some b=>some (a++b)|_,_=>none) else none
section
variable {V W:World} {r:Nat->Nat} {k k':Nat} {cm:Nat->List Value} {s:St} {a:Act}
theorem leI_rep{u v:It}{ps:List Prop}{cs:List Value}(h:leI u v=some ps)(hp:All ps)(hr:RepI V W r k u cs):RepI V W r k v cs:=by
 unfold leI at h
 split at h
 ·split at h <;> cases h
  ·obtain rfl := hp.1
   exact⟨hr.1,Nat.le_trans hr.2.1 (by assumption),hr.2.2⟩
  ·obtain ⟨rfl, hb⟩ := hp.1
   exact⟨hr.1,hb,hr.2.2⟩
 ·split at h <;> cases h
  obtain rfl:=hp.1
  exact⟨hr.1,by assumption,hr.2⟩
 ·split at h <;> cases h
  rename_i e;subst e;exact hr
 ·split at h <;> cases h
  rename_i e;subst e;exact hr
 ·cases h
  obtain rfl:=hp.1
  exact⟨hr,rfl⟩
 ·split at h <;> cases h
  rename_i e;obtain⟨rfl,rfl⟩:=e;exact hr
 ·cases h
  obtain rfl:=hp.1
  exact hr
theorem leL_rep:∀ {l m:List It} {ps:List Prop} {cs:List Value},leL l m=some ps->All ps->RepL V W r k l cs->RepL V W r k m cs
 | [],[],_,_,_,_,hr=>hr
 | u::l,v::m,ps,_,h,hp,⟨c,d,e,h1,h2⟩=>by
  unfold leL at h
  split at h<;>cases h
  rename_i q1 q2
  obtain⟨p1,p2⟩:=All.app hp
  exact⟨c,d,e,leI_rep q1 p1 h1,leL_rep q2 p2 h2⟩
 | [],_::_,_,_,h,_,_=>by unfold leL at h;cases h
 | _::_,[],_,_,h,_,_=>by unfold leL at h;cases h
theorem leR_rep{u:V1}{x:Rq}{ps:List Prop}{y:Value}(h:leR u x=some ps)(hp:All ps)(hr:RepV V W r k u y):RepV V W r k x.v y:=by
 unfold leR at h
 split at h
 ·cases h
  obtain rfl:=hp.1
  exact hr
 ·split at h
  ·rename_i e
   obtain⟨cs,h1,h2,h3⟩:=hr
   exact⟨cs,leL_rep h hp h1,by rw[h2,e];rfl,fun g=>h3 (by rw[e];exact g)⟩
  ·cases h
theorem bk_rep{i:It}{cs:List Value}(h:It.bk k' i=true)(hr:RepI V W r k i cs):RepI V W r k' i cs:=by
 cases i with
 | p b o=>exact⟨by simpa[It.bk,Nat.blt_eq] using h,hr.2⟩
 | sl b n z=>exact⟨by simpa[It.bk,Nat.blt_eq] using h,hr.2⟩
 | px b z n len=>exact⟨⟨by simpa[It.bk,Nat.blt_eq] using h,hr.1.2⟩,hr.2⟩
 | fn f c=>exact⟨fun p hp=>by simpa[Nat.blt_eq] using List.all_eq_true.1 (show (c.all fun p=>Nat.blt p.1 k')=true from h) p hp,hr.2⟩
 | _=>exact hr
theorem bk_l:∀ {l:List It} {cs:List Value},l.all (It.bk k')=true->RepL V W r k l cs->RepL V W r k' l cs
 | [],_,_,e=>e
 | i::l,_,hl,⟨c,d,e,h1,h2⟩=>by
  simp only[List.all_cons,Bool.and_eq_true] at hl
  exact⟨c,d,e,bk_rep hl.1 h1,bk_l hl.2 h2⟩
theorem Tr.anyT_get{v:AV}:∀ {k i:Nat},(Tr.anyT k).get i=some v->v=.any
 | 0,_,h=>by cases h
 | k+1,i,h=>by
  unfold Tr.anyT Tr.get at h
  split at h
  ·cases h;rfl
  ·split at h
   ·exact Tr.anyT_get h
   ·exact Tr.anyT_get h
theorem Tr.sets_get{v:AV}:∀ {l:List (Nat×Rq)} {i:Nat},(Tr.sets l).get i=some v->v=.any\/∃x,(i,x)∈l/\v=.one x.v
 | [],i,h=>.inl (Tr.anyT_get h)
 | (j,x)::l,i,h=>by
  unfold Tr.sets at h
  rw[Tr.get_set] at h
  split at h
  ·rename_i e
   subst e
   cases hq:(Tr.sets l).get j with
   | none=>simp[hq] at h
   | some w=>simp only[hq,Option.map_some,Option.some.injEq] at h;exact .inr ⟨x,List.mem_cons_self ..,h.symm⟩
  ·rcases Tr.sets_get h with h | ⟨y, h1, h2⟩
   ·exact .inl h
   ·exact .inr ⟨y,List.mem_cons_of_mem _ h1,h2⟩
theorem leT_at{t:Tm}:∀ {l:List (Nat×Rq)} {ps:List Prop},leT t l=some ps->All ps->∀(i:Nat) (x:Rq),(i,x)∈l->∃(u:V1) (ps':List Prop),t.get i=some (.one u)/\leR u x=some ps'/\All ps'
 | [],_,_,_,_,_,h=>by cases h
 | (j,y)::l,ps,h,hp,i,x,hm=>by
  unfold leT at h
  split at h
  ·rename_i u hu
   split at h<;>cases h
   rename_i q1 q2
   obtain⟨p1,p2⟩:=All.app hp
   rcases List.mem_cons.1 hm with e|hm
   ·cases e;exact⟨u,_,hu,q1,p1⟩
   ·exact leT_at q2 p2 i x hm
  ·cases h
theorem leM_at:∀ {m d:List (Option Mb)} {ps:List Prop},leM m d=some ps->All ps->∀(b:Nat) (y:Mb),d[b]? = some (some y)->∃(x:Mb) (ps':List Prop),m[b]? = some (some x)/\x.T=y.T/\leL x.l y.l=some ps'/\All ps'
 | _,[],_,_,_,_,_,h=>by simp at h
 | [],some _::_,_,h,_,_,_,_=>by unfold leM at h;cases h
 | [],none::_,_,h,_,_,_,_=>by unfold leM at h;cases h
 | none::_,some _::_,_,h,_,_,_,_=>by unfold leM at h;cases h
 | x::l,none::d,ps,h,hp,b,y,hb=>by
  have h:leM l d=some ps:=by cases x<;>exact h
  cases b with
  | zero=>simp at hb
  | succ b=>simpa using leM_at h hp b y (by simpa using hb)
 | some x::l,some z::d,ps,h,hp,b,y,hb=>by
  unfold leM at h
  split at h
  ·rename_i e
   split at h<;>cases h
   rename_i q1 q2
   obtain⟨p1,p2⟩:=All.app hp
   cases b with
   | zero =>
    simp only[List.getElem?_cons_zero,Option.some.injEq] at hb
    subst hb
    exact⟨x,_,rfl,e,q1,p1⟩
   | succ b=>simpa using leM_at q2 p2 b y (by simpa using hb)
  ·cases h
theorem le_J{n:Nat}{d:Ds}{ps:List Prop}(h:leS s d=some ps)(hp:All ps)(hn:s.t.n=n)(hJ:JJ V s a W):JJ V (mkS n d) a W:=by
 obtain⟨r,cm,⟨hM,hd⟩,hT⟩:=hJ
 unfold leS at h
 split at h
 ·rename_i hb
  simp only[Bool.and_eq_true,Ds.bk] at hb
  obtain⟨⟨b1,b2⟩,b3⟩:=hb
  split at h<;>cases h
  rename_i q1 q2
  obtain⟨p1,p2⟩:=All.app hp
  have mbs:∀(b:Nat) (y:Mb),mb d.m b=some y->∃(x:Mb) (ps':List Prop),mb s.m b=some x/\x.T=y.T/\leL x.l y.l=some ps'/\All ps':=fun b y hy=>by
   obtain⟨x,ps',k1,k2⟩:=leM_at q2 p2 b y (mb_at.1 hy)
   exact⟨x,ps',mb_at.2 k1,k2⟩
  refine⟨r,cm,⟨⟨hM.ext,fun b y hy=>?_,fun b y hy=>?_,fun b c y z hy hz=>?_⟩,hd⟩,by rw[hT.1,hn];rfl,fun i v hv=>?_⟩
  ·obtain ⟨x, ps', k1, k2, k3, k4⟩ := mbs b y hy
   obtain⟨h1,c,e,h2,h3,h4⟩:=hM.blk b x k1
   refine⟨by rw[h1,k2],c,e,h2,bk_l ?_ (leL_rep k3 k4 h3),h4⟩
   have:=List.all_eq_true.1 b2 _ (List.mem_of_getElem? (mb_at.1 hy))
   exact this
  ·obtain⟨x,_,k1,_⟩:=mbs b y hy;exact hM.lo b x k1
  ·obtain ⟨x, _, k1, _⟩ := mbs b y hy
   obtain⟨x',_,k2,_⟩:=mbs c z hz
   exact hM.inj b c x x' k1 k2
  ·rcases Tr.sets_get (Tm.get_lt hv).2 with rfl | ⟨x, hx, rfl⟩
   ·trivial
   ·obtain ⟨u, ps', k1, k2, k3⟩ := leT_at q1 p1 i x hx
    obtain⟨cs,g1,g2⟩:=leR_rep k2 k3 (show RepV V W r s.m.length u _ from hT.2 i _ k1)
    exact⟨cs,bk_l (List.all_eq_true.1 b1 _ hx) g1,g2⟩
 ·cases h
end
structure Orc where
 n:Nat
 d0:Ds
 e:Ex
 d1:Ds
def OrcOk(P:Program)(c:Code)(o:Orc):Prop:=∀V a w Q,JJ V (mkS o.n o.d0) a w->(∀a' W,JJ V (mkS o.n o.d1) a' W->Q o.e.go a' W)->c.wp P Q a w
def fstR:Code->Option Nat
 | .region id _ _=>some id
 | .seq a b=>match fstR a with|some k=>some k|none=>fstR b
 | .cond _ a b=>match fstR a with|some k=>some k|none=>fstR b
 | .block _ c=>fstR c
 | .loop c=>fstR c
 | .rangeFunc _ _ _ c=>fstR c
 | _=>none
def keyC:Code->Option Nat
 | .region id _ _=>some (2*id+1)
 | c=>(fstR c).map (2*·)
def loopsOf:Code->List Code
 | .seq a b=>loopsOf a++loopsOf b
 | .cond _ a b=>loopsOf a++loopsOf b
 | .block _ c=>loopsOf c
 | .loop c=>.loop c::loopsOf c
 | .rangeFunc f p x c=>[.rangeFunc f p x c]
 | .region id ops d=>[.region id ops d]
 | _=>[]
def lpT:List (Nat×Orc)->Nat->Option Orc
 | [],_=>none
 | x::l,k=>if x.1=k then some x.2 else lpT l k
def lpAt(L:List (Nat×Orc))(c:Code):Option Orc:=(keyC c).bind (lpT L)
theorem lpAt_nil(c:Code):lpAt [] c=none:=by unfold lpAt;cases keyC c<;>rfl
def useO(o:Orc)(s:St)(q:List Bool):Option (Ex×St×List Prop×List Bool):=if s.t.n=o.n then (leS s o.d0).map fun ps=>(o.e,mkS o.n o.d1,ps,q) else none
def aCodeL(P:Program)(E:Env)(call:CallF)(L:List (Nat×Orc)):Code->St->List Bool->Option (Ex×St×List Prop×List Bool)
 | .seq a b,s,q=>match aCodeL P E call L a s q with
  | none=>none
  | some (.nm,s,ps,q)=>(aCodeL P E call L b s q).map fun r=>(r.1,r.2.1,ps++r.2.2.1,r.2.2.2)
  | r=>r
 | .cond c x y,s,q=>match evI s c,q with
  | some (.b true),q=>aCodeL P E call L x s q
  | some (.b false),q=>aCodeL P E call L y s q
  | some (.v (.bool b)),true::q=>(aCodeL P E call L x s q).map fun r=>(r.1,r.2.1,(b=true)::r.2.2.1,r.2.2.2)
  | some (.v (.bool b)),false::q=>(aCodeL P E call L y s q).map fun r=>(r.1,r.2.1,(b=false)::r.2.2.1,r.2.2.2)
  | _,_=>none
 | .block id c,s,q=>(aCodeL P E call L c s q).map fun r=>((match r.1 with | .ex k=>if k=id then .nm else .ex k|e=>e),r.2)
 | .loop c,s,q=>match lpAt L (.loop c) with
  | some o=>useO o s q
  | none=>aLoop (fun s q=>aCodeL P E call L c s q) 100 s q
 | .rangeFunc f p x c,s,q=>match lpAt L (.rangeFunc f p x c) with
  | some o=>useO o s q
  | none=>none
 | .region id ops d,s,q=>match lpAt L (.region id ops d) with
  | some o=>useO o s q
  | none=>aCode P E call (.region id ops d) s q
 | c,s,q=>aCode P E call c s q
def LpOk(P:Program)(l:List Code)(L:List (Nat×Orc)):Prop:=∀c∈l,∀o,lpAt L c=some o->OrcOk P c o
theorem LpOk.nil{P:Program}{l:List Code}:LpOk P l []:=fun c _ o ho=>by rw[lpAt_nil] at ho;cases ho
section
variable {P:Program} {E:Env} {call:CallF} {L:List (Nat×Orc)}
theorem useO_wp{c:Code}{o:Orc}{V:World}{s s':St}{q q':List Bool}{e:Ex}{ps:List Prop}{a:Act}{w:World}{Q:Exit->Act->World->Prop}(ho:OrcOk P c o)(h:useO o s q=some (e,s',ps,q'))(hp:All ps)(hJ:JJ V s a w)(hQ:∀a' W,JJ V s' a' W->Q e.go a' W):c.wp P Q a w:=by
 unfold useO at h
 split at h
 ·rename_i hn
  cases h2:leS s o.d0 with
  | none=>simp[h2] at h
  | some ps' =>
   simp only[h2,Option.map_some,Option.some.injEq,Prod.mk.injEq] at h
   obtain⟨rfl,rfl,rfl,rfl⟩:=h
   exact ho V a w Q (le_J h2 hp hn hJ) hQ
 ·cases h
theorem aCodeL_wp(hs:Sound P E call):∀ {c:Code} {V:World} {s s':St} {q q':List Bool} {e:Ex} {ps:List Prop} {a:Act} {w:World} {Q:Exit->Act->World->Prop},LpOk P (loopsOf c) L->aCodeL P E call L c s q=some (e,s',ps,q')->All ps->JJ V s a w ->
  (∀a' W,JJ V s' a' W->Q e.go a' W)->c.wp P Q a w
 | .seq x y,V,s,s',q,q',e,ps,a,w,Q,hL,h,hp,hJ,hQ=>by
  have hL1:LpOk P (loopsOf x) L:=fun c hc=>hL c (List.mem_append_left _ hc)
  have hL2:LpOk P (loopsOf y) L:=fun c hc=>hL c (List.mem_append_right _ hc)
  unfold aCodeL at h
  refine wp_seq ?_
  split at h
  ·cases h
  ·rename_i s1 ps1 q1 h1
   cases h2:aCodeL P E call L y s1 q1 with
   | none=>simp[h2] at h
   | some z =>
    obtain⟨e2,s2,ps2,q2⟩:=z
    simp only[h2,Option.map_some,Option.some.injEq,Prod.mk.injEq] at h
    obtain⟨rfl,rfl,rfl,rfl⟩:=h
    obtain⟨p1,p2⟩:=All.app hp
    exact aCodeL_wp hs hL1 h1 p1 hJ fun a' W hW=>aCodeL_wp hs hL2 h2 p2 hW hQ
  ·rename_i hne
   refine aCodeL_wp hs hL1 h hp hJ fun a' W hW=>?_
   cases e with
   | nm=>exact absurd h (hne _ _ _)
   | rt=>exact hQ _ _ hW
   | ex k=>exact hQ _ _ hW
 | .cond c x y,V,s,s',q,q',e,ps,a,w,Q,hL,h,hp,hJ,hQ=>by
  have hL1:LpOk P (loopsOf x) L:=fun c hc=>hL c (List.mem_append_left _ hc)
  have hL2:LpOk P (loopsOf y) L:=fun c hc=>hL c (List.mem_append_right _ hc)
  unfold aCodeL at h
  obtain⟨r,cm,hj⟩:=hJ
  split at h
  ·rename_i q1 hb
   have hv:a.eval c=.bool true:=by simpa using (show [a.eval c]=[Value.bool true] from evI_rep hj.2 hb)
   exact wp_cond_true hv (aCodeL_wp hs hL1 h hp ⟨r,cm,hj⟩ hQ)
  ·rename_i q1 hb
   have hv:a.eval c=.bool false:=by simpa using (show [a.eval c]=[Value.bool false] from evI_rep hj.2 hb)
   exact wp_cond_false hv (aCodeL_wp hs hL2 h hp ⟨r,cm,hj⟩ hQ)
  ·rename_i b q1 hb
   have hv:a.eval c=.bool b:=by have:=(evI_rep hj.2 hb).1;simpa using this
   cases h2:aCodeL P E call L x s q1 with
   | none=>simp[h2] at h
   | some z =>
    obtain⟨e2,s2,ps2,q2⟩:=z
    simp only[h2,Option.map_some,Option.some.injEq,Prod.mk.injEq] at h
    obtain⟨rfl,rfl,rfl,rfl⟩:=h
    exact wp_cond_true (by rw[hv,hp.1]) (aCodeL_wp hs hL1 h2 hp.2 ⟨r,cm,hj⟩ hQ)
  ·rename_i b q1 hb
   have hv:a.eval c=.bool b:=by have:=(evI_rep hj.2 hb).1;simpa using this
   cases h2:aCodeL P E call L y s q1 with
   | none=>simp[h2] at h
   | some z =>
    obtain⟨e2,s2,ps2,q2⟩:=z
    simp only[h2,Option.map_some,Option.some.injEq,Prod.mk.injEq] at h
    obtain⟨rfl,rfl,rfl,rfl⟩:=h
    exact wp_cond_false (by rw[hv,hp.1]) (aCodeL_wp hs hL2 h2 hp.2 ⟨r,cm,hj⟩ hQ)
  ·cases h
 | .block id c,V,s,s',q,q',e,ps,a,w,Q,hL,h,hp,hJ,hQ=>by
  unfold aCodeL at h
  cases h2:aCodeL P E call L c s q with
  | none=>simp[h2] at h
  | some z =>
   obtain⟨e2,s2,ps2,q2⟩:=z
   simp only[h2,Option.map_some,Option.some.injEq,Prod.mk.injEq] at h
   obtain⟨rfl,rfl,rfl,rfl⟩:=h
   refine wp_block (aCodeL_wp hs hL h2 hp hJ fun a' W hW=>?_)
   have:=hQ a' W hW
   cases e2 with
   | nm=>exact this
   | rt=>exact this
   | ex k =>
    simp only at this
    show if k=id then Q .normal a' W else Q (.exit k) a' W
    split at this
    ·rw[if_pos (by assumption)];exact this
    ·rw[if_neg (by assumption)];exact this
 | .loop c,V,s,s',q,q',e,ps,a,w,Q,hL,h,hp,hJ,hQ=>by
  have hL1:LpOk P (loopsOf c) L:=fun d hd=>hL d (List.mem_cons_of_mem _ hd)
  unfold aCodeL at h
  split at h
  ·rename_i o ho
   exact useO_wp (hL _ (List.mem_cons_self ..) o ho) h hp hJ hQ
  ·have key:∀(n:Nat) (s:St) (q:List Bool) (ps:List Prop) (a:Act) (w:World),aLoop (fun s q=>aCodeL P E call L c s q) n s q=some (e,s',ps,q')->All ps->JJ V s a w->Code.rounds P c Q n a w:=by
    intro n
    induction n with
    | zero=>intro s q ps a w h;unfold aLoop at h;cases h
    | succ n ih =>
     intro s q ps a w h hp hJ
     unfold aLoop at h
     rw[rounds_succ]
     split at h
     ·cases h
     ·rename_i s1 ps1 q1 h1
      cases h2:aLoop (fun s q=>aCodeL P E call L c s q) n s1 q1 with
      | none=>simp[h2] at h
      | some z =>
       obtain⟨e2,s2,ps2,q2⟩:=z
       simp only[h2,Option.map_some,Option.some.injEq,Prod.mk.injEq] at h
       obtain⟨rfl,rfl,rfl,rfl⟩:=h
       obtain⟨p1,p2⟩:=All.app hp
       exact aCodeL_wp hs hL1 h1 p1 hJ fun a' W hW=>ih _ _ _ _ _ h2 p2 hW
     ·rename_i hne
      refine aCodeL_wp hs hL1 h hp hJ fun a' W hW=>?_
      cases e with
      | nm=>exact absurd h (hne _ _ _)
      | rt=>exact hQ _ _ hW
      | ex k=>exact hQ _ _ hW
   exact wp_loop_rounds _ (key _ _ _ _ _ _ h hp hJ)
 | .rangeFunc f p x c,V,s,s',q,q',e,ps,a,w,Q,hL,h,hp,hJ,hQ=>by
  unfold aCodeL at h
  split at h
  ·rename_i o ho
   exact useO_wp (hL _ (List.mem_cons_self ..) o ho) h hp hJ hQ
  ·cases h
 | .skip,V,s,s',q,q',e,ps,a,w,Q,hL,h,hp,hJ,hQ=>aCode_wp hs h hp hJ hQ
 | .label _,V,s,s',q,q',e,ps,a,w,Q,hL,h,hp,hJ,hQ=>aCode_wp hs h hp hJ hQ
 | .ret,V,s,s',q,q',e,ps,a,w,Q,hL,h,hp,hJ,hQ=>aCode_wp hs h hp hJ hQ
 | .exit k,V,s,s',q,q',e,ps,a,w,Q,hL,h,hp,hJ,hQ=>aCode_wp hs h hp hJ hQ
 | .region id ops d,V,s,s',q,q',e,ps,a,w,Q,hL,h,hp,hJ,hQ=>by
  unfold aCodeL at h
  split at h
  ·rename_i o ho
   exact useO_wp (hL _ (List.mem_cons_self ..) o ho) h hp hJ hQ
  ·exact aCode_wp hs h hp hJ hQ
 | .scope _,V,s,s',q,q',e,ps,a,w,Q,hL,h,hp,hJ,hQ=>aCode_wp hs h hp hJ hQ
 | .goto _,V,s,s',q,q',e,ps,a,w,Q,hL,h,hp,hJ,hQ=>aCode_wp hs h hp hJ hQ
 | .refuse _,V,s,s',q,q',e,ps,a,w,Q,hL,h,hp,hJ,hQ=>aCode_wp hs h hp hJ hQ
def runL(P:Program)(E:Env)(call:CallF)(L:List (Nat×Orc))(c:Code)(n:Nat)(d d':Ds)(q:List Bool):Option (Ex×List Prop) :=
 match aCodeL P E call L c (mkS n d) q with
 | some (e,s,ps,[])=>if s.t.n=n then (leS s d').map fun ps'=>(e,ps++ps') else none
 | _=>none
theorem runL_wp(hs:Sound P E call){c:Code}{n:Nat}{d d':Ds}{q:List Bool}{e:Ex}{ps:List Prop}{V:World}{a:Act}{w:World}{Q:Exit->Act->World->Prop}(hL:LpOk P (loopsOf c) L)(h:runL P E call L c n d d' q=some (e,ps))(hp:All ps)(hJ:JJ V (mkS n d) a w)(hQ:∀a' W,JJ V (mkS n d') a' W->Q e.go a' W):c.wp P Q a w:=by
 unfold runL at h
 split at h
 ·rename_i e1 s ps1 h1
  split at h
  ·rename_i hn
   cases h2:leS s d' with
   | none=>simp[h2] at h
   | some ps2 =>
    simp only[h2,Option.map_some,Option.some.injEq,Prod.mk.injEq] at h
    obtain⟨rfl,rfl⟩:=h
    obtain⟨p1,p2⟩:=All.app hp
    exact aCodeL_wp hs hL h1 p1 hJ fun a' W hW=>hQ a' W (le_J h2 p2 hn hW)
  ·cases h
 ·cases h
theorem orc_loop(hs:Sound P E call){c:Code}{n N:Nat}(D:Nat->Ds)(T:Nat->List (Nat×Orc)){e:Ex}{d1:Ds}(hL:∀k,k<=N->LpOk P (loopsOf c) (T k))
  (hr:∀k,k<N->∃q ps,runL P E call (T k) c n (D k) (D (k+1)) q=some (.nm,ps)/\All ps)
  (he:∃q ps,runL P E call (T N) c n (D N) d1 q=some (e,ps)/\All ps) (hne:e ≠ .nm):OrcOk P (.loop c) ⟨n,D 0,e,d1⟩:=by
 intro V a w Q hJ hQ
 have key:∀(j k:Nat) (a:Act) (w:World),k+j=N->JJ V (mkS n (D k)) a w->Code.rounds P c Q (j+1) a w:=by
  intro j
  induction j with
  | zero =>
   intro k a w hk hJ
   obtain rfl:k=N:=by omega
   obtain⟨q,ps,h,hp⟩:=he
   rw[rounds_succ]
   refine runL_wp hs (hL k (Nat.le_refl _)) h hp hJ fun a' W hW=>?_
   cases e with
   | nm=>exact absurd rfl hne
   | rt=>exact hQ _ _ hW
   | ex k=>exact hQ _ _ hW
  | succ j ih =>
   intro k a w hk hJ
   obtain⟨q,ps,h,hp⟩:=hr k (by omega)
   rw[rounds_succ]
   exact runL_wp hs (hL k (by omega)) h hp hJ fun a' W hW=>ih (k+1) a' W (by omega) hW
 exact wp_loop_rounds _ (key N 0 a w (by omega) hJ)
end
theorem loops_trans:∀ {b c d:Code},c∈loopsOf b->d∈loopsOf c->d∈loopsOf b
 | .seq x y,c,d,h,hd=>by
  rcases List.mem_append.1 h with h|h
  ·exact List.mem_append_left _ (loops_trans h hd)
  ·exact List.mem_append_right _ (loops_trans h hd)
 | .cond _ x y,c,d,h,hd=>by
  rcases List.mem_append.1 h with h|h
  ·exact List.mem_append_left _ (loops_trans h hd)
  ·exact List.mem_append_right _ (loops_trans h hd)
 | .block _ x,c,d,h,hd=>loops_trans (b:=x) h hd
 | .loop x,c,d,h,hd=>by
  rcases List.mem_cons.1 h with rfl|h
  ·exact hd
  ·exact List.mem_cons_of_mem _ (loops_trans h hd)
 | .rangeFunc f p x y,c,d,h,hd=>by
  obtain rfl:c=_:=List.mem_singleton.1 h
  exact hd
 | .skip,_,_,h,_=>by cases h
 | .label _,_,_,h,_=>by cases h
 | .ret,_,_,h,_=>by cases h
 | .exit k,_,_,h,_=>by cases h
 | .region id ops x,c,d,h,hd=>by
  obtain rfl:c=_:=List.mem_singleton.1 h
  exact hd
 | .scope _,_,_,h,_=>by cases h
 | .goto _,_,_,h,_=>by cases h
 | .refuse _,_,_,h,_=>by cases h
section
variable {P:Program} {E:Env}
def bodyF(P:Program)(f:FuncId):Code:=((P.funcs[f]?).bind (·.body)).getD .skip
end
end
def kNo:List (Option Nat)->Bool
 | []=>true
 | none::_=>false
 | some k::l=>!l.contains (some k)&&kNo l
noncomputable def lpsF(f:FuncId):List Code:=loopsOf (bodyF Tryz.prog f)
theorem lpsF_eq(f:FuncId):lpsF f=loopsOf (bodyF Tryz.prog f):=rfl
noncomputable def lpC(f:FuncId)(id:Nat):Code:=((lpsF f).find? fun c=>keyC c==some id).getD .skip
noncomputable def lpOk(f:FuncId)(id:Nat):Bool:=kNo ((lpsF f).map keyC)&&((lpsF f).find? fun c=>keyC c==some id).isSome
def lpB(c:Code):Code:=match c with | .loop c=>c|c=>c
def isLp(c:Code):Bool:=match c with | .loop _=>true|_=>false
theorem kNo_inj:∀ {l:List Code},kNo (l.map keyC)=true->∀ {c d:Code} {k:Nat},c∈l->d∈l->keyC c=some k->keyC d=some k->c=d
 | [],_,_,_,_,h,_,_,_=>by cases h
 | x::l,hn,c,d,k,hc,hd,kc,kd=>by
  rw[List.map_cons] at hn
  cases hx:keyC x with
  | none=>rw[hx] at hn;cases hn
  | some j =>
   rw[hx] at hn
   unfold kNo at hn
   simp only[Bool.and_eq_true,Bool.not_eq_true',List.contains_eq_mem,decide_eq_false_iff_not] at hn
   rcases List.mem_cons.1 hc with e1|hc'<;>rcases List.mem_cons.1 hd with e2|hd'
   ·rw[e1,e2]
   ·rw [e1, hx] at kc
    exact absurd (List.mem_map.2 ⟨d,hd',by rw[kd,<- kc]⟩) hn.1
   ·rw [e2, hx] at kd
    exact absurd (List.mem_map.2 ⟨c,hc',by rw[kc,<- kd]⟩) hn.1
   ·exact kNo_inj hn.2 hc' hd' kc kd
theorem lpC_mem{f:FuncId}{id:Nat}(h:lpOk f id=true):kNo ((lpsF f).map keyC)=true/\lpC f id∈lpsF f/\keyC (lpC f id)=some id:=by
 unfold lpOk at h
 simp only[Bool.and_eq_true] at h
 obtain⟨h1,h2⟩:=h
 obtain⟨c,hc⟩:=Option.isSome_iff_exists.1 h2
 have e:lpC f id=c:=by unfold lpC;rw[hc];rfl
 rw[e]
 exact⟨h1,List.mem_of_find?_eq_some hc,by simpa using List.find?_some hc⟩
def LT(f:FuncId)(L:List (Nat×Orc)):Prop:=∀x∈L,OrcOk Tryz.prog (lpC f x.1) x.2
theorem LT.nil{f:FuncId}:LT f []:=fun _ h=>nomatch h
theorem LT.cons{f:FuncId}{id:Nat}{o:Orc}{L:List (Nat×Orc)}(h:OrcOk Tryz.prog (lpC f id) o)(g:LT f L):LT f ((id,o)::L):=fun x hx=>by
 rcases List.mem_cons.1 hx with rfl|hx
 ·exact h
 ·exact g x hx
theorem lpT_mem:∀ {L:List (Nat×Orc)} {k:Nat} {o:Orc},lpT L k=some o->(k,o)∈L
 | [],_,_,h=>by cases h
 | x::l,k,o,h=>by
  unfold lpT at h
  split at h
  ·rename_i e
   cases h
   subst e
   exact List.mem_cons_self ..
  ·exact List.mem_cons_of_mem _ (lpT_mem h)
theorem LT.ok{f:FuncId}{id:Nat}{L:List (Nat×Orc)}(hid:lpOk f id=true)(h:LT f L)(hk:∀x∈L,lpOk f x.1=true):LpOk Tryz.prog (lpsF f) L:=fun c hc o ho=>by
 unfold lpAt at ho
 cases hq:keyC c with
 | none=>rw[hq] at ho;cases ho
 | some k =>
  rw[hq] at ho
  have hm:=lpT_mem (show lpT L k=some o from ho)
  obtain⟨n1,n2,n3⟩:=lpC_mem (hk _ hm)
  rw[kNo_inj n1 hc n2 hq n3]
  exact h _ hm
noncomputable def lpsOk(f:FuncId)(L:List (Nat×Orc)):Bool:=L.all fun x=>lpOk f x.1
theorem lpsOk_at{f:FuncId}{L:List (Nat×Orc)}(h:lpsOk f L=true):∀x∈L,lpOk f x.1=true:=by
 unfold lpsOk at h
 exact List.all_eq_true.1 h
noncomputable abbrev callK (X:List Eff) (K:List Con):CallF:=aFun Tryz.prog (env X) (tab K) 39
theorem snd_ok(X:List Eff)(K:List Con):Sound Tryz.prog (env X) (callK X K):=aFun_ok prog_nm EQ_ok (env_ok X) MT_ok WR_ok (tab_ok K) 39
def Rnd(X:List Eff)(K:List Con)(f:FuncId)(id:Nat)(L:List (Nat×Orc))(n:Nat)(d d':Ds)(e:Ex):Prop:=∃(q:List Bool) (pf:List Pf),runL Tryz.prog (env X) (callK X K) L (lpB (lpC f id)) n d d' q=some (e,pf.map Pf.p)
theorem orc{X:List Eff}{K:List Con}{f:FuncId}{id n:Nat}(N:Nat)(D:Nat->Ds)(T:Nat->List (Nat×Orc)){e:Ex}{d1:Ds}(hid:(lpOk f id&&isLp (lpC f id))=true)(hk:∀k,lpsOk f (T k)=true)(hT:∀k,k<=N->LT f (T k))
  (hr:∀k,k<N->Rnd X K f id (T k) n (D k) (D (k+1)) .nm) (he:Rnd X K f id (T N) n (D N) d1 e) (hne:e ≠ .nm):OrcOk Tryz.prog (lpC f id) ⟨n,D 0,e,d1⟩:=by
 simp only[Bool.and_eq_true] at hid
 obtain⟨h1,h2⟩:=hid
 obtain⟨m1,m2,m3⟩:=lpC_mem h1
 cases hc:lpC f id with
 | loop c =>
  rw[hc] at m2
  have hb:lpB (lpC f id)=c:=by rw[hc];rfl
  have sub:∀k,k<=N->LpOk Tryz.prog (loopsOf c) (T k):=fun k hk' d hd=>(LT.ok h1 (hT k hk') (lpsOk_at (hk k))) d (loops_trans m2 (List.mem_cons_of_mem _ hd))
  refine orc_loop (snd_ok X K) D T sub (fun k hk'=>?_) ?_ hne
  ·obtain ⟨q, pf, h⟩ := hr k hk'
   rw[hb] at h
   exact⟨q,_,h,all_pf pf⟩
  ·obtain ⟨q, pf, h⟩ := he
   rw[hb] at h
   exact⟨q,_,h,all_pf pf⟩
 | _=>rw[hc] at h2;cases h2
noncomputable def nF(f:FuncId):Nat:=((Tryz.prog.funcs[f]?).map (·.ntmps)).getD 0
end Go.Proofs.YtcfpcafnjgpfdaaGreat
