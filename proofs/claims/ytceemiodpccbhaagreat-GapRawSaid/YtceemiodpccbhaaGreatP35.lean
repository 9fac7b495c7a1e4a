import Derived.Test.YtceemiodpccbhaaGreatP34
set_option linter.unusedVariables false
set_option linter.unusedSimpArgs false

namespace Go.Proofs.YtceemiodpccbhaaGreat
open Go.RowKit

set_option maxRecDepth 100000
section
def toShF(l:List It):Option (Sh×List Prop) :=
 match l with
 | [i,.fs _ m n z,k]=>(match asI i,asI k with
  | some x,some y=>if z=7/\(m.all fun i=>i.n==1)=true/\((List.range n).all fun i=>isEd ((m.drop (i*7)).take 7))=true then some (⟨x.1,n,fun i=>edAt ((m.drop (i*7)).take 7),y.1⟩,[]) else none
  | _,_=>none)
 | l=>toSh l
theorem toShF_rep{V W:World}{r:Nat->Nat}{k:Nat}{l:List It}{s:Sh}{ps:List Prop}{x:Value}(h:toShF l=some (s,ps))(hp:All ps)(hr:RepV V W r k ⟨true,l⟩ x):RepV V W r k (shpV s) x:=by
 unfold toShF at h
 split at h
 ·rename_i i o m n z k
  split at h
  ·rename_i x y hx hy
   split at h
   ·rename_i hc
    obtain⟨rfl,c1,c2⟩:=hc
    cases h
    have ht:toSh [i,.fs o m n 7,k]=some (⟨x.1,n,fun i=>edAt ((m.drop (i*7)).take 7),y.1⟩,[∀i,i<n->isEd ((m.drop (i*7)).take 7)=true]):=by
     unfold toSh toRo
     simp only[hx,hy,c1,and_self,if_true]
    exact toSh_rep ht ⟨fun i hi=>List.all_eq_true.1 c2 i (List.mem_range.2 hi),trivial⟩ hr
   ·cases h
  ·cases h
 ·exact toSh_rep h hp hr
def sh2F(f:FuncId)(g:Sh->Sh->AV)(h:∀s u,Fok Tryz.prog f [shpV s,shpV u] (g s u)):Con where
 f:=f
 g:=fun | [⟨true,l⟩,⟨true,m⟩]=>(match toShF l,toShF m with|some z,some y=>some (g z.1 y.1,z.2++y.2)|_,_=>none)|_=>none
 ok:=by
  intro args res ps h' hp
  split at h'<;>try cases h'
  split at h'<;>cases h'
  rename_i he hq
  obtain⟨p1,p2⟩:=All.app hp
  exact (h _ _).pre fun W=>rvs_1 (fun v hv=>toShF_rep he p1 hv) (rvs_1 (fun v hv=>toShF_rep hq p2 hv) rvs_0)
def sh3F(f:FuncId)(g:Sh->Sh->Int->AV)(h:∀s u z,Fok Tryz.prog f [shpV s,shpV u,inV z lim] (g s u z)):Con where
 f:=f
 g:=fun | [⟨true,l⟩,⟨true,m⟩,⟨false,[.i z _]⟩]=>(match toShF l,toShF m with|some x,some y=>some (g x.1 y.1 z,x.2++y.2)|_,_=>none)|_=>none
 ok:=by
  intro args res ps h' hp
  split at h'<;>try cases h'
  split at h'<;>cases h'
  rename_i he hq
  obtain⟨p1,p2⟩:=All.app hp
  exact (h _ _ _).pre fun W=>rvs_1 (fun v hv=>toShF_rep he p1 hv) (rvs_1 (fun v hv=>toShF_rep hq p2 hv) (rvs_1 in_lim rvs_0))
def cGapF:Con:=sh2F 14 (fun s u=>ofV (ofQ s u)) gapOf_fok
def cmpG(g:Gp)(z:Int):Int:=cmpRt g.d ⟨z,0,zero,ofZ 1⟩
def touchQ(a b:Sh):Bool:=(ofQ a b).2&&decide (cmpG (ofQ a b).1 0<=0)
def leastB(a b:Sh)(z:Int):Bool:=(ofQ a b).2&&decide (cmpG (ofQ a b).1 z >= 0)
def bordS(s:Sh):Sh:=⟨1,s.n,s.e,0⟩
def borderQ(a b:Sh):Gp×Bool:=if a.k≠2\/chkS a≠0 then (Gp.no,false) else ofQ (bordS a) b
def holdsQ(a b:Sh)(z:Int):Bool :=
 if (borderQ a b).2=false\/(borderQ a b).1.m=true\/cmpG (borderQ a b).1 z<0 then false else insS a (b.e 0).ax (b.e 0).ay&&!(aroB b a)
def KTo:List Con:=[cGapF,cCmpInt]
theorem touch_fok(s u:Sh):Fok Tryz.prog 19 [shpV s,shpV u] (.one (blV (touchQ s u))):=by
 cases h:(ofQ s u).2 with
 | false=>exact Fok.bb (show touchQ s u=false by unfold touchQ;rw[h];rfl) (fok KTo [false] [pEd s,pEd u,pF h] (by kernel_rfl))
 | true=>exact Fok.bb (show touchQ s u=decide (cmpG (ofQ s u).1 0<=0) by unfold touchQ;rw[h];rfl) (fok KTo [true] [pEd s,pEd u,pT h] (by kernel_rfl))
theorem least2_fok(s u:Sh)(z:Int):Fok Tryz.prog 27 [shpV s,shpV u,inV z lim] (.one (blV (leastB s u z))):=by
 cases h:(ofQ s u).2 with
 | false=>exact Fok.bb (show leastB s u z=false by unfold leastB;rw[h];rfl) (fok KTo [false] [pEd s,pEd u,pF h] (by kernel_rfl))
 | true=>exact Fok.bb (show leastB s u z=decide (cmpG (ofQ s u).1 z >= 0) by unfold leastB;rw[h];rfl) (fok KTo [true] [pEd s,pEd u,pT h] (by kernel_rfl))
def cTouch:Con:=sh2F 19 (fun s u=>.one (blV (touchQ s u))) touch_fok
def cLeastG:Con:=sh3F 27 (fun s u z=>.one (blV (leastB s u z))) least2_fok
def KBo:List Con:=[cGapF,cShChk]
theorem nz_b{z:Int}(h:z≠0):(!(z==0))=true:=by simpa using h
theorem z_b{z:Int}(h:z=0):(!(z==0))=false:=by simpa using h
theorem border_fok(s u:Sh):Fok Tryz.prog 33 [shpV s,shpV u] (ofV (borderQ s u)):=by
 unfold borderQ
 by_cases h1:s.k≠2
 ·rw [if_pos (.inl h1)]
  exact fok KBo [true] [pT (ne_T h1)] (by kernel_rfl)
 by_cases h2:chkS s≠0
 ·rw [if_pos (.inr h2)]
  exact fok KBo [false,true] [pF (ne_F h1),pEd s,pT (nz_b h2)] (by kernel_rfl)
 ·rw [if_neg (fun g => g.elim h1 h2)]
  exact fok KBo [false,false] [pF (ne_F h1),pEd s,pF (z_b (Classical.not_not.1 h2)),pEd s,pEd u] (by kernel_rfl)
def cBord:Con:=sh2F 33 (fun s u=>ofV (borderQ s u)) border_fok
def cAro:Con where
 f:=47
 g:=fun | [⟨true,l⟩,⟨true,m⟩]=>(match toShF l,toShF m with|some z,some y=>some (.one (blV (aroB z.1 y.1)),z.2++(y.2++[z.1.n<=1000,0<y.1.n]))|_,_=>none)|_=>none
 ok:=by
  intro args res ps h' hp
  split at h'<;>try cases h'
  split at h'<;>cases h'
  rename_i he hq
  obtain⟨p1,p2⟩:=All.app hp
  obtain⟨p2,p3⟩:=All.app p2
  exact (around_fok _ _ p3.1 p3.2.1).pre fun W=>rvs_1 (fun v hv=>toShF_rep he p1 hv) (rvs_1 (fun v hv=>toShF_rep hq p2 hv) rvs_0)
def KHo:List Con:=[cBord,cAro,cIns,cCmpInt]
theorem ofQ_ok{a b:Sh}(h:(ofQ a b).2=true):chkS a=0/\chkS b=0:=by
 unfold ofQ at h
 split at h
 ·cases h
 ·rename_i hn
  exact⟨Classical.not_not.1 fun g=>hn (.inl g),Classical.not_not.1 fun g=>hn (.inr g)⟩
theorem borderQ_ok{a b:Sh}(h:(borderQ a b).2=true):(a.k=2/\chkS a=0)/\chkS (bordS a)=0/\chkS b=0:=by
 unfold borderQ at h
 split at h
 ·cases h
 ·rename_i hn
  exact⟨⟨Classical.not_not.1 fun g=>hn (.inl g),Classical.not_not.1 fun g=>hn (.inr g)⟩,ofQ_ok h⟩
theorem holds_fok(s u:Sh)(z:Int):Fok Tryz.prog 25 [shpV s,shpV u,inV z lim] (.one (blV (holdsQ s u z))):=by
 cases h1:(borderQ s u).2 with
 | false=>exact Fok.bb (show holdsQ s u z=false by unfold holdsQ;rw[if_pos (.inl h1)]) (fok KHo [true] [pEd s,pEd u,pT (not_T h1)] (by kernel_rfl))
 | true =>
  cases h2:(borderQ s u).1.m with
  | true=>exact Fok.bb (show holdsQ s u z=false by unfold holdsQ;rw[if_pos (.inr (.inl h2))]) (fok KHo [false,true] [pEd s,pEd u,pF (not_F h1),pT h2] (by kernel_rfl))
  | false =>
   by_cases h3:cmpG (borderQ s u).1 z<0
   ·exact Fok.bb (show holdsQ s u z=false by unfold holdsQ;rw[if_pos (.inr (.inr h3))]) (fok KHo [false,false,true] [pEd s,pEd u,pF (not_F h1),pF h2,pT (decide_eq_true h3)] (by kernel_rfl))
   ·obtain ⟨⟨_, k1⟩, _, k2⟩ := borderQ_ok h1
    have g1:=chk_good k1
    have g2:=chk_good k2
    have n1:=g1.n40
    have n2:=g2.n40
    have m1:=g1.n1
    have m2:=g2.n1
    have e0:holdsQ s u z=(insS s (u.e 0).ax (u.e 0).ay&&!(aroB u s)):=by unfold holdsQ;rw[if_neg (by simp[h1,h2,h3])]
    cases h4:insS s (u.e 0).ax (u.e 0).ay with
    | false=>exact Fok.bb (show holdsQ s u z=false by rw[e0,h4];rfl) (fok KHo [false,false,false,false] [pEd s,pEd u,pF (not_F h1),pF h2,pF (decide_eq_false h3),pP (show 0<=(0:Int)/\(0:Int)<u.n by omega),pEd s,pP (show s.n<=1000 by omega),pF h4] (by kernel_rfl))
    | true=>exact Fok.bb (show holdsQ s u z=!(aroB u s) by rw[e0,h4];rfl) (fok KHo [false,false,false,true] [pEd s,pEd u,pF (not_F h1),pF h2,pF (decide_eq_false h3),pP (show 0<=(0:Int)/\(0:Int)<u.n by omega),pEd s,pP (show s.n<=1000 by omega),pT h4,pEd u,pEd s,pP (show u.n<=1000 by omega),pP (show 0<s.n by omega)] (by kernel_rfl))
def cHolds:Con:=sh3F 25 (fun s u z=>.one (blV (holdsQ s u z))) holds_fok
end
def b01(b:Bool):Int:=if b then 1 else 0
theorem sideZ_zero(x y z:Int):sideZ x y 0=sideZ x z 0:=by
 have e (b:Int):sgn b*sgn (0:Int)=0:=by rw[show sgn (0:Int)=0 by decide,Int.mul_zero]
 unfold sideZ
 rw[e,e,Int.mul_zero,if_pos (Int.le_refl 0),if_pos (Int.le_refl 0)]
theorem goodS_zero(s t:Int)(l:List (Int×Int)):goodS 0 s l=goodS 0 t l:=by
 unfold goodS
 congr 1
 funext p
 rw[sideZ_zero p.1 (s*p.2) (t*p.2)]
theorem digs_len(d:Int):(digs d.natAbs).length=0 <-> d=0:=by
 constructor
 ·intro h
  have h2:=val_digs d.natAbs
  rw[List.eq_nil_of_length_eq_zero h] at h2
  have h3:d.natAbs=0:=h2.symm
  omega
 ·rintro rfl
  show (digs 0).length=0
  rw[digs_zero]
  rfl
theorem countZ_ref{d:Int}{l:List (Int×Int)}{a b:Bool}(ha:goodS d (-1) l=a)(hb:goodS d 1 l=b) :
  countZ d l=if d<0 then 0 else if d=0 then b01 a else b01 a+b01 b:=by
 have fl:∀(s:Sgn) (c:Bool),goodS d s.1 l=c->countL d l [s]=b01 c:=by
  intro s c h
  unfold countL b01
  cases c<;>simp[h]
 have fm:=fl sM a ha
 have fp:=fl sP b hb
 unfold countZ signL
 by_cases h:d<0
 ·rw [if_pos h, if_pos (decide_eq_true h)]
  rfl
 ·rw [if_neg h, if_neg (by simp; omega)]
  by_cases h0:d=0
  ·subst h0
   rw[if_pos rfl,if_pos ((digs_len 0).2 rfl)]
   rw[fp,<- hb,goodS_zero 1 (-1),ha]
  ·rw [if_neg h0, if_neg (fun h1 => h0 ((digs_len d).1 h1))]
   have:countL d l [sP,sM]=countL d l ([sP]++[sM]):=rfl
   rw[this,countL_snoc,fp]
   show b01 b+(if goodS d (-1) l then 1 else 0)=_
   rw[ha]
   unfold b01
   omega
def KX:List Con:=[d1ZOf,d1ZMul,d1ZSub,d2Sign,d06Rad]

set_option maxRecDepth 100000
section
def cP:Nat:=4294967296 ^ 19
theorem daxes_ok(e:Ed)(ho:e.ok=true)(hr:radZ e≠0):Fok Tryz.prog 222 [edV e 3 c26] (.one ⟨true,[.i e.ux 134217728,.i e.uy 134217728,.i e.vx 134217728,.i e.vy 134217728]⟩) :=
 fokB KX [] [pP ho,pP hr,pP hr,pP hr,pP hr] [] (by kernel_rfl)
def d7Axes:Con where
 f:=222
 g:=fun | [⟨true,l⟩]=>(toEd l).map fun e=>(.one ⟨true,[.i e.ux 134217728,.i e.uy 134217728,.i e.vx 134217728,.i e.vy 134217728]⟩,[e.ok=true/\radZ e≠0])|_=>none
 ok:=by
  intro args res ps h hp
  split at h<;>try cases h
  rename_i l
  cases he:toEd l with
  | none=>simp[he] at h
  | some e =>
   simp only[he,Option.map_some,Option.some.injEq,Prod.mk.injEq] at h
   obtain⟨rfl,rfl⟩:=h
   exact (daxes_ok e hp.1.1 hp.1.2).pre fun W=>rvs_1 (ed_ok he hp.1.1) rvs_0
theorem dpos_ok(x y d s:Int)(h:0<=d):Fok Tryz.prog 226 [ziV x cP,inV s 1,ziV y cP,ziV d cP] (.one (blV (decide (sideZ x (s*y) d >= 0)))) :=
 fok KX [] [pP h] (by kernel_rfl)
def d7Pos:Con where
 f:=226
 g:=fun | [⟨true,[.d (.zi x A)]⟩,⟨false,[.i s S]⟩,⟨true,[.d (.zi y B)]⟩,⟨true,[.d (.zi d D)]⟩]=>if (A<=cP/\S<=1)/\(B<=cP/\D<=cP) then some (.one (blV (decide (sideZ x (s*y) d >= 0))),[0<=d]) else none|_=>none
 ok:=by
  intro args res ps h hp
  split at h<;>try cases h
  split at h<;>cases h
  rename_i hb
  exact (dpos_ok _ _ _ _ hp.1).pre fun W=>rvs_1 (zi_up hb.1.1) (rvs_1 (in_up hb.1.2) (rvs_1 (zi_up hb.2.1) (rvs_1 (zi_up hb.2.2) rvs_0)))
def KY:List Con:=[d1ZOf,d1ZMul,d1ZSub,d7Axes,d7Pos,d06Rad]
end

set_option maxRecDepth 100000
section
def bo{x y:Bool}(_:x=y):Bool:=y
def pEb{x y:Bool}(h:x=y):Pf:=⟨x=y,h⟩
theorem Fok.v{f:FuncId}{args:List V1}{a b:Int}{B:Nat}(h:a=b)(H:Fok Tryz.prog f args (.one (inV b B))):Fok Tryz.prog f args (.one (inV a B)):=h ▸ H
theorem w4(p:Nat->Bool):p 0=false\/(p 0=true/\p 1=false)\/(p 0=true/\p 1=true/\p 2=false)\/(p 0=true/\p 1=true/\p 2=true/\p 3=false)\/(p 0=true/\p 1=true/\p 2=true/\p 3=true):=by
 cases p 0<;>cases p 1<;>cases p 2<;>cases p 3<;>simp
def and4(p:Nat->Bool):Bool:=p 0&&p 1&&p 2&&p 3
theorem cz_n{d:Int}{l:List (Int×Int)}(h:d<0):countZ d l=0:=by rw[countZ_ref rfl rfl,if_pos h]
theorem cz_0{d:Int}{l:List (Int×Int)}{a:Bool}{p:Nat->Bool}(hp:goodS d (-1) l=and4 p)(h:0<=d)(h0:d=0)(ha:and4 p=a):countZ d l=b01 a:=by
 rw[countZ_ref (hp.trans ha) rfl,if_neg (by omega),if_pos h0]
theorem cz_1{d:Int}{l:List (Int×Int)}{a b:Bool}{p q:Nat->Bool}(hp:goodS d (-1) l=and4 p)(hq:goodS d 1 l=and4 q)(h:0<=d)(h0:d≠0)(ha:and4 p=a)(hb:and4 q=b):countZ d l=b01 a+b01 b:=by
 rw[countZ_ref (hp.trans ha) (hq.trans hb),if_neg (by omega),if_neg h0]
theorem neg_T{d:Int}(h:d<0):(ofZ d).neg=true:=by simp[ofZ];omega
theorem neg_F{d:Int}(h:0<=d):(ofZ d).neg=false:=by simp[ofZ];omega
theorem len_T{d:Int}(h:d=0):(((ofZ d).d.length:Int)==0)=true:=by
 have:=(digs_len d).2 h
 simp only[beq_iff_eq]
 exact_mod_cast this
theorem len_F{d:Int}(h:d≠0):(((ofZ d).d.length:Int)==0)=false:=by
 have:=mt (digs_len d).1 h
 simp only[beq_eq_false_iff_ne,ne_eq]
 exact_mod_cast this
def crQ(e f:Ed)(s:Int):Nat->Bool
 | 0=>decide (0<=sideZ (0-(laE e f).h) (s*1) (laE e f).delta)
 | 1=>decide (0<=sideZ ((laE e f).S-(0-(laE e f).h)) (s * -1) (laE e f).delta)
 | 2=>decide (0<=sideZ ((laE e f).S*(laE e f).u1-(laE e f).h*(laE e f).u2) (s*(laE e f).u2) (laE e f).delta)
 | _=>decide (0<=sideZ ((laE e f).S*(laE e f).v1-(laE e f).h*(laE e f).v2) (s*(laE e f).v2) (laE e f).delta)
theorem crQ_ok(e f:Ed)(s:Int):goodS (laE e f).delta s (laE e f).list=and4 (crQ e f s):=by
 unfold goodS LA.list and4
 simp only[List.all_cons,List.all_nil,Bool.and_true,Bool.and_assoc]
 rfl
abbrev CrG(e f:Ed):Prop:=Fok Tryz.prog 181 [edV e 3 c26,edV f 3 c26] (.one (inV (crossZ e f) lim))
theorem cr_w0(e f:Ed)(h2:f.ok=true)(hx:f.ok=true/\radZ f≠0)(hd:0<=(laE e f).delta)(g0:crQ e f (-1) 0=false):CrG e f:=by
 have ga:and4 (crQ e f (-1))=false:=(by unfold and4;simp[g0])
 by_cases h0:(laE e f).delta=0
 ·exact Fok.v (cz_0 (crQ_ok _ _ _) hd h0 ga) (fok KY [false,false,true] [pP h2,pF (neg_F hd),pP hd,pF g0,pP hx,pT (len_T h0)] (by kernel_rfl))
 rcases w4 (crQ e f 1) with t0|⟨t0,t1⟩|⟨t0,t1,t2⟩|⟨t0,t1,t2,t3⟩|⟨t0,t1,t2,t3⟩
 ·exact Fok.v (cz_1 (crQ_ok _ _ _) (crQ_ok _ _ _) hd h0 ga (b:=false) (by unfold and4;simp[t0])) (fok KY [false,false,false,false] [pP h2,pF (neg_F hd),pP hd,pF g0,pP hx,pF (len_F h0),pP hd,pF t0,pP hx] (by kernel_rfl))
 ·exact Fok.v (cz_1 (crQ_ok _ _ _) (crQ_ok _ _ _) hd h0 ga (b:=false) (by unfold and4;simp[t0,t1])) (fok KY [false,false,false,true,false] [pP h2,pF (neg_F hd),pP hd,pF g0,pP hx,pF (len_F h0),pP hd,pT t0,pP hd,pP hx,pF t1] (by kernel_rfl))
 ·exact Fok.v (cz_1 (crQ_ok _ _ _) (crQ_ok _ _ _) hd h0 ga (b:=false) (by unfold and4;simp[t0,t1,t2])) (fok KY [false,false,false,true,true,false] [pP h2,pF (neg_F hd),pP hd,pF g0,pP hx,pF (len_F h0),pP hd,pT t0,pP hd,pP hx,pT t1,pP hd,pF t2] (by kernel_rfl))
 ·exact Fok.v (cz_1 (crQ_ok _ _ _) (crQ_ok _ _ _) hd h0 ga (b:=false) (by unfold and4;simp[t0,t1,t2,t3])) (fok KY [false,false,false,true,true,true,false] [pP h2,pF (neg_F hd),pP hd,pF g0,pP hx,pF (len_F h0),pP hd,pT t0,pP hd,pP hx,pT t1,pP hd,pT t2,pP hd,pF t3] (by kernel_rfl))
 ·exact Fok.v (cz_1 (crQ_ok _ _ _) (crQ_ok _ _ _) hd h0 ga (b:=true) (by unfold and4;simp[t0,t1,t2,t3])) (fok KY [false,false,false,true,true,true,true] [pP h2,pF (neg_F hd),pP hd,pF g0,pP hx,pF (len_F h0),pP hd,pT t0,pP hd,pP hx,pT t1,pP hd,pT t2,pP hd,pT t3] (by kernel_rfl))
theorem cr_w1(e f:Ed)(h2:f.ok=true)(hx:f.ok=true/\radZ f≠0)(hd:0<=(laE e f).delta)(g0:crQ e f (-1) 0=true)(g1:crQ e f (-1) 1=false):CrG e f:=by
 have ga:and4 (crQ e f (-1))=false:=(by unfold and4;simp[g0,g1])
 by_cases h0:(laE e f).delta=0
 ·exact Fok.v (cz_0 (crQ_ok _ _ _) hd h0 ga) (fok KY [false,true,false,true] [pP h2,pF (neg_F hd),pP hd,pT g0,pP hd,pP hx,pF g1,pT (len_T h0)] (by kernel_rfl))
 rcases w4 (crQ e f 1) with t0|⟨t0,t1⟩|⟨t0,t1,t2⟩|⟨t0,t1,t2,t3⟩|⟨t0,t1,t2,t3⟩
 ·exact Fok.v (cz_1 (crQ_ok _ _ _) (crQ_ok _ _ _) hd h0 ga (b:=false) (by unfold and4;simp[t0])) (fok KY [false,true,false,false,false] [pP h2,pF (neg_F hd),pP hd,pT g0,pP hd,pP hx,pF g1,pF (len_F h0),pP hd,pF t0,pP hx] (by kernel_rfl))
 ·exact Fok.v (cz_1 (crQ_ok _ _ _) (crQ_ok _ _ _) hd h0 ga (b:=false) (by unfold and4;simp[t0,t1])) (fok KY [false,true,false,false,true,false] [pP h2,pF (neg_F hd),pP hd,pT g0,pP hd,pP hx,pF g1,pF (len_F h0),pP hd,pT t0,pP hd,pP hx,pF t1] (by kernel_rfl))
 ·exact Fok.v (cz_1 (crQ_ok _ _ _) (crQ_ok _ _ _) hd h0 ga (b:=false) (by unfold and4;simp[t0,t1,t2])) (fok KY [false,true,false,false,true,true,false] [pP h2,pF (neg_F hd),pP hd,pT g0,pP hd,pP hx,pF g1,pF (len_F h0),pP hd,pT t0,pP hd,pP hx,pT t1,pP hd,pF t2] (by kernel_rfl))
 ·exact Fok.v (cz_1 (crQ_ok _ _ _) (crQ_ok _ _ _) hd h0 ga (b:=false) (by unfold and4;simp[t0,t1,t2,t3])) (fok KY [false,true,false,false,true,true,true,false] [pP h2,pF (neg_F hd),pP hd,pT g0,pP hd,pP hx,pF g1,pF (len_F h0),pP hd,pT t0,pP hd,pP hx,pT t1,pP hd,pT t2,pP hd,pF t3] (by kernel_rfl))
 ·exact Fok.v (cz_1 (crQ_ok _ _ _) (crQ_ok _ _ _) hd h0 ga (b:=true) (by unfold and4;simp[t0,t1,t2,t3])) (fok KY [false,true,false,false,true,true,true,true] [pP h2,pF (neg_F hd),pP hd,pT g0,pP hd,pP hx,pF g1,pF (len_F h0),pP hd,pT t0,pP hd,pP hx,pT t1,pP hd,pT t2,pP hd,pT t3] (by kernel_rfl))
theorem cr_w2(e f:Ed)(h2:f.ok=true)(hx:f.ok=true/\radZ f≠0)(hd:0<=(laE e f).delta)(g0:crQ e f (-1) 0=true)(g1:crQ e f (-1) 1=true)(g2:crQ e f (-1) 2=false):CrG e f:=by
 have ga:and4 (crQ e f (-1))=false:=(by unfold and4;simp[g0,g1,g2])
 by_cases h0:(laE e f).delta=0
 ·exact Fok.v (cz_0 (crQ_ok _ _ _) hd h0 ga) (fok KY [false,true,true,false,true] [pP h2,pF (neg_F hd),pP hd,pT g0,pP hd,pP hx,pT g1,pP hd,pF g2,pT (len_T h0)] (by kernel_rfl))
 rcases w4 (crQ e f 1) with t0|⟨t0,t1⟩|⟨t0,t1,t2⟩|⟨t0,t1,t2,t3⟩|⟨t0,t1,t2,t3⟩
 ·exact Fok.v (cz_1 (crQ_ok _ _ _) (crQ_ok _ _ _) hd h0 ga (b:=false) (by unfold and4;simp[t0])) (fok KY [false,true,true,false,false,false] [pP h2,pF (neg_F hd),pP hd,pT g0,pP hd,pP hx,pT g1,pP hd,pF g2,pF (len_F h0),pP hd,pF t0,pP hx] (by kernel_rfl))
 ·exact Fok.v (cz_1 (crQ_ok _ _ _) (crQ_ok _ _ _) hd h0 ga (b:=false) (by unfold and4;simp[t0,t1])) (fok KY [false,true,true,false,false,true,false] [pP h2,pF (neg_F hd),pP hd,pT g0,pP hd,pP hx,pT g1,pP hd,pF g2,pF (len_F h0),pP hd,pT t0,pP hd,pP hx,pF t1] (by kernel_rfl))
 ·exact Fok.v (cz_1 (crQ_ok _ _ _) (crQ_ok _ _ _) hd h0 ga (b:=false) (by unfold and4;simp[t0,t1,t2])) (fok KY [false,true,true,false,false,true,true,false] [pP h2,pF (neg_F hd),pP hd,pT g0,pP hd,pP hx,pT g1,pP hd,pF g2,pF (len_F h0),pP hd,pT t0,pP hd,pP hx,pT t1,pP hd,pF t2] (by kernel_rfl))
 ·exact Fok.v (cz_1 (crQ_ok _ _ _) (crQ_ok _ _ _) hd h0 ga (b:=false) (by unfold and4;simp[t0,t1,t2,t3])) (fok KY [false,true,true,false,false,true,true,true,false] [pP h2,pF (neg_F hd),pP hd,pT g0,pP hd,pP hx,pT g1,pP hd,pF g2,pF (len_F h0),pP hd,pT t0,pP hd,pP hx,pT t1,pP hd,pT t2,pP hd,pF t3] (by kernel_rfl))
 ·exact Fok.v (cz_1 (crQ_ok _ _ _) (crQ_ok _ _ _) hd h0 ga (b:=true) (by unfold and4;simp[t0,t1,t2,t3])) (fok KY [false,true,true,false,false,true,true,true,true] [pP h2,pF (neg_F hd),pP hd,pT g0,pP hd,pP hx,pT g1,pP hd,pF g2,pF (len_F h0),pP hd,pT t0,pP hd,pP hx,pT t1,pP hd,pT t2,pP hd,pT t3] (by kernel_rfl))
theorem cr_w3(e f:Ed)(h2:f.ok=true)(hx:f.ok=true/\radZ f≠0)(hd:0<=(laE e f).delta)(g0:crQ e f (-1) 0=true)(g1:crQ e f (-1) 1=true)(g2:crQ e f (-1) 2=true)(g3:crQ e f (-1) 3=false):CrG e f:=by
 have ga:and4 (crQ e f (-1))=false:=(by unfold and4;simp[g0,g1,g2,g3])
 by_cases h0:(laE e f).delta=0
 ·exact Fok.v (cz_0 (crQ_ok _ _ _) hd h0 ga) (fok KY [false,true,true,true,false,true] [pP h2,pF (neg_F hd),pP hd,pT g0,pP hd,pP hx,pT g1,pP hd,pT g2,pP hd,pF g3,pT (len_T h0)] (by kernel_rfl))
 rcases w4 (crQ e f 1) with t0|⟨t0,t1⟩|⟨t0,t1,t2⟩|⟨t0,t1,t2,t3⟩|⟨t0,t1,t2,t3⟩
 ·exact Fok.v (cz_1 (crQ_ok _ _ _) (crQ_ok _ _ _) hd h0 ga (b:=false) (by unfold and4;simp[t0])) (fok KY [false,true,true,true,false,false,false] [pP h2,pF (neg_F hd),pP hd,pT g0,pP hd,pP hx,pT g1,pP hd,pT g2,pP hd,pF g3,pF (len_F h0),pP hd,pF t0,pP hx] (by kernel_rfl))
 ·exact Fok.v (cz_1 (crQ_ok _ _ _) (crQ_ok _ _ _) hd h0 ga (b:=false) (by unfold and4;simp[t0,t1])) (fok KY [false,true,true,true,false,false,true,false] [pP h2,pF (neg_F hd),pP hd,pT g0,pP hd,pP hx,pT g1,pP hd,pT g2,pP hd,pF g3,pF (len_F h0),pP hd,pT t0,pP hd,pP hx,pF t1] (by kernel_rfl))
 ·exact Fok.v (cz_1 (crQ_ok _ _ _) (crQ_ok _ _ _) hd h0 ga (b:=false) (by unfold and4;simp[t0,t1,t2])) (fok KY [false,true,true,true,false,false,true,true,false] [pP h2,pF (neg_F hd),pP hd,pT g0,pP hd,pP hx,pT g1,pP hd,pT g2,pP hd,pF g3,pF (len_F h0),pP hd,pT t0,pP hd,pP hx,pT t1,pP hd,pF t2] (by kernel_rfl))
 ·exact Fok.v (cz_1 (crQ_ok _ _ _) (crQ_ok _ _ _) hd h0 ga (b:=false) (by unfold and4;simp[t0,t1,t2,t3])) (fok KY [false,true,true,true,false,false,true,true,true,false] [pP h2,pF (neg_F hd),pP hd,pT g0,pP hd,pP hx,pT g1,pP hd,pT g2,pP hd,pF g3,pF (len_F h0),pP hd,pT t0,pP hd,pP hx,pT t1,pP hd,pT t2,pP hd,pF t3] (by kernel_rfl))
 ·exact Fok.v (cz_1 (crQ_ok _ _ _) (crQ_ok _ _ _) hd h0 ga (b:=true) (by unfold and4;simp[t0,t1,t2,t3])) (fok KY [false,true,true,true,false,false,true,true,true,true] [pP h2,pF (neg_F hd),pP hd,pT g0,pP hd,pP hx,pT g1,pP hd,pT g2,pP hd,pF g3,pF (len_F h0),pP hd,pT t0,pP hd,pP hx,pT t1,pP hd,pT t2,pP hd,pT t3] (by kernel_rfl))
theorem cr_w4(e f:Ed)(h2:f.ok=true)(hx:f.ok=true/\radZ f≠0)(hd:0<=(laE e f).delta)(g0:crQ e f (-1) 0=true)(g1:crQ e f (-1) 1=true)(g2:crQ e f (-1) 2=true)(g3:crQ e f (-1) 3=true):CrG e f:=by
 have ga:and4 (crQ e f (-1))=true:=(by unfold and4;simp[g0,g1,g2,g3])
 by_cases h0:(laE e f).delta=0
 ·exact Fok.v (cz_0 (crQ_ok _ _ _) hd h0 ga) (fok KY [false,true,true,true,true,true] [pP h2,pF (neg_F hd),pP hd,pT g0,pP hd,pP hx,pT g1,pP hd,pT g2,pP hd,pT g3,pT (len_T h0)] (by kernel_rfl))
 rcases w4 (crQ e f 1) with t0|⟨t0,t1⟩|⟨t0,t1,t2⟩|⟨t0,t1,t2,t3⟩|⟨t0,t1,t2,t3⟩
 ·exact Fok.v (cz_1 (crQ_ok _ _ _) (crQ_ok _ _ _) hd h0 ga (b:=false) (by unfold and4;simp[t0])) (fok KY [false,true,true,true,true,false,false] [pP h2,pF (neg_F hd),pP hd,pT g0,pP hd,pP hx,pT g1,pP hd,pT g2,pP hd,pT g3,pF (len_F h0),pP hd,pF t0,pP hx] (by kernel_rfl))
 ·exact Fok.v (cz_1 (crQ_ok _ _ _) (crQ_ok _ _ _) hd h0 ga (b:=false) (by unfold and4;simp[t0,t1])) (fok KY [false,true,true,true,true,false,true,false] [pP h2,pF (neg_F hd),pP hd,pT g0,pP hd,pP hx,pT g1,pP hd,pT g2,pP hd,pT g3,pF (len_F h0),pP hd,pT t0,pP hd,pP hx,pF t1] (by kernel_rfl))
 ·exact Fok.v (cz_1 (crQ_ok _ _ _) (crQ_ok _ _ _) hd h0 ga (b:=false) (by unfold and4;simp[t0,t1,t2])) (fok KY [false,true,true,true,true,false,true,true,false] [pP h2,pF (neg_F hd),pP hd,pT g0,pP hd,pP hx,pT g1,pP hd,pT g2,pP hd,pT g3,pF (len_F h0),pP hd,pT t0,pP hd,pP hx,pT t1,pP hd,pF t2] (by kernel_rfl))
 ·exact Fok.v (cz_1 (crQ_ok _ _ _) (crQ_ok _ _ _) hd h0 ga (b:=false) (by unfold and4;simp[t0,t1,t2,t3])) (fok KY [false,true,true,true,true,false,true,true,true,false] [pP h2,pF (neg_F hd),pP hd,pT g0,pP hd,pP hx,pT g1,pP hd,pT g2,pP hd,pT g3,pF (len_F h0),pP hd,pT t0,pP hd,pP hx,pT t1,pP hd,pT t2,pP hd,pF t3] (by kernel_rfl))
 ·exact Fok.v (cz_1 (crQ_ok _ _ _) (crQ_ok _ _ _) hd h0 ga (b:=true) (by unfold and4;simp[t0,t1,t2,t3])) (fok KY [false,true,true,true,true,false,true,true,true,true] [pP h2,pF (neg_F hd),pP hd,pT g0,pP hd,pP hx,pT g1,pP hd,pT g2,pP hd,pT g3,pF (len_F h0),pP hd,pT t0,pP hd,pP hx,pT t1,pP hd,pT t2,pP hd,pT t3] (by kernel_rfl))
theorem crossed_ok(e f:Ed)(h2:f.ok=true)(hr:radZ f≠0):CrG e f:=by
 have hx:=And.intro h2 hr
 by_cases hd:0<=(laE e f).delta
 ·rcases w4 (crQ e f (-1)) with t0 | ⟨t0, t1⟩ | ⟨t0, t1, t2⟩ | ⟨t0, t1, t2, t3⟩ | ⟨t0, t1, t2, t3⟩
  ·exact cr_w0 e f h2 hx hd t0
  ·exact cr_w1 e f h2 hx hd t0 t1
  ·exact cr_w2 e f h2 hx hd t0 t1 t2
  ·exact cr_w3 e f h2 hx hd t0 t1 t2 t3
  ·exact cr_w4 e f h2 hx hd t0 t1 t2 t3
 ·exact Fok.v (cz_n (Int.not_le.1 hd)) (fok KY [true] [pP h2,pT (neg_T (Int.not_le.1 hd))] (by kernel_rfl))
def arD(e f:Ed):Int:=2*(aaE e f).S*2*((aaE e f).r*(aaE e f).r)-(aaE e f).k*(aaE e f).k
theorem arD_eq(e f:Ed):arD e f=(aaE e f).delta:=by unfold arD AA.delta;grind
def arP(e f:Ed)(x y:Int):Int:=(0-(f.cy-e.cy))*x+(f.cx-e.cx)*y
def arQ(e f:Ed)(s:Int):Nat->Bool
 | 0=>decide (0<=sideZ ((aaE e f).k*(aaE e f).du) (s*arP e f e.ux e.uy) (arD e f))
 | 1=>decide (0<=sideZ (((aaE e f).k-2*(aaE e f).S)*(aaE e f).ds) (s*arP e f f.ux f.uy) (arD e f))
 | 2=>decide (0<=sideZ ((aaE e f).k*(aaE e f).dv) (s*arP e f e.vx e.vy) (arD e f))
 | _=>decide (0<=sideZ (((aaE e f).k-2*(aaE e f).S)*(aaE e f).dt) (s*arP e f f.vx f.vy) (arD e f))
theorem arQ_ok(e f:Ed)(s:Int):goodS (arD e f) s (aaE e f).list=and4 (arQ e f s):=by
 unfold goodS AA.list and4 arQ arP
 simp only[List.all_cons,List.all_nil,Bool.and_true,Bool.and_assoc,Int.zero_sub]
 rw[Bool.and_left_comm (decide (0<=sideZ ((aaE e f).k*(aaE e f).dv) _ _))]
 rfl
theorem arcs_0{e f:Ed}(hc:(e.cx==f.cx&&e.cy==f.cy)=true):arcsZ e f=sameZ (radZ e==radZ f) (e.ux==f.ux&&e.uy==f.uy) (e.ux==f.vx&&e.uy==f.vy) (e.vx==f.ux&&e.vy==f.uy) (e.vx==f.vx&&e.vy==f.vy):=by
 simp only[Bool.and_eq_true,beq_iff_eq] at hc
 exact if_pos hc
theorem arcs_1{e f:Ed}(hc:(e.cx==f.cx&&e.cy==f.cy)=false):arcsZ e f=countZ (arD e f) (aaE e f).list:=by
 rw[arD_eq]
 exact if_neg fun ⟨h,g⟩=>by rw[h,g] at hc;simp at hc
abbrev ArF(e f:Ed)(z:Int):Prop:=Fok Tryz.prog 179 [edV e 3 c26,edV f 3 c26] (.one (inV z lim))
abbrev ArG(e f:Ed):Prop:=ArF e f (countZ (arD e f) (aaE e f).list)
theorem arcs_same(e f:Ed)(h1:e.ok=true)(h2:f.ok=true)(hx:e.ok=true/\radZ e≠0)(hy:f.ok=true/\radZ f≠0)(hc:(e.cx==f.cx&&e.cy==f.cy)=true):ArF e f (sameZ (radZ e==radZ f) (e.ux==f.ux&&e.uy==f.uy) (e.ux==f.vx&&e.uy==f.vy) (e.vx==f.ux&&e.vy==f.uy) (e.vx==f.vx&&e.vy==f.vy)):=by
 cases hr:(radZ e==radZ f) with
 | false =>
  rw[show ∀a b c d,sameZ false a b c d=0 by decide]
  exact fok KY [true,true] [pP h1,pP h2,pP hx,pP hy,pT hc,pT (by rw[bne,hr];rfl:(radZ e != radZ f)=true)] (by kernel_rfl)
 | true =>
  have hr':(radZ e != radZ f)=false:=by rw[bne,hr];rfl
  generalize g1:(e.ux==f.ux&&e.uy==f.uy)=a
  generalize g2:(e.ux==f.vx&&e.uy==f.vy)=b
  generalize g3:(e.vx==f.ux&&e.vy==f.uy)=c
  generalize g4:(e.vx==f.vx&&e.vy==f.vy)=d
  cases a<;>cases b<;>cases c<;>cases d <;>
   exact fok KY [true,false,bo g1,bo g2,bo g3,bo g4] [pP h1,pP h2,pP hx,pP hy,pT hc,pF hr',pEb g1,pEb g2,pEb g3,pEb g4] (by kernel_rfl)
theorem ar_w0(e f:Ed)(h1:e.ok=true)(h2:f.ok=true)(hx:e.ok=true/\radZ e≠0)(hy:f.ok=true/\radZ f≠0)(hc:(e.cx==f.cx&&e.cy==f.cy)=false)(hd:0<=arD e f)(g0:arQ e f (-1) 0=false):ArG e f:=by
 have ga:and4 (arQ e f (-1))=false:=(by unfold and4;simp[g0])
 by_cases h0:arD e f=0
 ·exact Fok.v (cz_0 (arQ_ok _ _ _) hd h0 ga) (fok KY [false,false,false,true] [pP h1,pP h2,pP hx,pP hy,pF hc,pF (neg_F hd),pP hd,pF g0,pT (len_T h0)] (by kernel_rfl))
 rcases w4 (arQ e f 1) with t0|⟨t0,t1⟩|⟨t0,t1,t2⟩|⟨t0,t1,t2,t3⟩|⟨t0,t1,t2,t3⟩
 ·exact Fok.v (cz_1 (arQ_ok _ _ _) (arQ_ok _ _ _) hd h0 ga (b:=false) (by unfold and4;simp[t0])) (fok KY [false,false,false,false,false] [pP h1,pP h2,pP hx,pP hy,pF hc,pF (neg_F hd),pP hd,pF g0,pF (len_F h0),pP hd,pF t0] (by kernel_rfl))
 ·exact Fok.v (cz_1 (arQ_ok _ _ _) (arQ_ok _ _ _) hd h0 ga (b:=false) (by unfold and4;simp[t0,t1])) (fok KY [false,false,false,false,true,false] [pP h1,pP h2,pP hx,pP hy,pF hc,pF (neg_F hd),pP hd,pF g0,pF (len_F h0),pP hd,pT t0,pP hd,pF t1] (by kernel_rfl))
 ·exact Fok.v (cz_1 (arQ_ok _ _ _) (arQ_ok _ _ _) hd h0 ga (b:=false) (by unfold and4;simp[t0,t1,t2])) (fok KY [false,false,false,false,true,true,false] [pP h1,pP h2,pP hx,pP hy,pF hc,pF (neg_F hd),pP hd,pF g0,pF (len_F h0),pP hd,pT t0,pP hd,pT t1,pP hd,pF t2] (by kernel_rfl))
 ·exact Fok.v (cz_1 (arQ_ok _ _ _) (arQ_ok _ _ _) hd h0 ga (b:=false) (by unfold and4;simp[t0,t1,t2,t3])) (fok KY [false,false,false,false,true,true,true,false] [pP h1,pP h2,pP hx,pP hy,pF hc,pF (neg_F hd),pP hd,pF g0,pF (len_F h0),pP hd,pT t0,pP hd,pT t1,pP hd,pT t2,pP hd,pF t3] (by kernel_rfl))
 ·exact Fok.v (cz_1 (arQ_ok _ _ _) (arQ_ok _ _ _) hd h0 ga (b:=true) (by unfold and4;simp[t0,t1,t2,t3])) (fok KY [false,false,false,false,true,true,true,true] [pP h1,pP h2,pP hx,pP hy,pF hc,pF (neg_F hd),pP hd,pF g0,pF (len_F h0),pP hd,pT t0,pP hd,pT t1,pP hd,pT t2,pP hd,pT t3] (by kernel_rfl))
theorem ar_w1(e f:Ed)(h1:e.ok=true)(h2:f.ok=true)(hx:e.ok=true/\radZ e≠0)(hy:f.ok=true/\radZ f≠0)(hc:(e.cx==f.cx&&e.cy==f.cy)=false)(hd:0<=arD e f)(g0:arQ e f (-1) 0=true)(g1:arQ e f (-1) 1=false):ArG e f:=by
 have ga:and4 (arQ e f (-1))=false:=(by unfold and4;simp[g0,g1])
 by_cases h0:arD e f=0
 ·exact Fok.v (cz_0 (arQ_ok _ _ _) hd h0 ga) (fok KY [false,false,true,false,true] [pP h1,pP h2,pP hx,pP hy,pF hc,pF (neg_F hd),pP hd,pT g0,pP hd,pF g1,pT (len_T h0)] (by kernel_rfl))
 rcases w4 (arQ e f 1) with t0|⟨t0,t1⟩|⟨t0,t1,t2⟩|⟨t0,t1,t2,t3⟩|⟨t0,t1,t2,t3⟩
 ·exact Fok.v (cz_1 (arQ_ok _ _ _) (arQ_ok _ _ _) hd h0 ga (b:=false) (by unfold and4;simp[t0])) (fok KY [false,false,true,false,false,false] [pP h1,pP h2,pP hx,pP hy,pF hc,pF (neg_F hd),pP hd,pT g0,pP hd,pF g1,pF (len_F h0),pP hd,pF t0] (by kernel_rfl))
 ·exact Fok.v (cz_1 (arQ_ok _ _ _) (arQ_ok _ _ _) hd h0 ga (b:=false) (by unfold and4;simp[t0,t1])) (fok KY [false,false,true,false,false,true,false] [pP h1,pP h2,pP hx,pP hy,pF hc,pF (neg_F hd),pP hd,pT g0,pP hd,pF g1,pF (len_F h0),pP hd,pT t0,pP hd,pF t1] (by kernel_rfl))
 ·exact Fok.v (cz_1 (arQ_ok _ _ _) (arQ_ok _ _ _) hd h0 ga (b:=false) (by unfold and4;simp[t0,t1,t2])) (fok KY [false,false,true,false,false,true,true,false] [pP h1,pP h2,pP hx,pP hy,pF hc,pF (neg_F hd),pP hd,pT g0,pP hd,pF g1,pF (len_F h0),pP hd,pT t0,pP hd,pT t1,pP hd,pF t2] (by kernel_rfl))
 ·exact Fok.v (cz_1 (arQ_ok _ _ _) (arQ_ok _ _ _) hd h0 ga (b:=false) (by unfold and4;simp[t0,t1,t2,t3])) (fok KY [false,false,true,false,false,true,true,true,false] [pP h1,pP h2,pP hx,pP hy,pF hc,pF (neg_F hd),pP hd,pT g0,pP hd,pF g1,pF (len_F h0),pP hd,pT t0,pP hd,pT t1,pP hd,pT t2,pP hd,pF t3] (by kernel_rfl))
 ·exact Fok.v (cz_1 (arQ_ok _ _ _) (arQ_ok _ _ _) hd h0 ga (b:=true) (by unfold and4;simp[t0,t1,t2,t3])) (fok KY [false,false,true,false,false,true,true,true,true] [pP h1,pP h2,pP hx,pP hy,pF hc,pF (neg_F hd),pP hd,pT g0,pP hd,pF g1,pF (len_F h0),pP hd,pT t0,pP hd,pT t1,pP hd,pT t2,pP hd,pT t3] (by kernel_rfl))
theorem ar_w2(e f:Ed)(h1:e.ok=true)(h2:f.ok=true)(hx:e.ok=true/\radZ e≠0)(hy:f.ok=true/\radZ f≠0)(hc:(e.cx==f.cx&&e.cy==f.cy)=false)(hd:0<=arD e f)(g0:arQ e f (-1) 0=true)(g1:arQ e f (-1) 1=true)(g2:arQ e f (-1) 2=false):ArG e f:=by
 have ga:and4 (arQ e f (-1))=false:=(by unfold and4;simp[g0,g1,g2])
 by_cases h0:arD e f=0
 ·exact Fok.v (cz_0 (arQ_ok _ _ _) hd h0 ga) (fok KY [false,false,true,true,false,true] [pP h1,pP h2,pP hx,pP hy,pF hc,pF (neg_F hd),pP hd,pT g0,pP hd,pT g1,pP hd,pF g2,pT (len_T h0)] (by kernel_rfl))
 rcases w4 (arQ e f 1) with t0|⟨t0,t1⟩|⟨t0,t1,t2⟩|⟨t0,t1,t2,t3⟩|⟨t0,t1,t2,t3⟩
 ·exact Fok.v (cz_1 (arQ_ok _ _ _) (arQ_ok _ _ _) hd h0 ga (b:=false) (by unfold and4;simp[t0])) (fok KY [false,false,true,true,false,false,false] [pP h1,pP h2,pP hx,pP hy,pF hc,pF (neg_F hd),pP hd,pT g0,pP hd,pT g1,pP hd,pF g2,pF (len_F h0),pP hd,pF t0] (by kernel_rfl))
 ·exact Fok.v (cz_1 (arQ_ok _ _ _) (arQ_ok _ _ _) hd h0 ga (b:=false) (by unfold and4;simp[t0,t1])) (fok KY [false,false,true,true,false,false,true,false] [pP h1,pP h2,pP hx,pP hy,pF hc,pF (neg_F hd),pP hd,pT g0,pP hd,pT g1,pP hd,pF g2,pF (len_F h0),pP hd,pT t0,pP hd,pF t1] (by kernel_rfl))
 ·exact Fok.v (cz_1 (arQ_ok _ _ _) (arQ_ok _ _ _) hd h0 ga (b:=false) (by unfold and4;simp[t0,t1,t2])) (fok KY [false,false,true,true,false,false,true,true,false] [pP h1,pP h2,pP hx,pP hy,pF hc,pF (neg_F hd),pP hd,pT g0,pP hd,pT g1,pP hd,pF g2,pF (len_F h0),pP hd,pT t0,pP hd,pT t1,pP hd,pF t2] (by kernel_rfl))
 ·exact Fok.v (cz_1 (arQ_ok _ _ _) (arQ_ok _ _ _) hd h0 ga (b:=false) (by unfold and4;simp[t0,t1,t2,t3])) (fok KY [false,false,true,true,false,false,true,true,true,false] [pP h1,pP h2,pP hx,pP hy,pF hc,pF (neg_F hd),pP hd,pT g0,pP hd,pT g1,pP hd,pF g2,pF (len_F h0),pP hd,pT t0,pP hd,pT t1,pP hd,pT t2,pP hd,pF t3] (by kernel_rfl))
 ·exact Fok.v (cz_1 (arQ_ok _ _ _) (arQ_ok _ _ _) hd h0 ga (b:=true) (by unfold and4;simp[t0,t1,t2,t3])) (fok KY [false,false,true,true,false,false,true,true,true,true] [pP h1,pP h2,pP hx,pP hy,pF hc,pF (neg_F hd),pP hd,pT g0,pP hd,pT g1,pP hd,pF g2,pF (len_F h0),pP hd,pT t0,pP hd,pT t1,pP hd,pT t2,pP hd,pT t3] (by kernel_rfl))
theorem ar_w3(e f:Ed)(h1:e.ok=true)(h2:f.ok=true)(hx:e.ok=true/\radZ e≠0)(hy:f.ok=true/\radZ f≠0)(hc:(e.cx==f.cx&&e.cy==f.cy)=false)(hd:0<=arD e f)(g0:arQ e f (-1) 0=true)(g1:arQ e f (-1) 1=true)(g2:arQ e f (-1) 2=true)(g3:arQ e f (-1) 3=false):ArG e f:=by
 have ga:and4 (arQ e f (-1))=false:=(by unfold and4;simp[g0,g1,g2,g3])
 by_cases h0:arD e f=0
 ·exact Fok.v (cz_0 (arQ_ok _ _ _) hd h0 ga) (fok KY [false,false,true,true,true,false,true] [pP h1,pP h2,pP hx,pP hy,pF hc,pF (neg_F hd),pP hd,pT g0,pP hd,pT g1,pP hd,pT g2,pP hd,pF g3,pT (len_T h0)] (by kernel_rfl))
 rcases w4 (arQ e f 1) with t0|⟨t0,t1⟩|⟨t0,t1,t2⟩|⟨t0,t1,t2,t3⟩|⟨t0,t1,t2,t3⟩
 ·exact Fok.v (cz_1 (arQ_ok _ _ _) (arQ_ok _ _ _) hd h0 ga (b:=false) (by unfold and4;simp[t0])) (fok KY [false,false,true,true,true,false,false,false] [pP h1,pP h2,pP hx,pP hy,pF hc,pF (neg_F hd),pP hd,pT g0,pP hd,pT g1,pP hd,pT g2,pP hd,pF g3,pF (len_F h0),pP hd,pF t0] (by kernel_rfl))
 ·exact Fok.v (cz_1 (arQ_ok _ _ _) (arQ_ok _ _ _) hd h0 ga (b:=false) (by unfold and4;simp[t0,t1])) (fok KY [false,false,true,true,true,false,false,true,false] [pP h1,pP h2,pP hx,pP hy,pF hc,pF (neg_F hd),pP hd,pT g0,pP hd,pT g1,pP hd,pT g2,pP hd,pF g3,pF (len_F h0),pP hd,pT t0,pP hd,pF t1] (by kernel_rfl))
 ·exact Fok.v (cz_1 (arQ_ok _ _ _) (arQ_ok _ _ _) hd h0 ga (b:=false) (by unfold and4;simp[t0,t1,t2])) (fok KY [false,false,true,true,true,false,false,true,true,false] [pP h1,pP h2,pP hx,pP hy,pF hc,pF (neg_F hd),pP hd,pT g0,pP hd,pT g1,pP hd,pT g2,pP hd,pF g3,pF (len_F h0),pP hd,pT t0,pP hd,pT t1,pP hd,pF t2] (by kernel_rfl))
 ·exact Fok.v (cz_1 (arQ_ok _ _ _) (arQ_ok _ _ _) hd h0 ga (b:=false) (by unfold and4;simp[t0,t1,t2,t3])) (fok KY [false,false,true,true,true,false,false,true,true,true,false] [pP h1,pP h2,pP hx,pP hy,pF hc,pF (neg_F hd),pP hd,pT g0,pP hd,pT g1,pP hd,pT g2,pP hd,pF g3,pF (len_F h0),pP hd,pT t0,pP hd,pT t1,pP hd,pT t2,pP hd,pF t3] (by kernel_rfl))
 ·exact Fok.v (cz_1 (arQ_ok _ _ _) (arQ_ok _ _ _) hd h0 ga (b:=true) (by unfold and4;simp[t0,t1,t2,t3])) (fok KY [false,false,true,true,true,false,false,true,true,true,true] [pP h1,pP h2,pP hx,pP hy,pF hc,pF (neg_F hd),pP hd,pT g0,pP hd,pT g1,pP hd,pT g2,pP hd,pF g3,pF (len_F h0),pP hd,pT t0,pP hd,pT t1,pP hd,pT t2,pP hd,pT t3] (by kernel_rfl))
theorem ar_w4(e f:Ed)(h1:e.ok=true)(h2:f.ok=true)(hx:e.ok=true/\radZ e≠0)(hy:f.ok=true/\radZ f≠0)(hc:(e.cx==f.cx&&e.cy==f.cy)=false)(hd:0<=arD e f)(g0:arQ e f (-1) 0=true)(g1:arQ e f (-1) 1=true)(g2:arQ e f (-1) 2=true)(g3:arQ e f (-1) 3=true):ArG e f:=by
 have ga:and4 (arQ e f (-1))=true:=(by unfold and4;simp[g0,g1,g2,g3])
 by_cases h0:arD e f=0
 ·exact Fok.v (cz_0 (arQ_ok _ _ _) hd h0 ga) (fok KY [false,false,true,true,true,true,true] [pP h1,pP h2,pP hx,pP hy,pF hc,pF (neg_F hd),pP hd,pT g0,pP hd,pT g1,pP hd,pT g2,pP hd,pT g3,pT (len_T h0)] (by kernel_rfl))
 rcases w4 (arQ e f 1) with t0|⟨t0,t1⟩|⟨t0,t1,t2⟩|⟨t0,t1,t2,t3⟩|⟨t0,t1,t2,t3⟩
 ·exact Fok.v (cz_1 (arQ_ok _ _ _) (arQ_ok _ _ _) hd h0 ga (b:=false) (by unfold and4;simp[t0])) (fok KY [false,false,true,true,true,true,false,false] [pP h1,pP h2,pP hx,pP hy,pF hc,pF (neg_F hd),pP hd,pT g0,pP hd,pT g1,pP hd,pT g2,pP hd,pT g3,pF (len_F h0),pP hd,pF t0] (by kernel_rfl))
 ·exact Fok.v (cz_1 (arQ_ok _ _ _) (arQ_ok _ _ _) hd h0 ga (b:=false) (by unfold and4;simp[t0,t1])) (fok KY [false,false,true,true,true,true,false,true,false] [pP h1,pP h2,pP hx,pP hy,pF hc,pF (neg_F hd),pP hd,pT g0,pP hd,pT g1,pP hd,pT g2,pP hd,pT g3,pF (len_F h0),pP hd,pT t0,pP hd,pF t1] (by kernel_rfl))
 ·exact Fok.v (cz_1 (arQ_ok _ _ _) (arQ_ok _ _ _) hd h0 ga (b:=false) (by unfold and4;simp[t0,t1,t2])) (fok KY [false,false,true,true,true,true,false,true,true,false] [pP h1,pP h2,pP hx,pP hy,pF hc,pF (neg_F hd),pP hd,pT g0,pP hd,pT g1,pP hd,pT g2,pP hd,pT g3,pF (len_F h0),pP hd,pT t0,pP hd,pT t1,pP hd,pF t2] (by kernel_rfl))
 ·exact Fok.v (cz_1 (arQ_ok _ _ _) (arQ_ok _ _ _) hd h0 ga (b:=false) (by unfold and4;simp[t0,t1,t2,t3])) (fok KY [false,false,true,true,true,true,false,true,true,true,false] [pP h1,pP h2,pP hx,pP hy,pF hc,pF (neg_F hd),pP hd,pT g0,pP hd,pT g1,pP hd,pT g2,pP hd,pT g3,pF (len_F h0),pP hd,pT t0,pP hd,pT t1,pP hd,pT t2,pP hd,pF t3] (by kernel_rfl))
 ·exact Fok.v (cz_1 (arQ_ok _ _ _) (arQ_ok _ _ _) hd h0 ga (b:=true) (by unfold and4;simp[t0,t1,t2,t3])) (fok KY [false,false,true,true,true,true,false,true,true,true,true] [pP h1,pP h2,pP hx,pP hy,pF hc,pF (neg_F hd),pP hd,pT g0,pP hd,pT g1,pP hd,pT g2,pP hd,pT g3,pF (len_F h0),pP hd,pT t0,pP hd,pT t1,pP hd,pT t2,pP hd,pT t3] (by kernel_rfl))
theorem arcs_ok(e f:Ed)(h1:e.ok=true)(h2:f.ok=true)(hr:radZ e≠0)(hq:radZ f≠0):ArF e f (arcsZ e f):=by
 have hx:=And.intro h1 hr
 have hy:=And.intro h2 hq
 cases hc:(e.cx==f.cx&&e.cy==f.cy) with
 | true=>rw[arcs_0 hc];exact arcs_same e f h1 h2 hx hy hc
 | false =>
  rw[arcs_1 hc]
  by_cases hd:0<=arD e f
  ·rcases w4 (arQ e f (-1)) with t0 | ⟨t0, t1⟩ | ⟨t0, t1, t2⟩ | ⟨t0, t1, t2, t3⟩ | ⟨t0, t1, t2, t3⟩
   ·exact ar_w0 e f h1 h2 hx hy hc hd t0
   ·exact ar_w1 e f h1 h2 hx hy hc hd t0 t1
   ·exact ar_w2 e f h1 h2 hx hy hc hd t0 t1 t2
   ·exact ar_w3 e f h1 h2 hx hy hc hd t0 t1 t2 t3
   ·exact ar_w4 e f h1 h2 hx hy hc hd t0 t1 t2 t3
  ·exact Fok.v (cz_n (Int.not_le.1 hd)) (fok KY [false,true] [pP h1,pP h2,pP hx,pP hy,pF hc,pT (neg_T (Int.not_le.1 hd))] (by kernel_rfl))
end

set_option maxRecDepth 100000
section
def d7Cross:Con where
 f:=181
 g:=fun | [⟨true,l⟩,⟨true,m⟩]=>(match toEd l,toEd m with|some e,some f=>some (.one (inV (crossZ e f) 2),[e.ok=true,f.ok=true/\radZ f≠0])|_,_=>none)|_=>none
 ok:=by
  intro args res ps h hp
  split at h<;>try cases h
  split at h<;>cases h
  rename_i e f he hf
  have b:=countZ_bd (laE e f).delta (laE e f).list
  exact (Fok.bd (crossed_ok e f hp.2.1.1 hp.2.1.2) (by show (countZ _ _).natAbs<=2;omega)).pre fun W=>rvs_1 (ed_ok he hp.1) (rvs_1 (ed_ok hf hp.2.1.1) rvs_0)
theorem arcsZ_b4(e f:Ed):(arcsZ e f).natAbs<=4:=by
 unfold arcsZ
 split
 ·have := sameZ_bd (radZ e == radZ f) (e.ux == f.ux && e.uy == f.uy) (e.ux == f.vx && e.uy == f.vy) (e.vx == f.ux && e.vy == f.uy) (e.vx == f.vx && e.vy == f.vy)
  omega
 ·have := countZ_bd (aaE e f).delta (aaE e f).list
  omega
def d7Arcs:Con where
 f:=179
 g:=fun | [⟨true,l⟩,⟨true,m⟩]=>(match toEd l,toEd m with|some e,some f=>some (.one (inV (arcsZ e f) 4),[(e.ok=true/\radZ e≠0)/\f.ok=true/\radZ f≠0])|_,_=>none)|_=>none
 ok:=by
  intro args res ps h hp
  split at h<;>try cases h
  split at h<;>cases h
  rename_i e f he hf
  obtain⟨⟨h1,h2⟩,h3,h4⟩:=hp.1
  exact (Fok.bd (arcs_ok e f h1 h3 h2 h4) (arcsZ_b4 e f)).pre fun W=>rvs_1 (ed_ok he h1) (rvs_1 (ed_ok hf h3) rvs_0)
def KQ:List Con:=[d06Chk,d07Lines,d7Cross,d7Arcs,d06On]
theorem dcount_no(e f:Ed)(h:(e.ok&&f.ok)=false):Fok Tryz.prog 132 [edV e lim lim,edV f lim lim] (.one (inV (countE e f) lim)):=by
 rw[show countE e f=0 by unfold countE;rw[h];rfl]
 cases h1:e.ok with
 | false=>exact fok KQ [true] [pT (chk_T h1)] (by kernel_rfl)
 | true =>
  rw[h1] at h
  exact fok KQ [false,true] [pF (chk_F h1),pT (chk_T h)] (by kernel_rfl)
theorem pt_b{e:Ed}{b:Bool}(h:e.pt=b):(e.ax==e.bx&&e.ay==e.by')=b:=h
theorem onz_T{e:Ed}{x y:Int}(h:onE e x y=true):onZ e x y=1:=if_pos h
theorem onz_F{e:Ed}{x y:Int}(h:onE e x y=false):onZ e x y=0:=if_neg (by rw[h];decide)
theorem nk_F{k:Int}(h:(k==1)=true):(!(k==1))=false:=by rw[h];rfl
theorem nk_T{k:Int}(h:(k==1)=false):(!(k==1))=true:=by rw[h];rfl
theorem dcount_ok(e f:Ed)(h1:e.ok=true)(h2:f.ok=true):Fok Tryz.prog 132 [edV e 3 c26,edV f 3 c26] (.one (inV (countE e f) lim)):=by
 have E:countE e f=if e.k=1 then (if f.k=1 then linesE e f else if e.pt then onZ f e.ax e.ay else crossZ e f) else if f.k=1 then (if f.pt then onZ e f.ax f.ay else crossZ f e) else arcsZ e f:=by
  unfold countE linesE
  rw[h1,h2]
  by_cases k1:e.k=1<;>by_cases k2:f.k=1<;>simp[k1,k2]
 have c1:=chk_F h1
 have c2:=chk_F h2
 rw[E]
 by_cases k1:e.k=1
 ·rw [if_pos k1]
  by_cases k2:f.k=1
  ·rw [if_pos k2]
   exact fok KQ [false,false,true,true] [pF c1,pF c2,pT (bq_T k1),pT (bq_T k2),pP h1,pP h2] (by kernel_rfl)
  ·rw [if_neg k2]
   cases hp:e.pt with
   | true =>
    rw[if_pos rfl]
    cases ho:onE f e.ax e.ay with
    | true =>
     rw[onz_T ho]
     exact fok KQ [false,false,true,false,false,false,true,true] [pF c1,pF c2,pT (bq_T k1),pF (bq_F k2),pF (bq_F k2),pF (nk_F (bq_T k1)),pT (pt_b hp),pP h2,pT ho] (by kernel_rfl)
    | false =>
     rw[onz_F ho]
     exact fok KQ [false,false,true,false,false,false,true,false] [pF c1,pF c2,pT (bq_T k1),pF (bq_F k2),pF (bq_F k2),pF (nk_F (bq_T k1)),pT (pt_b hp),pP h2,pF ho] (by kernel_rfl)
   | false =>
    rw[if_neg (by decide)]
    have hr:=And.intro h2 (Int.ne_of_gt (rad_pos h2 k2))
    exact fok KQ [false,false,true,false,false,false,false] [pF c1,pF c2,pT (bq_T k1),pF (bq_F k2),pF (bq_F k2),pF (nk_F (bq_T k1)),pF (pt_b hp),pP h1,pP hr] (by kernel_rfl)
 ·rw [if_neg k1]
  by_cases k2:f.k=1
  ·rw [if_pos k2]
   cases hp:f.pt with
   | true =>
    rw[if_pos rfl]
    cases ho:onE e f.ax f.ay with
    | true =>
     rw[onz_T ho]
     exact fok KQ [false,false,false,true,false,true,true] [pF c1,pF c2,pF (bq_F k1),pT (bq_T k2),pF (nk_F (bq_T k2)),pT (pt_b hp),pP h1,pT ho] (by kernel_rfl)
    | false =>
     rw[onz_F ho]
     exact fok KQ [false,false,false,true,false,true,false] [pF c1,pF c2,pF (bq_F k1),pT (bq_T k2),pF (nk_F (bq_T k2)),pT (pt_b hp),pP h1,pF ho] (by kernel_rfl)
   | false =>
    rw[if_neg (by decide)]
    have hr:=And.intro h1 (Int.ne_of_gt (rad_pos h1 k1))
    exact fok KQ [false,false,false,true,false,false] [pF c1,pF c2,pF (bq_F k1),pT (bq_T k2),pF (nk_F (bq_T k2)),pF (pt_b hp),pP h2,pP hr] (by kernel_rfl)
  ·rw [if_neg k2]
   have hr:=And.intro (And.intro h1 (Int.ne_of_gt (rad_pos h1 k1))) (And.intro h2 (Int.ne_of_gt (rad_pos h2 k2)))
   exact fok KQ [false,false,false,false,true] [pF c1,pF c2,pF (bq_F k1),pF (bq_F k2),pT (nk_T (bq_F k1)),pP hr] (by kernel_rfl)
def d7Count:Con where
 f:=132
 g:=fun | [⟨true,l⟩,⟨true,m⟩]=>(match toEd l,toEd m with|some e,some f=>some (.one (inV (countE e f) 4),[])|_,_=>none)|_=>none
 ok:=by
  intro args res ps h hp
  split at h<;>try cases h
  split at h<;>cases h
  rename_i e f he hf
  cases h:(e.ok&&f.ok) with
  | false=>exact ((dcount_no e f h).bd (countE_bd e f)).pre fun W=>rvs_1 (ed_lim he) (rvs_1 (ed_lim hf) rvs_0)
  | true =>
   simp only[Bool.and_eq_true] at h
   exact ((dcount_ok e f h.1 h.2).bd (countE_bd e f)).pre fun W=>rvs_1 (ed_ok he h.1) (rvs_1 (ed_ok hf h.2) rvs_0)
theorem d7Edges_ok(e f:Ed):Fok Tryz.prog 81 [edV e lim lim,edV f lim lim] (.one (blV (countE e f != 0))):=fok [d7Count] [] [] (by kernel_rfl)
def d07Edges:Con where
 f:=81
 g:=fun | [⟨true,l⟩,⟨true,m⟩]=>(match toEd l,toEd m with|some e,some f=>some (.one (blV (!(countE e f==0))),[])|_,_=>none)|_=>none
 ok:=by
  intro args res ps h hp
  split at h<;>try cases h
  split at h<;>cases h
  rename_i e f he hf
  exact (d7Edges_ok e f).pre fun W=>rvs_1 (ed_lim he) (rvs_1 (ed_lim hf) rvs_0)
end
def d01Mul:Con:=nBinC 187 mulP (fun _ _=>[]) fun a b _ _ _ _ _ _ _ _ w _ h1 h2=>r01_Mul a b _ _ _ _ _ _ _ _ w h1 h2
end Go.Proofs.YtceemiodpccbhaaGreat
