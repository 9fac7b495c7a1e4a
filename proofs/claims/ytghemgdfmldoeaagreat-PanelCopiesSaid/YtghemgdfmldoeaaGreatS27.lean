import Derived.Test.YtghemgdfmldoeaaGreatS26
import Derived.Test.YtghemgdfmldoeaaGreatS23
import Derived.Deep.Slices
set_option linter.unusedVariables false
set_option linter.unusedSimpArgs false

namespace Go.Proofs.YtghemgdfmldoeaaGreat
open Go.RowKit
structure OkS (s:Sh):Prop where
 k:s.k=1\/s.k=2
 n0:fewS s<=s.n
 n1:s.n<=40
 ok:∀i,i<s.n->(s.e i).ok=true
 ch:∀i,i+1<s.n->(s.e (i+1)).ax=(s.e i).bx/\(s.e (i+1)).ay=(s.e i).by'
 cl:s.k=2->(s.e 0).ax=(s.e (s.n-1)).bx/\(s.e 0).ay=(s.e (s.n-1)).by'
 r:(0<=s.r/\s.r<=4194304)/\(s.k=2->s.r=0)
theorem errN_z{e:Nat->Ed}:∀ {n:Nat},(∀i,i<n->(e i).ok=true)->errN e n=0
 | 0,_=>rfl
 | n+1,h=>by
  unfold errN
  rw[if_pos (errN_z fun i hi=>h i (by omega))]
  unfold checkZ
  rw[if_pos (h n (by omega))]
theorem OkS.chk{s:Sh}(h:OkS s):chkS s=0:=by
 unfold chkS
 have h0:=h.n0
 have h1:=h.n1
 have hk:=h.k
 rw[if_neg (by omega),if_neg (by omega),if_neg (by omega),if_neg (by rw[errN_z h.ok];omega),if_neg,if_neg]
 ·obtain ⟨⟨r0, r1⟩, r2⟩ := h.r
  rintro (⟨k2,g⟩|g|g)
  ·exact g (r2 k2)
  ·omega
  ·omega
 ·rintro (g | ⟨k2, g⟩)
  ·have:allB (jn s.e) (s.n-1)=true:=allB_t.2 fun i hi=>by
    obtain⟨e1,e2⟩:=h.ch i (by omega)
    unfold jn
    rw[e1,e2]
    simp
   rw[this] at g
   cases g
  ·obtain ⟨e1, e2⟩ := h.cl k2
   unfold clsB at g
   rw[e1,e2] at g
   simp at g
def chainL:List Ed->Prop
 | []=>True
 | e::l=>(match l with | []=>True|f::_=>f.ax=e.bx/\f.ay=e.by')/\chainL l
theorem chainL_at:∀ {l:List Ed},chainL l->∀i,i+1<l.length->(rowE l (i+1)).ax=(rowE l i).bx/\(rowE l (i+1)).ay=(rowE l i).by'
 | [],_,i,hi=>absurd hi (Nat.not_lt_zero _)
 | [e],_,i,hi=>by simp at hi
 | e::f::l,h,0,_=>h.1
 | e::f::l,h,i+1,hi=>chainL_at (l:=f::l) h.2 i (by simpa using hi)
theorem rowE_mem{l:List Ed}{i:Nat}(h:i<l.length):rowE l i∈l:=by
 unfold rowE
 rw[List.getElem?_eq_getElem h]
 exact List.getElem_mem h
theorem okS_list{k:Int}{l:List Ed}{r:Int}(hk:k=1\/k=2)(h0:(if k=1 then 1 else 2)<=l.length)(h1:l.length<=40)(ho:∀e∈l,e.ok=true)(hc:chainL l)(hl:k=2->(rowE l 0).ax=(rowE l (l.length-1)).bx/\(rowE l 0).ay=(rowE l (l.length-1)).by')(hr:(0<=r/\r<=4194304)/\(k=2->r=0)):OkS (shL' k l r) :=
 ⟨hk,by show fewS (shL' k l r)<=(l.length:Int);unfold fewS;show (if k=1 then (1:Int) else 2)<=l.length;split<;>simp_all<;>omega,h1,fun i hi=>ho _ (rowE_mem hi),chainL_at hc,hl,hr⟩
def Sm3(x:Int):Prop := -1000<=x/\x<=1000
def EdSm(e:Ed):Prop:=(Sm3 e.ax/\Sm3 e.ay)/\(Sm3 e.bx/\Sm3 e.by')/\Sm3 e.cx/\Sm3 e.cy
theorem lnEd_ok{ax ay bx by':Int}(h1:Sm3 ax)(h2:Sm3 ay)(h3:Sm3 bx)(h4:Sm3 by'):(lnEd ax ay bx by').ok=true/\EdSm (lnEd ax ay bx by'):=by
 unfold Sm3 at h1 h2 h3 h4
 refine⟨?_,⟨⟨by unfold lnEd Sm3;exact h1,by unfold lnEd Sm3;exact h2⟩,⟨by unfold lnEd Sm3;exact h3,by unfold lnEd Sm3;exact h4⟩,by unfold lnEd Sm3;simp,by unfold lnEd Sm3;simp⟩⟩
 simp only[Ed.ok,Ed.right,lnEd,Bool.and_eq_true]
 refine⟨⟨⟨coordB_iff.2 ?_,coordB_iff.2 ?_⟩,coordB_iff.2 ?_⟩,by simp[Ed.lone]⟩
 all_goals (unfold Co;omega)
theorem arcEd_ok{k ax ay bx by' cx cy:Int}(h1:Sm3 ax)(h2:Sm3 ay)(h3:Sm3 bx)(h4:Sm3 by')(h5:Sm3 cx)(h6:Sm3 cy)(hd:(ax-cx=0/\ay-cy≠0)\/(ax-cx≠0/\ay-cy=0))
  (hk:(k=2/\bx-cx = -(ay-cy)/\by'-cy=ax-cx)\/(k=3/\bx-cx=ay-cy/\by'-cy = -(ax-cx))):(Ed.mk k ax ay bx by' cx cy).ok=true/\EdSm (Ed.mk k ax ay bx by' cx cy):=by
 refine⟨?_,⟨⟨h1,h2⟩,⟨h3,h4⟩,h5,h6⟩⟩
 unfold Sm3 at *
 simp only[Ed.ok,Ed.right,Bool.and_eq_true]
 refine⟨⟨⟨coordB_iff.2 ?_,coordB_iff.2 ?_⟩,coordB_iff.2 ?_⟩,?_⟩
 ·unfold Co;omega
 ·unfold Co;omega
 ·unfold Co;omega
 ·rcases hk with⟨rfl,g1,g2⟩|⟨rfl,g1,g2⟩<;>rcases hd with⟨d1,d2⟩|⟨d1,d2⟩<;>simp[Ed.quarter,quarterB,rot,g1,g2,d1,d2]
theorem quartE_ok{px py r t:Int}(g:Bool)(h1 : -900<=px/\px<=900)(h2 : -900<=py/\py<=900)(hr:1<=r/\r<=16)(ht:0<=t/\t<4):(quartE px py r t g).ok=true/\EdSm (quartE px py r t g):=by
 have m0:modZ 0 4=0:=by decide
 have m1:modZ 1 4=1:=by decide
 have m2:modZ 2 4=2:=by decide
 have m3:modZ 3 4=3:=by decide
 obtain rfl|rfl|rfl|rfl:t=0\/t=1\/t=2\/t=3:=by omega
 all_goals cases g
 all_goals
  simp only[quartE,tn0 m0,tn1 m1,tn2 m2,tn3 m3,Bool.false_eq_true,if_false,if_true]
  refine arcEd_ok ?_ ?_ ?_ ?_ ?_ ?_ ?_ ?_
  all_goals first|omega|(unfold Sm3;omega)
def FineS(s:Sh):Prop:=OkS s/\(∀i,i<s.n->EdSm (s.e i))/\s.r<=100
theorem fineS_list{k:Int}{l:List Ed}{r:Int}(hk:k=1\/k=2)(h0:(if k=1 then 1 else 2)<=l.length)(h1:l.length<=40)(ho:∀e∈l,e.ok=true/\EdSm e)(hc:chainL l)(hl:k=2->(rowE l 0).ax=(rowE l (l.length-1)).bx/\(rowE l 0).ay=(rowE l (l.length-1)).by')(hr:(0<=r/\r<=100)/\(k=2->r=0)):FineS (shL' k l r) :=
 ⟨okS_list hk h0 h1 (fun e he=>(ho e he).1) hc hl ⟨⟨hr.1.1,by omega⟩,hr.2⟩,fun i hi=>(ho _ (rowE_mem hi)).2,hr.1.2⟩
theorem all1{P:Ed->Prop}{a:Ed}{l:List Ed}(h1:P a)(h2:∀e∈l,P e):∀e∈a::l,P e:=fun e he=>by
 rcases List.mem_cons.1 he with rfl|he
 ·exact h1
 ·exact h2 e he
theorem all0{P:Ed->Prop}:∀e∈([]:List Ed),P e:=fun e he=>by cases he
theorem rect_fine{x y u v:Int}(h1:0<=x/\x<=500)(h2:0<=y/\y<=500)(h3:0<=u/\u<=500)(h4:0<=v/\v<=500):FineS (rectS x y u v):=by
 unfold rectS
 refine fineS_list (.inr rfl) (by simp) (by simp) (all1 (lnEd_ok ?_ ?_ ?_ ?_) (all1 (lnEd_ok ?_ ?_ ?_ ?_) (all1 (lnEd_ok ?_ ?_ ?_ ?_) (all1 (lnEd_ok ?_ ?_ ?_ ?_) all0)))) ⟨⟨rfl,rfl⟩,⟨rfl,rfl⟩,⟨rfl,rfl⟩,trivial,trivial⟩ (fun _=>⟨rfl,rfl⟩) ⟨by decide,fun _=>rfl⟩
 all_goals (unfold Sm3;omega)
theorem disc_fine{x y r:Int}(h1:0<=x/\x<=500)(h2:0<=y/\y<=500)(hr:0<=r/\r<=100):FineS (discS x y r):=by
 unfold discS
 refine fineS_list (.inl rfl) (by simp) (by simp) (all1 (lnEd_ok ?_ ?_ ?_ ?_) all0) ⟨trivial,trivial⟩ (fun h=>by cases h) ⟨hr,fun h=>by cases h⟩
 all_goals (unfold Sm3;omega)
theorem round_fine{x y r w h:Int}(h1:0<=x/\x<=100)(h2:0<=y/\y<=100)(hr:1<=r/\r<=16)(hw:0<=w/\w<=100)(hh:0<=h/\h<=100):FineS (roundS x y r w h):=by
 unfold roundS
 refine fineS_list (.inr rfl) (by simp) (by simp) (all1 (lnEd_ok ?_ ?_ ?_ ?_) (all1 (arcEd_ok ?_ ?_ ?_ ?_ ?_ ?_ ?_ ?_) (all1 (lnEd_ok ?_ ?_ ?_ ?_) (all1 (arcEd_ok ?_ ?_ ?_ ?_ ?_ ?_ ?_ ?_) (all1 (lnEd_ok ?_ ?_ ?_ ?_) (all1 (arcEd_ok ?_ ?_ ?_ ?_ ?_ ?_ ?_ ?_) (all1 (lnEd_ok ?_ ?_ ?_ ?_) (all1 (arcEd_ok ?_ ?_ ?_ ?_ ?_ ?_ ?_ ?_) all0)))))))) ⟨⟨rfl,rfl⟩,⟨rfl,rfl⟩,⟨rfl,rfl⟩,⟨rfl,rfl⟩,⟨rfl,rfl⟩,⟨rfl,rfl⟩,⟨rfl,rfl⟩,trivial,trivial⟩ (fun _=>⟨rfl,rfl⟩) ⟨by decide,fun _=>rfl⟩
 all_goals first|omega|(unfold Sm3;omega)
theorem path_fine{L:List Int}(n:Nat):∀(k a:Nat) (px py:Int),k+n<=4->(0<=k)->(-(64*(k:Int))-100<=px/\px<=64*(k:Int)+100)->(-(64*(k:Int))-100<=py/\py<=64*(k:Int)+100) ->
  (∀e∈pathL L n a px py,e.ok=true/\EdSm e)/\chainL (pathL L n a px py)/\(pathL L n a px py).length=n/\(∀f l,pathL L n a px py=f::l->f.ax=px/\f.ay=py):=by
 induction n with
 | zero=>intro k a px py _ _ _ _;exact⟨all0,trivial,rfl,fun f l h=>by cases h⟩
 | succ n ih =>
  intro k a px py hk hk0 hx hy
  have n0:=nV_bd L a (m:=21) (by omega)
  have n1:=nV_bd L (a+1) (m:=21) (by omega)
  have n3:=nV_bd L (a+3) (m:=9) (by omega)
  have n4:=nV_bd L (a+4) (m:=4) (by omega)
  have E:((pathE L a px py).ok=true/\EdSm (pathE L a px py))/\((pathE L a px py).ax=px/\(pathE L a px py).ay=py)/\(-(64*((k+1:Nat):Int))-100<=(pathE L a px py).bx/\(pathE L a px py).bx<=64*((k+1:Nat):Int)+100)/\(-(64*((k+1:Nat):Int))-100<=(pathE L a px py).by'/\(pathE L a px py).by'<=64*((k+1:Nat):Int)+100):=by
   unfold pathE
   split
   ·refine ⟨quartE_ok _ (by omega) (by omega) (by omega) n4, ⟨rfl, rfl⟩, ?_⟩
    obtain⟨⟨_,_,_⟩,⟨b1,b2⟩,_⟩:=quart_bd (px:=px-px) (py:=py-py) (r:=1+nV L (a+3) 9) (t:=nV L (a+4) 4) (g:=decide (nV L (a+5) 2=1)) (A:=0) (B:=0) (by omega) (by omega) (by omega)
    have e1:(quartE (px-px) (py-py) (1+nV L (a+3) 9) (nV L (a+4) 4) (decide (nV L (a+5) 2=1))).bx=(quartE px py (1+nV L (a+3) 9) (nV L (a+4) 4) (decide (nV L (a+5) 2=1))).bx-px:=by
     unfold quartE
     simp only
     rw[show px-px-(px-px+(applyQ 0 0 (nV L (a+4) 4) false (1+nV L (a+3) 9) 0).1)=px-(px+(applyQ 0 0 (nV L (a+4) 4) false (1+nV L (a+3) 9) 0).1) by omega,show py-py-(py-py+(applyQ 0 0 (nV L (a+4) 4) false (1+nV L (a+3) 9) 0).2)=py-(py+(applyQ 0 0 (nV L (a+4) 4) false (1+nV L (a+3) 9) 0).2) by omega]
     omega
    have e2:(quartE (px-px) (py-py) (1+nV L (a+3) 9) (nV L (a+4) 4) (decide (nV L (a+5) 2=1))).by'=(quartE px py (1+nV L (a+3) 9) (nV L (a+4) 4) (decide (nV L (a+5) 2=1))).by'-py:=by
     unfold quartE
     simp only
     rw[show px-px-(px-px+(applyQ 0 0 (nV L (a+4) 4) false (1+nV L (a+3) 9) 0).1)=px-(px+(applyQ 0 0 (nV L (a+4) 4) false (1+nV L (a+3) 9) 0).1) by omega,show py-py-(py-py+(applyQ 0 0 (nV L (a+4) 4) false (1+nV L (a+3) 9) 0).2)=py-(py+(applyQ 0 0 (nV L (a+4) 4) false (1+nV L (a+3) 9) 0).2) by omega]
     omega
    rw[e1] at b1
    rw[e2] at b2
    omega
   ·refine ⟨lnEd_ok ?_ ?_ ?_ ?_, ⟨rfl, rfl⟩, ?_⟩
    ·unfold Sm3;omega
    ·unfold Sm3;omega
    ·unfold Sm3;omega
    ·unfold Sm3;omega
    ·simp only [lnEd]
     omega
  obtain⟨E1,E2,E3,E4⟩:=E
  obtain⟨i1,i2,i3,i4⟩:=ih (k+1) (pathN L a) (pathE L a px py).bx (pathE L a px py).by' (by omega) (by omega) E3 E4
  refine⟨all1 E1 i1,⟨?_,i2⟩,by show _+1=n+1;rw[i3],fun f l h=>?_⟩
  ·cases hp : pathL L n (pathN L a) (pathE L a px py).bx (pathE L a px py).by' with
   | nil=>trivial
   | cons f l=>exact i4 f l hp
  ·obtain ⟨rfl, _⟩ := List.cons.inj h
   exact E2
theorem made_fine(L:List Int):FineS (madeS L):=by
 have b0:=nV_bd L 0 (m:=50) (by omega)
 have b1:=nV_bd L 1 (m:=50) (by omega)
 unfold madeS
 simp only
 split
 ·have b3 := nV_bd L 3 (m := 20) (by omega)
  have b4:=nV_bd L 4 (m:=20) (by omega)
  exact rect_fine (by omega) (by omega) (by omega) (by omega)
 split
 ·have b3 := nV_bd L 3 (m := 6) (by omega)
  have b4:=nV_bd L 4 (m:=9) (by omega)
  have b5:=nV_bd L 5 (m:=9) (by omega)
  exact round_fine (by omega) (by omega) (by omega) (by omega) (by omega)
 split
 ·have b3 := nV_bd L 3 (m := 20) (by omega)
  have b4:=nV_bd L 4 (m:=9) (by omega)
  have b5:=nV_bd L 5 (m:=9) (by omega)
  have b6:=nV_bd L 6 (m:=20) (by omega)
  refine fineS_list (.inr rfl) (by simp) (by simp) (all1 (lnEd_ok ?_ ?_ ?_ ?_) (all1 (lnEd_ok ?_ ?_ ?_ ?_) (all1 (lnEd_ok ?_ ?_ ?_ ?_) all0))) ⟨⟨rfl,rfl⟩,⟨rfl,rfl⟩,trivial,trivial⟩ (fun _=>⟨rfl,rfl⟩) ⟨by decide,fun _=>rfl⟩
  all_goals (unfold Sm3;omega)
 split
 ·have b3 := nV_bd L 3 (m := 9) (by omega)
  exact disc_fine (by omega) (by omega) (by omega)
 ·have b3 := nV_bd L 3 (m := 6) (by omega)
  have b4:=nV_bd L 4 (m:=3) (by omega)
  obtain⟨i1,i2,i3,_⟩:=path_fine (L:=L) (1+nV L 4 3).toNat 0 5 (nV L 0 50) (nV L 1 50) (by omega) (by omega) (by omega) (by omega)
  exact fineS_list (.inl rfl) (by rw[i3,if_pos rfl];omega) (by rw[i3];omega) i1 i2 (fun h=>by cases h) ⟨by omega,fun h=>by cases h⟩

set_option maxRecDepth 100000
section
structure Cs where
 o:List Int
 p:List Int
 a:Int
 b:Int
 c:Int
 nd:Nat
 d:Nat->List Int
 ns:Nat
 s:Nat->List Int
def csI(c:Cs):List It:=[.ds c.o,.ds c.p,.i c.a lim,.i c.b lim,.i c.c lim,.ro 1 c.nd fun i=>dsI (c.d i),.ro 1 c.ns fun i=>dsI (c.s i)]
def csV(c:Cs):V1:=⟨true,csI c⟩
def csM(c:Cs):Option Mb:=some ⟨38,csI c⟩
def sU1:ByteArray:=⟨#[85,49]⟩
def sP1:ByteArray:=⟨#[80,49]⟩
def csH(c:Cs)(i:Nat):Hol:=⟨madeS (c.s i),1+(i:Int).tmod 2,2,decide ((i:Int).tmod 3>0)⟩
def csQ(c:Cs)(i:Nat):Prb:=⟨i,sU1,sP1,((madeS (c.s i)).e 0).ax,((madeS (c.s i)).e 0).ay,1+(i:Int).tmod 2⟩
def fLs:FuncId:=13
def lsD(c:Cs)(j:Nat):Ds:=⟨[(1,.eq (ptrN 0)),(4,.le (hosO j (csH c))),(5,.le (prsO j (csQ c))),(6,.le (inV (j:Int) 2000))],[csM c]⟩
def pCs(c:Cs):List Pf:=[qIt (.ds c.o),qIt (.ds c.p),qZ c.a,qZ c.b,qZ c.c,qIt (.ro 1 c.nd fun i=>dsI (c.d i)),qIt (.ro 1 c.ns fun i=>dsI (c.s i))]
theorem madeS_pos(L:List Int):1<=(madeS L).n/\(madeS L).n<=40:=by
 have h:=(made_fine L).1
 have:=h.n0
 unfold fewS at this
 have:=h.n1
 split at*<;> omega
def lsH(c:Cs)(j:Nat):List It:=[.i (madeS (c.s j)).k lim,edD (madeS (c.s j)).n (madeS (c.s j)).e,.i (madeS (c.s j)).r lim,.i (1+(j:Int).tmod 2) 3,.k 2,.v (.bool (decide ((j:Int).tmod 3>0)))]
def lsQ(c:Cs)(j:Nat):List It:=[.i (j:Int) 2000,.v (.string sU1),.v (.string sP1),.i ((madeS (c.s j)).e 0).ax lim,.i ((madeS (c.s j)).e 0).ay lim,.i (1+(j:Int).tmod 2) 3]
def lsZ(c:Cs)(m:Nat):Ds:=⟨[(4,.le (hosO m (csH c))),(5,.le (prsO m (csQ c)))],[]⟩
theorem ls_r(c:Cs)(j:Nat)(hn:j<c.ns)(hj:j<5):Rnd [xAll,xNext] K37 fLs 8 [] (nF fLs) (lsD c j) (lsD c (j+1)) .nm:=by
 have hp:=(madeS_pos (c.s j)).1
 exact⟨[true,true],[pT (ltT (show (j:Int)<(c.ns:Int) by omega)),pT (ltT (show (j:Int)<5 by omega)),pP (show 0<=(j:Int)/\(j:Int)<(c.ns:Int) by omega),pP (show (2:Int)≠0 by decide),pP (show (3:Int)≠0 by decide),pP (show j+1<=1000 by omega),pP (show 0<=(0:Int)/\(0:Int)<((madeS (c.s j)).n:Int) by omega),pP (show (2:Int)≠0 by decide),pP (show j+1<=1000 by omega),pR (ptrN 0),qA hoI (csH c) j (j+1) (lsH c j) rfl rfl,qA prbI (csQ c) j (j+1) (lsQ c j) rfl rfl,pI j (by omega)]++pCs c,by kernel_rfl⟩
theorem lists_ok(c:Cs):Fok Tryz.prog fLs [csV c] (.tup [hosO (min c.ns 5) (csH c),prsO (min c.ns 5) (csQ c)]):=by
 have B:=fun (m:Nat) (e1:min c.ns 5=m) he=>orc (X:=[xAll,xNext]) (K:=K37) (f:=fLs) (id:=8) (n:=nF fLs) m (lsD c) (fun _=>[]) (e:=.ex 0) (d1:=lsZ c m) (by kernel_rfl) (fun _=>by kernel_rfl) (fun _ _=>LT.nil) (fun k hk=>ls_r c k (by omega) (by omega)) he nofun
 have fin:∀m,min c.ns 5=m->Rnd [xAll,xNext] K37 fLs 8 [] (nF fLs) (lsD c m) (lsZ c m) (.ex 0)->Fok Tryz.prog fLs [csV c] (.tup [hosO m (csH c),prsO m (csQ c)]):=fun m e1 he =>
  fokL [xAll,xNext] K37 _ (LT.cons (B m e1 he) LT.nil) [] ([pR (ptrN 0),⟨(0:Nat)=0,rfl⟩,⟨(0:Nat)=0,rfl⟩,q0]++pCs c) (by kernel_rfl)
 by_cases h9:c.ns<=5
 ·rw [Nat.min_eq_left h9]
  exact fin c.ns (Nat.min_eq_left h9) ⟨[false],[pF (ltF (show ¬(c.ns:Int)<(c.ns:Int) by omega)),qL hoI (csH c) c.ns c.ns rfl,qL prbI (csQ c) c.ns c.ns rfl],by kernel_rfl⟩
 ·rw [Nat.min_eq_right (by omega)]
  exact fin 5 (Nat.min_eq_right (by omega)) ⟨[true,false],[pT (ltT (show ((5:Nat):Int)<(c.ns:Int) by omega)),pF (ltF (show ¬((5:Nat):Int)<5 by omega)),qL hoI (csH c) 5 5 rfl,qL prbI (csQ c) 5 5 rfl],by kernel_rfl⟩
end
end Go.Proofs.YtghemgdfmldoeaaGreat

set_option maxRecDepth 100000
namespace Go.Proofs.YtghemgdfmldoeaaGreat.fin
open Go.ChangeShapes Go.WideShapes Go.ChangeAt Go.RowKit Go.Joins
set_option linter.unusedVariables false
section
variable {H:Type} {enc:TypeId×Value->H} {W:World}
theorem cell_at{a:Addr}{v:Value}(h:W.cell? a=some v):∃xs T fr,W.heap[a.block]? = some (.cells xs T fr)/\a.spot=none/\xs[a.off]? = some v:=by
 unfold World.cell? at h
 split at h
 ·rename_i c T fr hb
  split at h
  ·cases h
  ·rename_i hs
   exact⟨c,T,fr,hb,by simpa using hs,h⟩
 ·cases h
theorem c_sli:Tryz.prog.cellsOf 22=1:=by kernel_rfl
theorem c_sls:Tryz.prog.cellsOf 36=1:=by kernel_rfl
theorem ds_tr{m:Nat}{l:List Value}{x:DataW H×List MemPlace}(h:DataW.trod enc Tryz.prog W 0 (fun _=>true) true m 22 l=some x):∃L v,l=[v]/\IntsC W L v:=by
 rcases open_ints Tryz.underlying22 Tryz.underlying3 (by kernel_rfl) h with⟨hcs,_⟩|⟨x,l,c,zs,hcs,_,hl,hm,hz,_,hcell,hwz⟩
 ·obtain ⟨h1, h2, h3⟩ := IsRow.ints (w := W) (a := none) (len := 0) (cap := 0) (zs := []) (.inl ⟨rfl, rfl, rfl, rfl⟩)
  exact⟨_,_,hcs,none,0,0,rfl,h1,h2,h3⟩
 ·obtain ⟨h1, h2, h3⟩ := IsRow.ints (w := W) (a := some x) (len := l) (cap := c) (zs := zs) (.inr ⟨x, rfl, hl, hm, by simpa using hz, hcell, hwz⟩)
  exact⟨_,_,hcs,_,_,_,rfl,h1,h2,h3⟩
theorem rows_tr{m:Nat}{c:Value}{x:DataW H×List MemPlace}(h:DataW.trod enc Tryz.prog W 0 (fun _=>true) true m 36 [c]=some x):∃(n:Nat) (f:Nat->List Int),RowC (RepF W) W 1 n (fun i=>dsI (f i)) c:=by
 rcases Go.Deep.open_slice Tryz.underlying36 h with⟨hcs,_⟩|⟨a,len,cap,mm,n,D,Pl,hcs,_,hl,hm,hmm,_,hE⟩
 ·simp at hcs
  subst hcs
  exact⟨0,fun _=>[],none,0,rfl,Nat.le_refl _,Nat.zero_le _,fun i hi=>absurd hi (Nat.not_lt_zero _)⟩
 ·simp at hcs
  subst hcs
  have hmm':mm=cap:=by simpa using hmm
  rw[c_sli] at hE
  have key:∀i,∃L:List Int,i<len->∃v,W.cells? 0 (a.add (i*1)) 1=some [v]/\IntsC W L v:=fun i=>by
   by_cases hi:i<len
   ·obtain ⟨cs, h1, h2⟩ := hE i (by omega)
    obtain⟨L,v,rfl,h4⟩:=ds_tr h2
    exact⟨L,fun _=>⟨v,h1,h4⟩⟩
   ·exact⟨[],fun h=>absurd h hi⟩
  obtain⟨f,hf⟩:=Classical.skolem.1 key
  refine⟨len,f,some a,cap,rfl,hl,hm,fun i hi=>?_⟩
  obtain⟨v,h1,h3⟩:=hf i hi
  obtain⟨v0,y1,_⟩:=hf 0 (Nat.lt_of_le_of_lt (Nat.zero_le _) hi)
  obtain⟨_,_,y3⟩:=World.cells?_some y1
  have y4:=y3 0 (by omega)
  rw[List.getElem?_eq_getElem (by simp)] at y4
  obtain⟨ys,T,fr,z1,z2,_⟩:=cell_at y4
  obtain⟨b,o,spot⟩:=a
  simp[Addr.add] at z1 z2
  subst z2
  obtain⟨_,_,w1⟩:=World.cells?_some h1
  have z3:=w1 0 (by omega)
  rw[add_none,add_none,cell_of_row _ _ _ _ _ _ z1] at z3
  simp at z3
  have hlt:=(Array.getElem?_eq_some_iff.1 z3).1
  refine⟨b,o,ys,(T,fr),rfl,z1,by omega,[v],ys.toList.drop (o+i*1+1),?_,[v],[],rfl,⟨v,rfl,h3⟩,rfl⟩
  rw[Nat.mul_one]
  have e:ys.toList[o+i]? = some v:=by simpa using z3
  rw[<- List.getElem_cons_drop (by simpa using hlt)]
  rw[List.getElem?_eq_getElem (by simpa using hlt)] at e
  rw[Option.some.inj e]
  rfl
theorem case_open{base:Nat}{v:Value}{d:DataW H}{p:List MemPlace}(hv:Value.okWide Tryz.prog W .any base 38 v)(h:DataW.Trod enc Tryz.prog W 0 (fun _=>true) true 38 v d p) :
  ∃c:Cs,RepV W W (fun _=>0) 0 (csV c) v:=by
 unfold Value.okWide at hv
 rw[Tryz.underlying38] at hv
 obtain⟨cs,rfl,hsz,ts,hts,_,hc⟩:=hv
 have hC:Tryz.prog.cellsOf 38=7:=by kernel_rfl
 have hT:Tryz.prog.cellTypes Tryz.prog.depth 38=some [22,22,3,3,3,36,36]:=by kernel_rfl
 rw[hC] at hsz
 obtain rfl:=Option.some.inj (hT.symm.trans hts)
 obtain⟨c0,c1,c2,c3,c4,c5,c6,rfl⟩:∃c0 c1 c2 c3 c4 c5 c6,cs=#[c0,c1,c2,c3,c4,c5,c6]:=by
  obtain⟨l⟩:=cs
  match l,hsz with
  | [c0,c1,c2,c3,c4,c5,c6],_=>exact⟨c0,c1,c2,c3,c4,c5,c6,rfl⟩
 obtain⟨u,hu1,hu2⟩:=hc 2 c2 rfl
 cases hu1
 obtain⟨z2,rfl,i2⟩:=int_of hu2
 obtain⟨u,hu1,hu2⟩:=hc 3 c3 rfl
 cases hu1
 obtain⟨z3,rfl,i3⟩:=int_of hu2
 obtain⟨u,hu1,hu2⟩:=hc 4 c4 rfl
 cases hu1
 obtain⟨z4,rfl,i4⟩:=int_of hu2
 obtain⟨fuel,hf⟩:=h
 obtain⟨xs,m,_,_,_,hx,hi⟩:=DataW.trod_struct Tryz.underlying38 hf
 have hx2:xs.length=5:=hx
 obtain⟨x0,M0,rfl,m0⟩:=list_cons hx2
 obtain⟨x1,M1,rfl,m1⟩:=list_cons m0
 obtain⟨x2,M2,rfl,m2⟩:=list_cons m1
 obtain⟨x3,M3,rfl,m3⟩:=list_cons m2
 obtain⟨x4,M4,rfl,m4⟩:=list_cons m3
 have g0:DataW.trod enc Tryz.prog W 0 (fun _=>true) true m 22 (List.take (Tryz.prog.cellsOf 22) (List.drop 0 [c0,c1,.int .i64 z2,.int .i64 z3,.int .i64 z4,c5,c6]))=some x0:=hi 0 _ rfl
 have g1:DataW.trod enc Tryz.prog W 0 (fun _=>true) true m 22 (List.take (Tryz.prog.cellsOf 22) (List.drop 1 [c0,c1,.int .i64 z2,.int .i64 z3,.int .i64 z4,c5,c6]))=some x1:=hi 1 _ rfl
 have g3:DataW.trod enc Tryz.prog W 0 (fun _=>true) true m 36 (List.take (Tryz.prog.cellsOf 36) (List.drop 5 [c0,c1,.int .i64 z2,.int .i64 z3,.int .i64 z4,c5,c6]))=some x3:=hi 3 _ rfl
 have g4:DataW.trod enc Tryz.prog W 0 (fun _=>true) true m 36 (List.take (Tryz.prog.cellsOf 36) (List.drop 6 [c0,c1,.int .i64 z2,.int .i64 z3,.int .i64 z4,c5,c6]))=some x4:=hi 4 _ rfl
 rw[c_sli] at g0 g1
 rw[c_sls] at g3 g4
 simp only[List.drop_zero,List.take_succ_cons,List.take_zero,List.drop_succ_cons] at g0 g1 g3 g4
 obtain⟨L0,v0,e0,k0⟩:=ds_tr g0
 obtain⟨L1,v1,e1,k1⟩:=ds_tr g1
 simp only[List.cons.injEq,and_true] at e0 e1
 subst e0 e1
 obtain⟨n3,f3,k3⟩:=rows_tr g3
 obtain⟨n4,f4,k4⟩:=rows_tr g4
 exact⟨⟨L0,L1,z2,z3,z4,n3,f3,n4,f4⟩,_,⟨[_],_,rfl,⟨_,rfl,k0⟩,[_],_,rfl,⟨_,rfl,k1⟩,[_],_,rfl,⟨rfl,lim64 i2⟩,[_],_,rfl,⟨rfl,lim64 i3⟩,[_],_,rfl,⟨rfl,lim64 i4⟩,[_],_,rfl,⟨_,rfl,k3⟩,[_],[],rfl,⟨_,rfl,k4⟩,rfl⟩,rfl,nofun⟩
end
end Go.Proofs.YtghemgdfmldoeaaGreat.fin
namespace Go.Proofs.YtghemgdfmldoeaaGreat
open Go.RowKit

set_option maxRecDepth 100000
section
def KCk:List Con:=[cChk]
def clV(s:Sh):V1:=⟨false,[.v (.bool (s.k==2))]⟩
def erB(z:Int):Option Mb:=some ⟨68,[.i z lim]⟩
def er0:Option Mb:=some ⟨68,[.k 0]⟩
def roV(s:Sh):V1:=⟨false,[roE s.n s.e]⟩
def ckD(s:Sh)(j:Nat):Ds:=⟨[(39,.le (inV (j:Int) 2000)),(37,.eq (roV s)),(38,.eq (lnE s.n)),(1,.eq (ptrN 0)),(2,.eq (ptrN 1)),(3,.eq (clV s))],shB s++[er0]⟩
def ckE(s:Sh):Ds:=⟨[(1,.eq (ptrN 0)),(2,.eq (ptrN 1)),(3,.eq (clV s))],shB s++[er0]⟩
def ckP(s:Sh):List Pf:=[pR (ptrN 0),pR (ptrN 1),pR (clV s)]++pSh s
theorem ck_round(s:Sh)(hn:s.n<=40)(k:Nat)(hk:k<s.n)(h:checkZ (s.e k)=0):Rnd [] KCk 68 18 [] (nF 68) (ckD s k) (ckD s (k+1)) .nm :=
 ⟨[true,false],[pT (lt_tt (show ((k:Nat):Int)<(s.n:Int) by omega)),pP (show 0<=((k:Nat):Int)/\((k:Nat):Int)<s.n by omega),pF (ne_F (show ¬checkZ (s.e k)≠0 by simpa using h)),pI k (by omega),pR (roV s),pR (lnE s.n)]++ckP s,by kernel_rfl⟩
theorem ck_good(s:Sh)(hn:s.n<=40)(h:errN s.e s.n=0):OrcOk Tryz.prog (lpC 68 18) ⟨nF 68,ckD s 0,.ex 1,ckE s⟩ :=
 orc (X:=[]) (K:=KCk) s.n (ckD s) (fun _=>[]) (by kernel_rfl) (fun _=>by kernel_rfl) (fun _ _=>LT.nil) (fun k hk=>ck_round s hn k hk (errN_0 h k hk))
  ⟨[false],[pF (lt_ff (show ¬((s.n:Nat):Int)<(s.n:Int) by omega))]++ckP s,by kernel_rfl⟩ nofun
theorem ck_bad(s:Sh)(hn:s.n<=40)(m:Nat)(hm:m<s.n)(h:∀k,k<m->checkZ (s.e k)=0)(h1:checkZ (s.e m)≠0):OrcOk Tryz.prog (lpC 68 18) ⟨nF 68,ckD s 0,.rt,⟨[(2,.eq (ptrN 1))],[none,erB (checkZ (s.e m))]⟩⟩ :=
 orc (X:=[]) (K:=KCk) m (ckD s) (fun _=>[]) (by kernel_rfl) (fun _=>by kernel_rfl) (fun _ _=>LT.nil) (fun k hk=>ck_round s hn k (by omega) (h k hk))
  ⟨[true,true],[pT (lt_tt (show ((m:Nat):Int)<(s.n:Int) by omega)),pP (show 0<=((m:Nat):Int)/\((m:Nat):Int)<s.n by omega),pT (ne_T h1),pR (ptrN 1),⟨checkZ (s.e m)=checkZ (s.e m),rfl⟩],by kernel_rfl⟩ nofun
def ckIn(s:Sh):List Pf:=[⟨(0:Int)=((0:Nat):Int),rfl⟩,pR (roV s),pR (lnE s.n)]++ckP s
def early(s:Sh):Prop:=(s.k≠1/\s.k≠2)\/(s.n:Int)<fewS s\/40<s.n\/errN s.e s.n≠0
theorem ck_early(s:Sh)(h:early s):Fok Tryz.prog 68 [shpV s] (.one (inV (chkS s) lim)):=by
 have kind:((s.k==1)=false/\(s.k==2)=false)\/((s.k==1)=false/\(s.k==2)=true)\/((s.k==1)=true/\(s.k==2)=false):=by
  simp only[beq_eq_false_iff_ne,beq_iff_eq,ne_eq];omega
 rcases kind with⟨h1,h2⟩|⟨h1,h2⟩|⟨h1,h2⟩
 ·have g1 : ¬ s.k = 1 := by simpa using h1
  have g2:¬s.k=2:=by simpa using h2
  exact Fok.vS (show chkS s=12 by unfold chkS;rw[if_pos ⟨g1,g2⟩]) (fok KCk [true,true,true] [pT (ne_T g1),pT (not_T h2),pT (not_T h2)] (by kernel_rfl))
 ·have g2 : s.k = 2 := by simpa using h2
  have g1:s.k≠1:=by omega
  have ef:fewS s=2:=by unfold fewS;rw[if_neg (by omega)]
  by_cases h0:(s.n:Int)=0
  ·exact Fok.vS (show chkS s=12 by unfold chkS;rw[if_neg (by omega),ef,if_pos (by omega)]) (fok KCk [true,false,true,true] [pT (ne_T g1),pF (not_F h2),pT (eq_tt h0),pT (eq_tt h0)] (by kernel_rfl))
  by_cases h3:(s.n:Int)<2
  ·exact Fok.vS (show chkS s=12 by unfold chkS;rw[if_neg (by omega),ef,if_pos h3]) (fok KCk [true,false,false,true,true] [pT (ne_T g1),pF (not_F h2),pF (eq_ff h0),pT h2,pT (lt_tt h3)] (by kernel_rfl))
  by_cases h4:(s.n:Int)>40
  ·exact Fok.vS (show chkS s=2 by unfold chkS;rw[if_neg (by omega),ef,if_neg h3,if_pos (by omega)]) (fok KCk [true,false,false,true,false,true] [pT (ne_T g1),pF (not_F h2),pF (eq_ff h0),pT h2,pF (lt_ff h3),pT (gt_T h4)] (by kernel_rfl))
  have hn:s.n<=40:=by omega
  have h5:errN s.e s.n≠0:=by unfold early at h;omega
  have e0:chkS s=errN s.e s.n:=by unfold chkS;rw[if_neg (by omega),ef,if_neg h3,if_neg (by omega),if_pos h5]
  obtain⟨m,k1,k2,k3⟩:=errN_n h5
  rw[e0,k2]
  rw[k2] at h5
  exact fokL [] KCk _ (LT.cons (ck_bad s hn m k1 k3 h5) LT.nil) [true,false,false,true,false,false] ([pT (ne_T g1),pF (not_F h2),pF (eq_ff h0),pT h2,pF (lt_ff h3),pF (gt_F h4)]++ckIn s) (by kernel_rfl)
 ·have g1 : s.k = 1 := by simpa using h1
  have ef:fewS s=1:=by unfold fewS;rw[if_pos g1]
  have n1:¬s.k≠1:=by omega
  by_cases h0:(s.n:Int)=0
  ·exact Fok.vS (show chkS s=12 by unfold chkS;rw[if_neg (by omega),ef,if_pos (by omega)]) (fok KCk [false,true,true] [pF (ne_F n1),pT (eq_tt h0),pT (eq_tt h0)] (by kernel_rfl))
  by_cases h4:(s.n:Int)>40
  ·exact Fok.vS (show chkS s=2 by unfold chkS;rw[if_neg (by omega),ef,if_neg (by omega),if_pos (by omega)]) (fok KCk [false,false,false,true] [pF (ne_F n1),pF (eq_ff h0),pF h2,pT (gt_T h4)] (by kernel_rfl))
  have hn:s.n<=40:=by omega
  have h5:errN s.e s.n≠0:=by unfold early at h;omega
  have e0:chkS s=errN s.e s.n:=by unfold chkS;rw[if_neg (by omega),ef,if_neg (by omega),if_neg (by omega),if_pos h5]
  obtain⟨m,k1,k2,k3⟩:=errN_n h5
  rw[e0,k2]
  rw[k2] at h5
  exact fokL [] KCk _ (LT.cons (ck_bad s hn m k1 k3 h5) LT.nil) [false,false,false,false] ([pF (ne_F n1),pF (eq_ff h0),pF h2,pF (gt_F h4)]++ckIn s) (by kernel_rfl)
theorem ck_pre(s:Sh)(h:¬early s):∃(q:List Bool) (pf:List Pf) (L:List (Nat×Orc)),LT 68 L/\preF [] KCk L 68 4 [shpV s] (ckE s) q=some (pf.map Pf.p):=by
 have hk:s.k=1\/s.k=2:=by unfold early at h;omega
 have hn:s.n<=40:=by unfold early at h;omega
 have h5:errN s.e s.n=0:=by unfold early at h;omega
 have hf:¬(s.n:Int)<fewS s:=by unfold early at h;omega
 have oc:=LT.cons (ck_good s hn h5) LT.nil
 rcases hk with g1|g2
 ·have ef : fewS s = 1 := by unfold fewS; rw [if_pos g1]
  exact⟨[false,false,false,false],[pF (ne_F (show ¬s.k≠1 by omega)),pF (eq_ff (show (s.n:Int)≠0 by omega)),pF (eq_ff (show s.k≠2 by omega)),pF (gt_F (show ¬(40:Int)<s.n by omega))]++ckIn s++ckP s,_,oc,by kernel_rfl⟩
 ·have ef : fewS s = 2 := by unfold fewS; rw [if_neg (by omega)]
  exact⟨[true,false,false,true,false,false],[pT (ne_T (show s.k≠1 by omega)),pF (not_F (eq_tt g2)),pF (eq_ff (show (s.n:Int)≠0 by omega)),pT (eq_tt g2),pF (lt_ff (show ¬(s.n:Int)<2 by omega)),pF (gt_F (show ¬(40:Int)<s.n by omega))]++ckIn s++ckP s,_,oc,by kernel_rfl⟩
end

set_option maxRecDepth 100000
section
theorem within9(a b c d px py:Int):Fok Tryz.prog 177 [rcV a b c d,ptV px py lim] (.one (blV (inB a b c d px py))):=by
 unfold inB
 cases h0:decide (a<=px) with
 | false=>exact fok [] [false] [pF h0] (by kernel_rfl)
 | true =>
  cases h1:decide (px<=c) with
  | false=>exact fok [] [true,false] [pT h0,pF h1] (by kernel_rfl)
  | true =>
   cases h2:decide (b<=py) with
   | false=>exact fok [] [true,true,false] [pT h0,pT h1,pF h2] (by kernel_rfl)
   | true=>exact fok [] [true,true,true] [pT h0,pT h1,pT h2] (by kernel_rfl)
def to4(l:List It):Option (Int×Int×Int×Int):=match l with | [.i a _,.i b _,.i c _,.i d _]=>some (a,b,c,d)|_=>none
theorem ptB_lim{V W:World}{r:Nat->Nat}{k:Nat}{l:List It}{p:Int×Int}(h:ptB l=some p):∀v,RepV V W r k ⟨true,l⟩ v->RepV V W r k (ptV p.1 p.2 lim) v:=by
 unfold ptB at h
 split at h<;>cases h
 intro v ⟨cs,⟨c,d,e,h1,c2,d2,e2,h2,h3⟩,h4,h5⟩
 cases h3
 exact⟨cs,⟨c,d,e,⟨h1.1,i64_lim h1.2.2,h1.2.2⟩,c2,[],e2,⟨h2.1,i64_lim h2.2.2,h2.2.2⟩,rfl⟩,h4,h5⟩
theorem to4_lim{V W:World}{r:Nat->Nat}{k:Nat}{l:List It}{p:Int×Int×Int×Int}(h:to4 l=some p):∀v,RepV V W r k ⟨true,l⟩ v->RepV V W r k (rcV p.1 p.2.1 p.2.2.1 p.2.2.2) v:=by
 unfold to4 at h
 split at h<;>cases h
 intro v ⟨cs,⟨c,d,e,h1,c2,d2,e2,h2,c3,d3,e3,h3,c4,d4,e4,h4,h5⟩,h6,h7⟩
 cases h5
 exact⟨cs,⟨c,d,e,⟨h1.1,i64_lim h1.2.2,h1.2.2⟩,c2,d2,e2,⟨h2.1,i64_lim h2.2.2,h2.2.2⟩,c3,d3,e3,⟨h3.1,i64_lim h3.2.2,h3.2.2⟩,c4,[],e4,⟨h4.1,i64_lim h4.2.2,h4.2.2⟩,rfl⟩,h6,h7⟩
def d09Win:Con where
 f:=177
 g:=fun | [⟨true,l⟩,⟨true,m⟩]=>(match to4 l,ptB m with|some q,some p=>some (.one (blV (inB q.1 q.2.1 q.2.2.1 q.2.2.2 p.1 p.2)),[])|_,_=>none)|_=>none
 ok:=by
  intro args res ps h' hp
  split at h'<;>try cases h'
  split at h'<;>cases h'
  rename_i he hq
  exact (within9 _ _ _ _ _ _).pre fun W=>rvs_1 (to4_lim he) (rvs_1 (ptB_lim hq) rvs_0)
def ptM(px py:Int):Option Mb:=some ⟨24,[.i px lim,.i py lim]⟩
def pPt(px py:Int):List Pf:=[⟨px=px,rfl⟩,⟨py=py,rfl⟩]
def pW(e:Nat->Ed)(px py:Int)(k:Nat)(h:k<1000):Pf:=⟨wnd e px py k+rayZ (e k) px py=wnd e px py (k+1)/\(wnd e px py k+rayZ (e k) px py).natAbs<=2000,rfl,by have:=wnd_bd e px py (k+1);unfold wnd at this;omega⟩
def shpC(f:FuncId)(g:Sh->Int->Int->AV)(c:Sh->List Prop)(h:∀s px py,All (c s)->Fok Tryz.prog f [shpV s,ptV px py lim] (g s px py)):Con where
 f:=f
 g:=fun | [⟨true,l⟩,⟨true,m⟩]=>(match toSh l,ptB m with|some z,some p=>some (g z.1 p.1 p.2,z.2++c z.1)|_,_=>none)|_=>none
 ok:=by
  intro args res ps h' hp
  split at h'<;>try cases h'
  split at h'<;>cases h'
  rename_i he hq
  obtain⟨p1,p2⟩:=All.app hp
  exact (h _ _ _ p2).pre fun W=>rvs_1 (fun v hv=>toSh_rep he p1 hv) (rvs_1 (ptB_lim hq) rvs_0)
end

set_option maxRecDepth 100000
section
theorem wi_min(a b:Int):decide (min a b >= 0)=(decide (0<=a)&&decide (0<=b)):=by
 rw[Bool.eq_iff_iff];simp;omega
theorem within_ok(dx dy fx fy tx ty:Int):Fok Tryz.prog 215 [ptV dx dy c27,ptV fx fy c27,ptV tx ty c27] (.one (blV (wiB dx dy fx fy tx ty))):=by
 have h:wiB dx dy fx fy tx ty=decide (min (fx*dy-fy*dx) (dx*ty-dy*tx) >= 0):=(wi_min _ _).symm
 rw[h]
 exact fok [] [] [] (by kernel_rfl)
def cWithin:Con where
 f:=215
 g:=fun | [⟨true,[.i dx A,.i dy B]⟩,⟨true,[.i fx C,.i fy D]⟩,⟨true,[.i tx E,.i ty F]⟩]=>if (A<=c27/\B<=c27)/\(C<=c27/\D<=c27)/\(E<=c27/\F<=c27) then some (.one (blV (wiB dx dy fx fy tx ty)),[]) else none|_=>none
 ok:=by
  intro args res ps h hp
  split at h<;>try cases h
  split at h<;>cases h
  rename_i hb
  exact (within_ok _ _ _ _ _ _).pre fun W=>rvs_1 (pt_low hb.1.1 hb.1.2) (rvs_1 (pt_low hb.2.1.1 hb.2.1.2) (rvs_1 (pt_low hb.2.2.1 hb.2.2.2) rvs_0))
theorem neB_F{x y:Int}(h:(x==0&&y==0)=true):(!eqZ [.i x,.i y] [.i 0,.i 0])=false:=by simpa[eqZ,eqS] using h
theorem neB_T{x y:Int}(h:(x==0&&y==0)=false):(!eqZ [.i x,.i y] [.i 0,.i 0])=true:=by simp only[eqZ,eqS,h];rfl
theorem quarter_ok(e:Ed)(x y:Int)(hok:e.ok=true):Fok Tryz.prog 202 [edV e 3 c26,ptV x y c27] (.one (blV (inQ e x y))):=by
 by_cases hk:e.k=3
 ·have h1 : (e.k == 3) = true := by simpa using hk
  cases hz:(x==0&&y==0) with
  | true =>
   rw[show inQ e x y=false by unfold inQ;rw[hz];rfl]
   exact fok [cRev,cWithin] [true,false] [pT h1,pP hok,pF (neB_F hz)] (by kernel_rfl)
  | false =>
   rw[show inQ e x y=wiB x y (e.bx-e.cx) (e.by'-e.cy) (e.ax-e.cx) (e.ay-e.cy) by unfold inQ;rw[hz,if_pos hk];rfl]
   exact fok [cRev,cWithin] [true,true] [pT h1,pP hok,pT (neB_T hz)] (by kernel_rfl)
 ·have h1 : (e.k == 3) = false := by simpa using hk
  cases hz:(x==0&&y==0) with
  | true =>
   rw[show inQ e x y=false by unfold inQ;rw[hz];rfl]
   exact fok [cRev,cWithin] [false,false] [pF h1,pF (neB_F hz)] (by kernel_rfl)
  | false =>
   rw[show inQ e x y=wiB x y (e.ax-e.cx) (e.ay-e.cy) (e.bx-e.cx) (e.by'-e.cy) by unfold inQ;rw[hz,if_neg hk];rfl]
   exact fok [cRev,cWithin] [false,true] [pF h1,pT (neB_T hz)] (by kernel_rfl)
def cQuarter:Con where
 f:=202
 g:=fun | [⟨true,l⟩,⟨true,[.i x A,.i y B]⟩]=>if A<=c27/\B<=c27 then (toEd l).map fun e=>(.one (blV (inQ e x y)),[e.ok=true]) else none|_=>none
 ok:=by
  intro args res ps h hp
  split at h<;>try cases h
  split at h<;>try cases h
  rename_i hb
  rename_i l x A y B
  cases he:toEd l with
  | none=>simp[he] at h
  | some e =>
   simp only[he,Option.map_some,Option.some.injEq,Prod.mk.injEq] at h
   obtain⟨rfl,rfl⟩:=h
   exact (quarter_ok e x y hp.1).pre fun W=>rvs_1 (ed_ok he hp.1) (rvs_1 (pt_low hb.1 hb.2) rvs_0)
def spV(s:Sp):V1:=⟨true,[.i s.x lim,.i s.y lim,.i s.dx lim,.i s.dy lim,.i s.p lim,.i s.q lim,.i s.len lim]⟩
def rsV(r:Rt×Sp):AV:=.tup [rtV r.1,spV r.2]
theorem zero_sub'(x:Int):0-x = -x:=by omega
end

set_option maxRecDepth 100000
section
theorem coord_F{x y:Int}(h:coordB x y=true):(!coordB x y)=false:=by rw[h];rfl
theorem coord_T{x y:Int}(h:coordB x y=false):(!coordB x y)=true:=by rw[h];rfl
theorem mulP_sq{x:Int}(h:I64 x):(mulP (ofZ x) (ofZ x)).1=ofZ (x*x):=by
 have s0:=(Wd.of64 h).small (by omega)
 have s1:=((Wd.of64 h).mul (Wd.of64 h)).small (by omega)
 rw[mulP_small' s0 s0 s1]
def cPower:Con where
 f:=201
 g:=fun | [⟨false,[.i x _]⟩]=>some (.one (nmV (ofZ (x*x))),[])|_=>none
 ok:=by
  intro args res ps h _
  split at h<;>cases h
  intro W vals hv
  have hx:=hv
  simp only[rvs_cons,rvs_nil,rv_i] at hx
  obtain⟨_,⟨⟨_,hi⟩,rfl⟩,_,rfl,rfl⟩:=hx
  rw[<- mulP_sq hi]
  exact fok [cNOf,cMul] [] [] (by kernel_rfl) W _ hv
def KP:List Con:=[cNOf,cPower,cRtOf,cChk,cVRight,cRad,cQuarter]
theorem point_ok(e:Ed)(x y:Int)(hok:e.ok=true)(hc:coordB x y=true):Fok Tryz.prog 133 [edV e 3 c26,ptV x y c26] (rsV (pointR e x y)):=by
 have P1:=pF (chk_F hok)
 have P2:=pF (coord_F hc)
 have e0:pointR e x y=if e.k=1 then lineR e x y else arcR e x y:=by unfold pointR;rw[hok,hc];rfl
 rw[e0]
 by_cases hk:e.k=1
 ·have hk1 : (e.k == 1) = true := by simpa using hk
  rw[if_pos hk]
  unfold lineR
  split
  ·rename_i h1
   exact fok KP [false,false,true,true] [P1,P2,pT hk1,pT (decide_eq_true h1)] (by kernel_rfl)
  ·rename_i h1
   split
   ·rename_i h2
    exact fok KP [false,false,true,false,true] [P1,P2,pT hk1,pF (decide_eq_false h1),pT (ge_T h2)] (by kernel_rfl)
   ·rename_i h2
    exact fok KP [false,false,true,false,false] [P1,P2,pT hk1,pF (decide_eq_false h1),pF (ge_F h2)] (by kernel_rfl)
 ·have hk1 : (e.k == 1) = false := by simpa using hk
  rw[if_neg hk]
  unfold arcR
  split
  ·rename_i hq
   by_cases h2:radZ e*radZ e<=sqI (x-e.cx) (y-e.cy)
   ·rw [if_pos h2, <- zero_sub' (radZ e)]
    exact fok KP [false,false,false,true,true] [P1,P2,pF hk1,pP hok,pP hok,pT hq,pT (ge_T h2)] (by kernel_rfl)
   ·rw [if_neg h2]
    exact fok KP [false,false,false,true,false,true] [P1,P2,pF hk1,pP hok,pP hok,pT hq,pF (ge_F h2),pP hok,pT hq] (by kernel_rfl)
  ·rename_i hq
   replace hq:=Bool.eq_false_iff.2 hq
   split
   ·rename_i h2
    exact fok KP [false,false,false,false,false,true] [P1,P2,pF hk1,pP hok,pP hok,pF hq,pP hok,pF hq,pT (decide_eq_true h2)] (by kernel_rfl)
   ·rename_i h2
    exact fok KP [false,false,false,false,false,false] [P1,P2,pF hk1,pP hok,pP hok,pF hq,pP hok,pF hq,pF (decide_eq_false h2)] (by kernel_rfl)
theorem point_no(e:Ed)(x y:Int)(h:(e.ok&&coordB x y)=false):Fok Tryz.prog 133 [edV e lim lim,ptV x y lim] (rsV (pointR e x y)):=by
 rw[show pointR e x y=(Rt.no,Sp.no) by unfold pointR;rw[h];rfl]
 cases ho:e.ok with
 | false=>exact fok KP [true] [pT (chk_T ho)] (by kernel_rfl)
 | true =>
  rw[ho] at h
  exact fok KP [false,true] [pF (chk_F ho),pT (coord_T h)] (by kernel_rfl)
def cPoint:Con where
 f:=133
 g:=fun | [⟨true,l⟩,⟨true,[.i x _,.i y _]⟩]=>(toEd l).map fun e=>(rsV (pointR e x y),[])|_=>none
 ok:=by
  intro args res ps h hp
  split at h<;>try cases h
  rename_i l x A y B
  cases he:toEd l with
  | none=>simp[he] at h
  | some e =>
   simp only[he,Option.map_some,Option.some.injEq,Prod.mk.injEq] at h
   obtain⟨rfl,rfl⟩:=h
   cases hc:(e.ok&&coordB x y) with
   | false=>exact (point_no e x y hc).pre fun W=>rvs_1 (ed_lim he) (rvs_1 pt_lim rvs_0)
   | true =>
    simp only[Bool.and_eq_true] at hc
    exact (point_ok e x y hc.1 hc.2).pre fun W=>rvs_1 (ed_ok he hc.1) (rvs_1 (pt_co (coordB_iff.1 hc.2)) rvs_0)
end

set_option maxRecDepth 100000
section
def rightZC(f:FuncId)(H:∀a:Rt,Dig a.n.d/\Dig a.d.d->Fok Tryz.prog f [rtV a] (.one (blV a.right))):Con where
 f:=f
 g:=fun | [⟨true,[.i a _,.i s _,.d (.zi n _),.d (.zi d _)]⟩]=>some (.one (blV (Rt.right ⟨a,s,ofZ n,ofZ d⟩)),[])|_=>none
 ok:=by
  intro args res ps h hp
  split at h<;>cases h
  rename_i a _ s _ n N d D
  refine Fok.pre (H ⟨a,s,ofZ n,ofZ d⟩ ⟨dig_digs _,dig_digs _⟩) fun W=>rvs_1 (fun v hv=>?_) fun _ h=>h
  simp only[rv_t,rl_i,rl_zi,rl_nil] at hv
  obtain⟨_,⟨⟨_,i1⟩,_,rfl,⟨_,i2⟩,_,rfl,_,n1,p1,l1,c1,h1,_,rfl,_,m1,q1,k1,d1,h2,_,rfl,rfl⟩,rfl⟩:=hv
  exact rv_t.2 ⟨_,rl_i.2 ⟨lim64 i1,_,rfl,rl_i.2 ⟨lim64 i2,_,rfl,rl_num.2 ⟨n1,p1,l1,c1,h1,_,rfl,rl_num.2 ⟨m1,q1,k1,d1,h2,_,rfl,rfl⟩⟩⟩⟩,rfl⟩
def c8:Nat:=4294967296 ^ 8
def rzV(a s n d:Int):V1:=⟨true,[.i a lim,.i s 1,.d (.zi n c8),.d (.zi d c8)]⟩
theorem cmpRt_bd(a b:Rt):(cmpRt a b).natAbs<=1/\I64 (cmpRt a b):=by
 have sg3:∀ {x:Int},-1<=x/\x<=1->x = -1\/x=0\/x=1:=fun h=>by omega
 have key : -1<=cmpRt a b/\cmpRt a b<=1:=by
  unfold cmpRt
  split
  ·unfold cmpR
   split
   ·omega
   ·have h := sg3 (sideZ_bd ((a.add - b.add) * a.d.z) a.s (a.n.z * a.d.z))
    have g:=sg3 (sideZ_bd ((a.add-b.add)*(a.add-b.add)*a.d.z*b.d.z+a.n.z*b.d.z-b.n.z*a.d.z) (2*(a.add-b.add)*a.s*b.d.z) (a.n.z*a.d.z))
    generalize sideZ ((a.add-b.add)*a.d.z) a.s (a.n.z*a.d.z)=u at h
    generalize sideZ ((a.add-b.add)*(a.add-b.add)*a.d.z*b.d.z+a.n.z*b.d.z-b.n.z*a.d.z) (2*(a.add-b.add)*a.s*b.d.z) (a.n.z*a.d.z)=v at g
    rcases h with rfl|rfl|rfl<;>rcases g with rfl|rfl|rfl<;>decide
  ·decide
 exact⟨by omega,by unfold I64;omega⟩
theorem rz_of{V W:World}{r:Nat->Nat}{k:Nat}{a s:Int}{A S:Nat}{n d:Nm}(h:Rt.right ⟨a,s,n,d⟩=true)(dn:Dig n.d)(dd:Dig d.d):(n=ofZ n.z/\d=ofZ d.z/\0<=n.z*d.z)/\∀v,RepV V W r k ⟨true,[.i a A,.i s S,.d (.num n),.d (.num d)]⟩ v->RepV V W r k (rzV a s n.z d.z) v:=by
 have ok:=(right_ok (a:=⟨a,s,n,d⟩) dn dd h).1
 have en:=ofZ_of_right dn ok.nr
 have ed:=ofZ_of_right dd ok.dr
 have zn:n.z=(val n.d:Int):=ok.zs.1
 have zd:d.z=(val d.d:Int):=ok.zs.2
 have bd:∀ {x:List Nat},Dig x->x.length<=8->val x<=c8:=fun hx hl=>Nat.le_trans (Nat.le_of_lt (val_lt hx)) (Nat.pow_le_pow_right (by decide) hl)
 refine⟨⟨en.symm,ed.symm,by rw[zn,zd];exact Int.mul_nonneg (by omega) (by omega)⟩,fun v hv=>?_⟩
 simp only[rv_t,rl_i,rl_num,rl_nil] at hv
 obtain⟨_,⟨⟨_,i1⟩,_,rfl,⟨_,i2⟩,_,rfl,n1,p1,l1,c1,h1,_,rfl,m1,q1,k1,d1,h2,_,rfl,rfl⟩,rfl⟩:=hv
 have b1:=bd dn ok.nl
 have b2:=bd dd ok.dl
 have sl:=ok.sl
 have su:=ok.su
 simp only at sl su
 exact rv_t.2 ⟨_,rl_i.2 ⟨lim64 i1,_,rfl,rl_i.2 ⟨⟨by omega,i2⟩,_,rfl,rl_zi.2 ⟨by omega,n1,p1,l1,c1,en.symm ▸ h1,_,rfl,rl_zi.2 ⟨by omega,m1,q1,k1,d1,ed.symm ▸ h2,_,rfl,rfl⟩⟩⟩⟩,rfl⟩
def cmpC(f:FuncId)(N:∀a b:Rt,Dig a.n.d/\Dig a.d.d->Dig b.n.d/\Dig b.d.d->(a.right&&b.right)=false->Fok Tryz.prog f [rtV a,rtV b] (.one (inV 0 lim)))
  (H:∀a s n d b t m e:Int,Rt.right ⟨a,s,ofZ n,ofZ d⟩=true->Rt.right ⟨b,t,ofZ m,ofZ e⟩=true->0<=n*d->Fok Tryz.prog f [rzV a s n d,rzV b t m e] (.one (inV (cmpR (a-b) s n d t m e) lim))):Con where
 f:=f
 g:=fun | [⟨true,[.i a _,.i s _,.d (.num n),.d (.num d)]⟩,⟨true,[.i b _,.i t _,.d (.num m),.d (.num e)]⟩]=>some (.one (inV (cmpRt ⟨a,s,n,d⟩ ⟨b,t,m,e⟩) 1),[])|_=>none
 ok:=by
  intro args res ps h hp
  split at h<;>cases h
  rename_i a A s S n d b B t T m e
  intro W vals hv
  obtain⟨v1,g1,l1,rfl,hv1⟩:=rvs_cons.1 hv
  obtain⟨v2,g2,l2,rfl,hv2⟩:=rvs_cons.1 hv1
  obtain⟨k1,dn,dd,_⟩:=rt_at g1
  obtain⟨k2,dm,de,_⟩:=rt_at g2
  have b0:=(cmpRt_bd ⟨a,s,n,d⟩ ⟨b,t,m,e⟩).1
  cases hr:(Rt.right ⟨a,s,n,d⟩&&Rt.right ⟨b,t,m,e⟩) with
  | false =>
   have e0:cmpRt ⟨a,s,n,d⟩ ⟨b,t,m,e⟩=0:=by unfold cmpRt;rw[hr];rfl
   rw[e0]
   exact (N _ _ ⟨dn,dd⟩ ⟨dm,de⟩ hr).bd (by decide) W _ (rvs_cons.2 ⟨_,k1,_,rfl,rvs_cons.2 ⟨_,k2,_,rfl,hv2⟩⟩)
  | true =>
   have e0:cmpRt ⟨a,s,n,d⟩ ⟨b,t,m,e⟩=cmpR (a-b) s n.z d.z t m.z e.z:=by unfold cmpRt;rw[hr];rfl
   rw[e0] at b0 ⊢
   simp only[Bool.and_eq_true] at hr
   obtain⟨⟨x1,x2,x3⟩,x4⟩:=rz_of (V:=W) (W:=W) (r:=fun _=>0) (k:=0) (A:=A) (S:=S) hr.1 dn dd
   obtain⟨⟨y1,y2,_⟩,y4⟩:=rz_of (V:=W) (W:=W) (r:=fun _=>0) (k:=0) (A:=B) (S:=T) hr.2 dm de
   exact (H a s n.z d.z b t m.z e.z (by rw[<- x1,<- x2];exact hr.1) (by rw[<- y1,<- y2];exact hr.2) x3).bd b0 W _ (rvs_cons.2 ⟨_,x4 _ g1,_,rfl,rvs_cons.2 ⟨_,y4 _ g2,_,rfl,hv2⟩⟩)
end

set_option maxRecDepth 100000
section
def cZAdd:Con:=zBinC 143 addP (·+·) (·+·) (fun A B=>decide (A+B<c2048)) num_Add zadd_c
def cZCmp:Con:=zCmpC 145 fun a b _ _ _ _ _ _ _ _ w h1 h2=>num_Cmp a b _ _ _ _ _ _ _ _ w h1 h2
def cRightZ:Con:=rightZC 98 fun a _=>rtRight_fok a
def KZ:List Con:=[cZOf,cZMul,cZAdd,cZCmp]
theorem rtSide_fok(a b c:Int):Fok Tryz.prog 151 [ziV a c672,ziV b c672,ziV c c672] (.one (inV (sideZ a b c) lim)):=by
 unfold sideZ
 by_cases h:0<=sgn a*(sgn b*sgn c)
 ·rw [if_pos h]
  exact fok KZ [true] [pT (decide_eq_true h)] (by kernel_rfl)
 ·rw [if_neg h, show a * a = 1 * a * a by rw [Int.one_mul], show b * b * c = 1 * b * b * c by rw [Int.one_mul]]
  exact fok KZ [false] [pF (decide_eq_false h)] (by kernel_rfl)
def cZSide:Con:=sideC 151 c672 fun a b c _ _ _ _=>rtSide_fok a b c
def KRt:List Con:=cRightZ::cZSide::KZ
theorem rtCmp_z(a s n d b t m e:Int)(h1:Rt.right ⟨a,s,ofZ n,ofZ d⟩=true)(h2:Rt.right ⟨b,t,ofZ m,ofZ e⟩=true)(h0:0<=n*d):Fok Tryz.prog 99 [rzV a s n d,rzV b t m e] (.one (inV (cmpR (a-b) s n d t m e) lim)):=by
 have h3:0<=1*n*d:=by rw[Int.one_mul];exact h0
 have hU:sideZ (1*(0+a+1 * -1*b)*d) s (1*n*d)=sideZ ((a-b)*d) s (n*d):=by
  rw[show 1*(0+a+1 * -1*b)*d=(a-b)*d by grind,Int.one_mul]
 have hV:sideZ (0+1*(0+a+1 * -1*b)*(0+a+1 * -1*b)*d*e+1*n*e+1 * -1*(1*m*d)) (1*2*(0+a+1 * -1*b)*s*e) (1*n*d)=sideZ ((a-b)*(a-b)*d*e+n*e-m*d) (2*(a-b)*s*e) (n*d):=by
  rw[show 0+1*(0+a+1 * -1*b)*(0+a+1 * -1*b)*d*e+1*n*e+1 * -1*(1*m*d)=(a-b)*(a-b)*d*e+n*e-m*d by grind,show 1*2*(0+a+1 * -1*b)*s*e=2*(a-b)*s*e by grind,Int.one_mul]
 unfold cmpR
 rw[<- hU,<- hV]
 by_cases h:sideZ (1*(0+a+1 * -1*b)*d) s (1*n*d)≠t
 ·rw [if_pos h]
  exact fok KRt [false,false,true] [pF (nt_F h1),pF (nt_F h2),pP h3,pT (ne_T h)] (by kernel_rfl)
 ·rw [if_neg h]
  exact fok KRt [false,false,false] [pF (nt_F h1),pF (nt_F h2),pP h3,pF (ne_F h),pP h3] (by kernel_rfl)
theorem rtCmp_no(a b:Rt)(h:(a.right&&b.right)=false):Fok Tryz.prog 99 [rtV a,rtV b] (.one (inV 0 lim)):=by
 cases h1:a.right with
 | false=>exact fok [cRight] [true] [pT (nt_T h1)] (by kernel_rfl)
 | true =>
  rw[h1] at h
  exact fok [cRight] [false,true] [pF (nt_F h1),pT (nt_T h)] (by kernel_rfl)
def cCmp:Con:=cmpC 99 (fun a b _ _ h=>rtCmp_no a b h) rtCmp_z
theorem rtCmpInt_fok(a:Rt)(z:Int):Fok Tryz.prog 37 [rtV a,inV z lim] (.one (inV (cmpRt a ⟨z,0,zero,ofZ 1⟩) lim)):=fok [cCmp,cNOf] [] [] (by kernel_rfl)
def cCmpInt:Con where
 f:=37
 g:=fun | [⟨true,[.i a _,.i s _,.d (.num n),.d (.num d)]⟩,⟨false,[.i z _]⟩]=>some (.one (inV (cmpRt ⟨a,s,n,d⟩ ⟨z,0,zero,ofZ 1⟩) 1),[])|_=>none
 ok:=by
  intro args res ps h hp
  split at h<;>cases h
  rename_i a _ s _ n d z _
  exact ((rtCmpInt_fok ⟨a,s,n,d⟩ z).bd (cmpRt_bd _ _).1).pre fun W=>rvs_1 (fun _ h=>(rt_at h).1) (rvs_1 in_lim fun _ h=>h)
end
end Go.Proofs.YtghemgdfmldoeaaGreat
