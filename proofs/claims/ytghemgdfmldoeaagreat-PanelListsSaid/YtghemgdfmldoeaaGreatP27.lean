import Derived.Test.YtghemgdfmldoeaaGreatP26
import Derived.Test.YtghemgdfmldoeaaGreatP23
import Derived.Deep.Slices
set_option linter.unusedVariables false
set_option linter.unusedSimpArgs false
namespace Go.Proofs.YtghemgdfmldoeaaGreat
open Go.RowKit
structure LN (s:Sh):Prop where
 k:s.k=1\/s.k=2
 n0:gG s<=s.n
 n1:s.n<=40
 ok:∀i,i<s.n->(s.e i).ok=true
 ch:∀i,i+1<s.n->(s.e (i+1)).ax=(s.e i).bx/\(s.e (i+1)).ay=(s.e i).by'
 cl:s.k=2->(s.e 0).ax=(s.e (s.n-1)).bx/\(s.e 0).ay=(s.e (s.n-1)).by'
 r:(0<=s.r/\s.r<=4194304)/\(s.k=2->s.r=0)
def yb:List Ed->Prop
 | []=>True|e::l=>(match l with | []=>True|f::_=>f.ax=e.bx/\f.ay=e.by')/\yb l
theorem Nj:∀ {l:List Ed},yb l->∀i,i+1<l.length->(jt l (i+1)).ax=(jt l i).bx/\(jt l (i+1)).ay=(jt l i).by'
 | [],_,i,hi=>absurd hi (Nat.not_lt_zero _)|[e],_,i,hi=>by simp at hi|e::f::l,h,0,_=>h.1|e::f::l,h,i+1,hi=>Nj (l:=f::l) h.2 i (by simpa using hi)
theorem S5{l:List Ed}{i:Nat}(h:i<l.length):jt l i∈l:=by
 unfold jt;rw[List.getElem?_eq_getElem h];exact List.getElem_mem h
theorem a2H{k:Int}{l:List Ed}{r:Int}(hk:k=1\/k=2)(h0:(if k=1 then 1 else 2)<=l.length)(h1:l.length<=40)(ho:∀e∈l,e.ok=true)(hc:yb l)(hl:k=2->(jt l 0).ax=(jt l (l.length-1)).bx/\(jt l 0).ay=(jt l (l.length-1)).by')(hr:(0<=r/\r<=4194304)/\(k=2->r=0)):LN (cU k l r) :=
 ⟨hk,by show gG (cU k l r)<=(l.length:Int);unfold gG;show (if k=1 then (1:Int) else 2)<=l.length;split<;>simp_all<;>omega,h1,λi hi=>ho _ (S5 hi),Nj hc,hl,hr⟩
def dJ(x:Int):Prop := -1000<=x/\x<=1000
def pQ(e:Ed):Prop:=(dJ e.ax/\dJ e.ay)/\(dJ e.bx/\dJ e.by')/\dJ e.cx/\dJ e.cy
theorem lI{ax ay bx by':Int}(h1:dJ ax)(h2:dJ ay)(h3:dJ bx)(h4:dJ by'):(eW ax ay bx by').ok=true/\pQ (eW ax ay bx by'):=by
 unfold dJ at h1 h2 h3 h4;refine⟨?_,⟨⟨by unfold eW dJ;exact h1,by unfold eW dJ;exact h2⟩,⟨by unfold eW dJ;exact h3,by unfold eW dJ;exact h4⟩,by unfold eW dJ;simp,by unfold eW dJ;simp⟩⟩;simp only[Ed.ok,Ed.right,eW,Bool.and_eq_true];refine⟨⟨⟨mi.2 ?_,mi.2 ?_⟩,mi.2 ?_⟩,by simp[Ed.lone]⟩;all_goals (unfold Co;omega)
theorem xU{k ax ay bx by' cx cy:Int}(h1:dJ ax)(h2:dJ ay)(h3:dJ bx)(h4:dJ by')(h5:dJ cx)(h6:dJ cy)(hd:(ax-cx=0/\ay-cy≠0)\/(ax-cx≠0/\ay-cy=0))
  (hk:(k=2/\bx-cx = -(ay-cy)/\by'-cy=ax-cx)\/(k=3/\bx-cx=ay-cy/\by'-cy = -(ax-cx))):(Ed.mk k ax ay bx by' cx cy).ok=true/\pQ (Ed.mk k ax ay bx by' cx cy):=by
 refine⟨?_,⟨⟨h1,h2⟩,⟨h3,h4⟩,h5,h6⟩⟩;unfold dJ at *;simp only[Ed.ok,Ed.right,Bool.and_eq_true];refine⟨⟨⟨mi.2 ?_,mi.2 ?_⟩,mi.2 ?_⟩,?_⟩
 ·unfold Co;omega
 ·unfold Co;omega
 ·unfold Co;omega
 ·rcases hk with⟨rfl,g1,g2⟩|⟨rfl,g1,g2⟩<;>rcases hd with⟨d1,d2⟩|⟨d1,d2⟩<;>simp[Ed.quarter,pz,fH,g1,g2,d1,d2]
theorem a3S{px py r t:Int}(g:Bool)(h1 : -900<=px/\px<=900)(h2 : -900<=py/\py<=900)(hr:1<=r/\r<=16)(ht:0<=t/\t<4):(il px py r t g).ok=true/\pQ (il px py r t g):=by
 have m0:am 0 4=0:=by decide
 have m1:am 1 4=1:=by decide
 have m2:am 2 4=2:=by decide
 have m3:am 3 4=3:=by decide
 obtain rfl|rfl|rfl|rfl:t=0\/t=1\/t=2\/t=3:=by omega
 all_goals cases g
 all_goals
  simp only[il,uK m0,uL m1,uM m2,wX m3,Bool.false_eq_true,if_false,if_true]
  refine xU ?_ ?_ ?_ ?_ ?_ ?_ ?_ ?_
  all_goals first|omega|(unfold dJ;omega)
def oo(s:Sh):Prop:=LN s/\(∀i,i<s.n->pQ (s.e i))/\s.r<=100
theorem yD{k:Int}{l:List Ed}{r:Int}(hk:k=1\/k=2)(h0:(if k=1 then 1 else 2)<=l.length)(h1:l.length<=40)(ho:∀e∈l,e.ok=true/\pQ e)(hc:yb l)(hl:k=2->(jt l 0).ax=(jt l (l.length-1)).bx/\(jt l 0).ay=(jt l (l.length-1)).by')(hr:(0<=r/\r<=100)/\(k=2->r=0)):oo (cU k l r) :=
 ⟨a2H hk h0 h1 (λe he=>(ho e he).1) hc hl ⟨⟨hr.1.1,by omega⟩,hr.2⟩,λi hi=>(ho _ (S5 hi)).2,hr.1.2⟩
theorem jz{P:Ed->Prop}{a:Ed}{l:List Ed}(h1:P a)(h2:∀e∈l,P e):∀e∈a::l,P e:=λe he=>by
 rcases List.mem_cons.1 he with rfl|he
 ·exact h1
 ·exact h2 e he
theorem xQ{P:Ed->Prop}:∀e∈([]:List Ed),P e:=λe he=>by cases he
theorem DW{x y u v:Int}(h1:0<=x/\x<=500)(h2:0<=y/\y<=500)(h3:0<=u/\u<=500)(h4:0<=v/\v<=500):oo (jK x y u v):=by
 unfold jK;refine yD (.inr rfl) (by simp) (by simp) (jz (lI ?_ ?_ ?_ ?_) (jz (lI ?_ ?_ ?_ ?_) (jz (lI ?_ ?_ ?_ ?_) (jz (lI ?_ ?_ ?_ ?_) xQ)))) ⟨⟨rfl,rfl⟩,⟨rfl,rfl⟩,⟨rfl,rfl⟩,trivial,trivial⟩ (λ_=>⟨rfl,rfl⟩) ⟨by decide,λ_=>rfl⟩;all_goals (unfold dJ;omega)
theorem YJ{x y r:Int}(h1:0<=x/\x<=500)(h2:0<=y/\y<=500)(hr:0<=r/\r<=100):oo (fB x y r):=by
 unfold fB;refine yD (.inl rfl) (by simp) (by simp) (jz (lI ?_ ?_ ?_ ?_) xQ) ⟨trivial,trivial⟩ (λh=>by cases h) ⟨hr,λh=>by cases h⟩;all_goals (unfold dJ;omega)
theorem a41{x y r w h:Int}(h1:0<=x/\x<=100)(h2:0<=y/\y<=100)(hr:1<=r/\r<=16)(hw:0<=w/\w<=100)(hh:0<=h/\h<=100):oo (zN x y r w h):=by
 unfold zN;refine yD (.inr rfl) (by simp) (by simp) (jz (lI ?_ ?_ ?_ ?_) (jz (xU ?_ ?_ ?_ ?_ ?_ ?_ ?_ ?_) (jz (lI ?_ ?_ ?_ ?_) (jz (xU ?_ ?_ ?_ ?_ ?_ ?_ ?_ ?_) (jz (lI ?_ ?_ ?_ ?_) (jz (xU ?_ ?_ ?_ ?_ ?_ ?_ ?_ ?_) (jz (lI ?_ ?_ ?_ ?_) (jz (xU ?_ ?_ ?_ ?_ ?_ ?_ ?_ ?_) xQ)))))))) ⟨⟨rfl,rfl⟩,⟨rfl,rfl⟩,⟨rfl,rfl⟩,⟨rfl,rfl⟩,⟨rfl,rfl⟩,⟨rfl,rfl⟩,⟨rfl,rfl⟩,trivial,trivial⟩ (λ_=>⟨rfl,rfl⟩) ⟨by decide,λ_=>rfl⟩;all_goals first|omega|(unfold dJ;omega)
theorem a3f{L:List Int}(n:Nat):∀(k a:Nat) (px py:Int),k+n<=4->(0<=k)->(-(64*(k:Int))-100<=px/\px<=64*(k:Int)+100)->(-(64*(k:Int))-100<=py/\py<=64*(k:Int)+100) ->
  (∀e∈dK L n a px py,e.ok=true/\pQ e)/\yb (dK L n a px py)/\(dK L n a px py).length=n/\(∀f l,dK L n a px py=f::l->f.ax=px/\f.ay=py):=by
 induction n with|zero=>intro k a px py _ _ _ _;exact⟨xQ,trivial,rfl,λf l h=>by cases h⟩|succ n ih =>
  intro k a px py hk hk0 hx hy;have n0:=eG L a (m:=21) (by omega);have n1:=eG L (a+1) (m:=21) (by omega);have n3:=eG L (a+3) (m:=9) (by omega);have n4:=eG L (a+4) (m:=4) (by omega);have E:((eI L a px py).ok=true/\pQ (eI L a px py))/\((eI L a px py).ax=px/\(eI L a px py).ay=py)/\(-(64*((k+1:Nat):Int))-100<=(eI L a px py).bx/\(eI L a px py).bx<=64*((k+1:Nat):Int)+100)/\(-(64*((k+1:Nat):Int))-100<=(eI L a px py).by'/\(eI L a px py).by'<=64*((k+1:Nat):Int)+100):=by
   unfold eI;split
   ·refine ⟨a3S _ (by omega) (by omega) (by omega) n4, ⟨rfl, rfl⟩, ?_⟩;obtain⟨⟨_,_,_⟩,⟨b1,b2⟩,_⟩:=Rm (px:=px-px) (py:=py-py) (r:=1+nV L (a+3) 9) (t:=nV L (a+4) 4) (g:=decide (nV L (a+5) 2=1)) (A:=0) (B:=0) (by omega) (by omega) (by omega);have e1:(il (px-px) (py-py) (1+nV L (a+3) 9) (nV L (a+4) 4) (decide (nV L (a+5) 2=1))).bx=(il px py (1+nV L (a+3) 9) (nV L (a+4) 4) (decide (nV L (a+5) 2=1))).bx-px:=by
     unfold il;simp only;rw[show px-px-(px-px+(dO 0 0 (nV L (a+4) 4) false (1+nV L (a+3) 9) 0).1)=px-(px+(dO 0 0 (nV L (a+4) 4) false (1+nV L (a+3) 9) 0).1) by omega,show py-py-(py-py+(dO 0 0 (nV L (a+4) 4) false (1+nV L (a+3) 9) 0).2)=py-(py+(dO 0 0 (nV L (a+4) 4) false (1+nV L (a+3) 9) 0).2) by omega];omega
    have e2:(il (px-px) (py-py) (1+nV L (a+3) 9) (nV L (a+4) 4) (decide (nV L (a+5) 2=1))).by'=(il px py (1+nV L (a+3) 9) (nV L (a+4) 4) (decide (nV L (a+5) 2=1))).by'-py:=by
     unfold il;simp only;rw[show px-px-(px-px+(dO 0 0 (nV L (a+4) 4) false (1+nV L (a+3) 9) 0).1)=px-(px+(dO 0 0 (nV L (a+4) 4) false (1+nV L (a+3) 9) 0).1) by omega,show py-py-(py-py+(dO 0 0 (nV L (a+4) 4) false (1+nV L (a+3) 9) 0).2)=py-(py+(dO 0 0 (nV L (a+4) 4) false (1+nV L (a+3) 9) 0).2) by omega];omega
    rw[e1] at b1;rw[e2] at b2;omega
   ·refine ⟨lI ?_ ?_ ?_ ?_, ⟨rfl, rfl⟩, ?_⟩
    ·unfold dJ;omega
    ·unfold dJ;omega
    ·unfold dJ;omega
    ·unfold dJ;omega
    ·simp only [eW];omega
  obtain⟨E1,E2,E3,E4⟩:=E;obtain⟨i1,i2,i3,i4⟩:=ih (k+1) (jG L a) (eI L a px py).bx (eI L a px py).by' (by omega) (by omega) E3 E4
  refine⟨jz E1 i1,⟨?_,i2⟩,by show _+1=n+1;rw[i3],λf l h=>?_⟩
  ·cases hp : dK L n (jG L a) (eI L a px py).bx (eI L a px py).by' with|nil=>trivial|cons f l=>exact i4 f l hp
  ·obtain ⟨rfl, _⟩ := List.cons.inj h;exact E2
theorem uj(L:List Int):oo (bS L):=by
 have b0:=eG L 0 (m:=50) (by omega);have b1:=eG L 1 (m:=50) (by omega);unfold bS;simp only;split
 ·have b3 := eG L 3 (m := 20) (by omega);have b4:=eG L 4 (m:=20) (by omega);exact DW (by omega) (by omega) (by omega) (by omega)
 split
 ·have b3 := eG L 3 (m := 6) (by omega);have b4:=eG L 4 (m:=9) (by omega);have b5:=eG L 5 (m:=9) (by omega);exact a41 (by omega) (by omega) (by omega) (by omega) (by omega)
 split
 ·have b3 := eG L 3 (m := 20) (by omega);have b4:=eG L 4 (m:=9) (by omega);have b5:=eG L 5 (m:=9) (by omega);have b6:=eG L 6 (m:=20) (by omega);refine yD (.inr rfl) (by simp) (by simp) (jz (lI ?_ ?_ ?_ ?_) (jz (lI ?_ ?_ ?_ ?_) (jz (lI ?_ ?_ ?_ ?_) xQ))) ⟨⟨rfl,rfl⟩,⟨rfl,rfl⟩,trivial,trivial⟩ (λ_=>⟨rfl,rfl⟩) ⟨by decide,λ_=>rfl⟩;all_goals (unfold dJ;omega)
 split
 ·have b3 := eG L 3 (m := 9) (by omega);exact YJ (by omega) (by omega) (by omega)
 ·have b3 := eG L 3 (m := 6) (by omega);have b4:=eG L 4 (m:=3) (by omega);obtain⟨i1,i2,i3,_⟩:=a3f (L:=L) (1+nV L 4 3).toNat 0 5 (nV L 0 50) (nV L 1 50) (by omega) (by omega) (by omega) (by omega);exact yD (.inl rfl) (by rw[i3,if_pos rfl];omega) (by rw[i3];omega) i1 i2 (λh=>by cases h) ⟨by omega,λh=>by cases h⟩
set_option maxRecDepth 100000
section
structure Cs where
 o:List Int
 p:List Int
 a:Int
 b:Int
 c:Int
 nd:Nat
 d:Nat->List Int
 ns:Nat
 s:Nat->List Int
def BA(c:Cs):List It:=[.ds c.o,.ds c.p,.i c.a lim,.i c.b lim,.i c.c lim,.ro 1 c.nd λi=>ky (c.d i),.ro 1 c.ns λi=>ky (c.s i)]
def tA(c:Cs):V1:=⟨true,BA c⟩
def Ye(c:Cs):Option Mb:=some ⟨38,BA c⟩
def TF:ByteArray:=⟨#[85,49]⟩
def TE:ByteArray:=⟨#[80,49]⟩
def fV(c:Cs)(i:Nat):cA:=⟨bS (c.s i),1+(i:Int).tmod 2,2,decide ((i:Int).tmod 3>0)⟩
def jh(c:Cs)(i:Nat):je:=⟨i,TF,TE,((bS (c.s i)).e 0).ax,((bS (c.s i)).e 0).ay,1+(i:Int).tmod 2⟩
def qo:FuncId:=13
def Cd(c:Cs)(j:Nat):Ds:=⟨[(1,.eq (ak 0)),(4,.le (gW j (fV c))),(5,.le (mS j (jh c))),(6,.le (aj (j:Int) 2000))],[Ye c]⟩
def I3(c:Cs):List Pf:=[jJ (.ds c.o),jJ (.ds c.p),qZ c.a,qZ c.b,qZ c.c,jJ (.ro 1 c.nd λi=>ky (c.d i)),jJ (.ro 1 c.ns λi=>ky (c.s i))]
theorem PW(L:List Int):1<=(bS L).n/\(bS L).n<=40:=by
 have h:=(uj L).1;have:=h.n0;unfold gG at this;have:=h.n1;split at*<;> omega
def lsH(c:Cs)(j:Nat):List It:=[.i (bS (c.s j)).k lim,fW (bS (c.s j)).n (bS (c.s j)).e,.i (bS (c.s j)).r lim,.i (1+(j:Int).tmod 2) 3,.k 2,.v (.bool (decide ((j:Int).tmod 3>0)))]
def lsQ(c:Cs)(j:Nat):List It:=[.i (j:Int) 2000,.v (.string TF),.v (.string TE),.i ((bS (c.s j)).e 0).ax lim,.i ((bS (c.s j)).e 0).ay lim,.i (1+(j:Int).tmod 2) 3]
def PU(c:Cs)(m:Nat):Ds:=⟨[(4,.le (gW m (fV c))),(5,.le (mS m (jh c)))],[]⟩
theorem a03(c:Cs)(j:Nat)(hn:j<c.ns)(hj:j<5):Rnd [aJ,dZ] rl qo 8 [] (nF qo) (Cd c j) (Cd c (j+1)) .nm:=by
 have hp:=(PW (c.s j)).1;exact⟨[true,true],[pT (aZ (show (j:Int)<(c.ns:Int) by omega)),pT (aZ (show (j:Int)<5 by omega)),pP (show 0<=(j:Int)/\(j:Int)<(c.ns:Int) by omega),pP (show (2:Int)≠0 by decide),pP (show (3:Int)≠0 by decide),pP (show j+1<=1000 by omega),pP (show 0<=(0:Int)/\(0:Int)<((bS (c.s j)).n:Int) by omega),pP (show (2:Int)≠0 by decide),pP (show j+1<=1000 by omega),pR (ak 0),qA aY (fV c) j (j+1) (lsH c j) rfl rfl,qA cS (jh c) j (j+1) (lsQ c j) rfl rfl,pI j (by omega)]++I3 c,by kernel_rfl⟩
theorem a0W(c:Cs):ae Tryz.prog qo [tA c] (.tup [gW (min c.ns 5) (fV c),mS (min c.ns 5) (jh c)]):=by
 have B:=λ(m:Nat) (e1:min c.ns 5=m) he=>bW (X:=[aJ,dZ]) (K:=rl) (f:=qo) (id:=8) (n:=nF qo) m (Cd c) (λ_=>[]) (e:=.ex 0) (d1:=PU c m) (by kernel_rfl) (λ_=>by kernel_rfl) (λ_ _=>LT.nil) (λk hk=>a03 c k (by omega) (by omega)) he nofun
 have fin:∀m,min c.ns 5=m->Rnd [aJ,dZ] rl qo 8 [] (nF qo) (Cd c m) (PU c m) (.ex 0)->ae Tryz.prog qo [tA c] (.tup [gW m (fV c),mS m (jh c)]):=λm e1 he =>
  cD [aJ,dZ] rl _ (LT.cons (B m e1 he) LT.nil) [] ([pR (ak 0),⟨(0:Nat)=0,rfl⟩,⟨(0:Nat)=0,rfl⟩,q0]++I3 c) (by kernel_rfl)
 by_cases h9:c.ns<=5
 ·rw [Nat.min_eq_left h9];exact fin c.ns (Nat.min_eq_left h9) ⟨[false],[pF (ce (show ¬(c.ns:Int)<(c.ns:Int) by omega)),qL aY (fV c) c.ns c.ns rfl,qL cS (jh c) c.ns c.ns rfl],by kernel_rfl⟩
 ·rw [Nat.min_eq_right (by omega)];exact fin 5 (Nat.min_eq_right (by omega)) ⟨[true,false],[pT (aZ (show ((5:Nat):Int)<(c.ns:Int) by omega)),pF (ce (show ¬((5:Nat):Int)<5 by omega)),qL aY (fV c) 5 5 rfl,qL cS (jh c) 5 5 rfl],by kernel_rfl⟩
end
end Go.Proofs.YtghemgdfmldoeaaGreat
set_option maxRecDepth 100000
namespace Go.Proofs.YtghemgdfmldoeaaGreat.fin
open Go.ChangeShapes Go.WideShapes Go.ChangeAt Go.RowKit Go.Joins
set_option linter.unusedVariables false
section
variable {H:Type} {enc:TypeId×Value->H} {W:World}
theorem Xc{a:Addr}{v:Value}(h:W.cell? a=some v):∃xs T fr,W.heap[a.block]? = some (.cells xs T fr)/\a.spot=none/\xs[a.off]? = some v:=by
 unfold World.cell? at h;split at h
 ·rename_i c T fr hb;split at h
  ·cases h
  ·rename_i hs;exact⟨c,T,fr,hb,by simpa using hs,h⟩
 ·cases h
theorem Ni:Tryz.prog.cellsOf 22=1:=by kernel_rfl
theorem Xa:Tryz.prog.cellsOf 36=1:=by kernel_rfl
theorem GM{m:Nat}{l:List Value}{x:DataW H×List MemPlace}(h:DataW.trod enc Tryz.prog W 0 (λ_=>true) true m 22 l=some x):∃L v,l=[v]/\jQ W L v:=by
 rcases open_ints Tryz.underlying22 Tryz.underlying3 (by kernel_rfl) h with⟨hcs,_⟩|⟨x,l,c,zs,hcs,_,hl,hm,hz,_,hcell,hwz⟩
 ·obtain ⟨h1, h2, h3⟩ := Au.ints (w := W) (a := none) (len := 0) (cap := 0) (zs := []) (.inl ⟨rfl, rfl, rfl, rfl⟩);exact⟨_,_,hcs,none,0,0,rfl,h1,h2,h3⟩
 ·obtain ⟨h1, h2, h3⟩ := Au.ints (w := W) (a := some x) (len := l) (cap := c) (zs := zs) (.inr ⟨x, rfl, hl, hm, by simpa using hz, hcell, hwz⟩);exact⟨_,_,hcs,_,_,_,rfl,h1,h2,h3⟩
theorem Tc{m:Nat}{c:Value}{x:DataW H×List MemPlace}(h:DataW.trod enc Tryz.prog W 0 (λ_=>true) true m 36 [c]=some x):∃(n:Nat) (f:Nat->List Int),fU (aE W) W 1 n (λi=>ky (f i)) c:=by
 rcases Go.Deep.open_slice Tryz.underlying36 h with⟨hcs,_⟩|⟨a,len,cap,mm,n,D,Pl,hcs,_,hl,hm,hmm,_,hE⟩
 ·simp at hcs;subst hcs;exact⟨0,λ_=>[],none,0,rfl,Nat.le_refl _,Nat.zero_le _,λi hi=>absurd hi (Nat.not_lt_zero _)⟩
 ·simp at hcs;subst hcs;have hmm':mm=cap:=by simpa using hmm
  rw[Ni] at hE;have key:∀i,∃L:List Int,i<len->∃v,W.cells? 0 (a.add (i*1)) 1=some [v]/\jQ W L v:=λi=>by
   by_cases hi:i<len
   ·obtain ⟨cs, h1, h2⟩ := hE i (by omega);obtain⟨L,v,rfl,h4⟩:=GM h2;exact⟨L,λ_=>⟨v,h1,h4⟩⟩
   ·exact⟨[],λh=>absurd h hi⟩
  obtain⟨f,hf⟩:=Classical.skolem.1 key;refine⟨len,f,some a,cap,rfl,hl,hm,λi hi=>?_⟩;obtain⟨v,h1,h3⟩:=hf i hi;obtain⟨v0,y1,_⟩:=hf 0 (Nat.lt_of_le_of_lt (Nat.zero_le _) hi);obtain⟨_,_,y3⟩:=World.cells?_some y1;have y4:=y3 0 (by omega);rw[List.getElem?_eq_getElem (by simp)] at y4;obtain⟨ys,T,fr,z1,z2,_⟩:=Xc y4;obtain⟨b,o,spot⟩:=a;simp[Addr.add] at z1 z2;subst z2;obtain⟨_,_,w1⟩:=World.cells?_some h1;have z3:=w1 0 (by omega);rw[u6,u6,cell_of_row _ _ _ _ _ _ z1] at z3;simp at z3;have hlt:=(Array.getElem?_eq_some_iff.1 z3).1
  refine⟨b,o,ys,(T,fr),rfl,z1,by omega,[v],ys.toList.drop (o+i*1+1),?_,[v],[],rfl,⟨v,rfl,h3⟩,rfl⟩;rw[Nat.mul_one];have e:ys.toList[o+i]? = some v:=by simpa using z3
  rw[<- List.getElem_cons_drop (by simpa using hlt)];rw[List.getElem?_eq_getElem (by simpa using hlt)] at e;rw[Option.some.inj e];rfl
theorem Xb{base:Nat}{v:Value}{d:DataW H}{p:List MemPlace}(hv:Value.okWide Tryz.prog W .any base 38 v)(h:DataW.Trod enc Tryz.prog W 0 (λ_=>true) true 38 v d p) :
  ∃c:Cs,au W W (λ_=>0) 0 (tA c) v:=by
 unfold Value.okWide at hv;rw[Tryz.underlying38] at hv;obtain⟨cs,rfl,hsz,ts,hts,_,hc⟩:=hv;have hC:Tryz.prog.cellsOf 38=7:=by kernel_rfl
 have hT:Tryz.prog.cellTypes Tryz.prog.depth 38=some [22,22,3,3,3,36,36]:=by kernel_rfl
 rw[hC] at hsz;obtain rfl:=Option.some.inj (hT.symm.trans hts);obtain⟨c0,c1,c2,c3,c4,c5,c6,rfl⟩:∃c0 c1 c2 c3 c4 c5 c6,cs=#[c0,c1,c2,c3,c4,c5,c6]:=by
  obtain⟨l⟩:=cs;match l,hsz with|[c0,c1,c2,c3,c4,c5,c6],_=>exact⟨c0,c1,c2,c3,c4,c5,c6,rfl⟩
 obtain⟨u,hu1,hu2⟩:=hc 2 c2 rfl;cases hu1;obtain⟨z2,rfl,i2⟩:=yM hu2;obtain⟨u,hu1,hu2⟩:=hc 3 c3 rfl;cases hu1;obtain⟨z3,rfl,i3⟩:=yM hu2;obtain⟨u,hu1,hu2⟩:=hc 4 c4 rfl;cases hu1;obtain⟨z4,rfl,i4⟩:=yM hu2;obtain⟨fuel,hf⟩:=h;obtain⟨xs,m,_,_,_,hx,hi⟩:=DataW.trod_struct Tryz.underlying38 hf;have hx2:xs.length=5:=hx;obtain⟨x0,M0,rfl,m0⟩:=dA hx2;obtain⟨x1,M1,rfl,m1⟩:=dA m0;obtain⟨x2,M2,rfl,m2⟩:=dA m1;obtain⟨x3,M3,rfl,m3⟩:=dA m2;obtain⟨x4,M4,rfl,m4⟩:=dA m3
 have g0:DataW.trod enc Tryz.prog W 0 (λ_=>true) true m 22 (List.take (Tryz.prog.cellsOf 22) (List.drop 0 [c0,c1,.int .i64 z2,.int .i64 z3,.int .i64 z4,c5,c6]))=some x0:=hi 0 _ rfl;have g1:DataW.trod enc Tryz.prog W 0 (λ_=>true) true m 22 (List.take (Tryz.prog.cellsOf 22) (List.drop 1 [c0,c1,.int .i64 z2,.int .i64 z3,.int .i64 z4,c5,c6]))=some x1:=hi 1 _ rfl;have g3:DataW.trod enc Tryz.prog W 0 (λ_=>true) true m 36 (List.take (Tryz.prog.cellsOf 36) (List.drop 5 [c0,c1,.int .i64 z2,.int .i64 z3,.int .i64 z4,c5,c6]))=some x3:=hi 3 _ rfl
 have g4:DataW.trod enc Tryz.prog W 0 (λ_=>true) true m 36 (List.take (Tryz.prog.cellsOf 36) (List.drop 6 [c0,c1,.int .i64 z2,.int .i64 z3,.int .i64 z4,c5,c6]))=some x4:=hi 4 _ rfl;rw[Ni] at g0 g1;rw[Xa] at g3 g4;simp only[List.drop_zero,List.take_succ_cons,List.take_zero,List.drop_succ_cons] at g0 g1 g3 g4;obtain⟨L0,v0,e0,k0⟩:=GM g0;obtain⟨L1,v1,e1,k1⟩:=GM g1;simp only[List.cons.injEq,and_true] at e0 e1;subst e0 e1;obtain⟨n3,f3,k3⟩:=Tc g3;obtain⟨n4,f4,k4⟩:=Tc g4
 exact⟨⟨L0,L1,z2,z3,z4,n3,f3,n4,f4⟩,_,⟨[_],_,rfl,⟨_,rfl,k0⟩,[_],_,rfl,⟨_,rfl,k1⟩,[_],_,rfl,⟨rfl,aP i2⟩,[_],_,rfl,⟨rfl,aP i3⟩,[_],_,rfl,⟨rfl,aP i4⟩,[_],_,rfl,⟨_,rfl,k3⟩,[_],[],rfl,⟨_,rfl,k4⟩,rfl⟩,rfl,nofun⟩
end
end Go.Proofs.YtghemgdfmldoeaaGreat.fin
namespace Go.Proofs.YtghemgdfmldoeaaGreat
open Go.RowKit
set_option maxRecDepth 100000
section
def lZ:List ah:=[Be]
def yf(s:Sh):V1:=⟨false,[.v (.bool (s.k==2))]⟩
def Zz(z:Int):Option Mb:=some ⟨68,[.i z lim]⟩
def Ov:Option Mb:=some ⟨68,[.k 0]⟩
def uF(s:Sh):V1:=⟨false,[pE s.n s.e]⟩
def vi(s:Sh)(j:Nat):Ds:=⟨[(39,.le (aj (j:Int) 2000)),(37,.eq (uF s)),(38,.eq (oW s.n)),(1,.eq (ak 0)),(2,.eq (ak 1)),(3,.eq (yf s))],lU s++[Ov]⟩
def yd(s:Sh):Ds:=⟨[(1,.eq (ak 0)),(2,.eq (ak 1)),(3,.eq (yf s))],lU s++[Ov]⟩
def ye(s:Sh):List Pf:=[pR (ak 0),pR (ak 1),pR (yf s)]++fk s
theorem Nq(s:Sh)(hn:s.n<=40)(k:Nat)(hk:k<s.n)(h:ei (s.e k)=0):Rnd [] lZ 68 18 [] (nF 68) (vi s k) (vi s (k+1)) .nm :=
 ⟨[true,false],[pT (eu (show ((k:Nat):Int)<(s.n:Int) by omega)),pP (show 0<=((k:Nat):Int)/\((k:Nat):Int)<s.n by omega),pF (jF (show ¬ei (s.e k)≠0 by simpa using h)),pI k (by omega),pR (uF s),pR (oW s.n)]++ye s,by kernel_rfl⟩
theorem Xu(s:Sh)(hn:s.n<=40)(h:jA s.e s.n=0):bJ Tryz.prog (bm 68 18) ⟨nF 68,vi s 0,.ex 1,yd s⟩ :=
 bW (X:=[]) (K:=lZ) s.n (vi s) (λ_=>[]) (by kernel_rfl) (λ_=>by kernel_rfl) (λ_ _=>LT.nil) (λk hk=>Nq s hn k hk (BO h k hk))
  ⟨[false],[pF (aR (show ¬((s.n:Nat):Int)<(s.n:Int) by omega))]++ye s,by kernel_rfl⟩ nofun
theorem Np(s:Sh)(hn:s.n<=40)(m:Nat)(hm:m<s.n)(h:∀k,k<m->ei (s.e k)=0)(h1:ei (s.e m)≠0):bJ Tryz.prog (bm 68 18) ⟨nF 68,vi s 0,.rt,⟨[(2,.eq (ak 1))],[none,Zz (ei (s.e m))]⟩⟩ :=
 bW (X:=[]) (K:=lZ) m (vi s) (λ_=>[]) (by kernel_rfl) (λ_=>by kernel_rfl) (λ_ _=>LT.nil) (λk hk=>Nq s hn k (by omega) (h k hk))
  ⟨[true,true],[pT (eu (show ((m:Nat):Int)<(s.n:Int) by omega)),pP (show 0<=((m:Nat):Int)/\((m:Nat):Int)<s.n by omega),pT (gZ h1),pR (ak 1),⟨ei (s.e m)=ei (s.e m),rfl⟩],by kernel_rfl⟩ nofun
def Bv(s:Sh):List Pf:=[⟨(0:Int)=((0:Nat):Int),rfl⟩,pR (uF s),pR (oW s.n)]++ye s
def early(s:Sh):Prop:=(s.k≠1/\s.k≠2)\/(s.n:Int)<gG s\/40<s.n\/jA s.e s.n≠0
theorem Xt(s:Sh)(h:early s):ae Tryz.prog 68 [bh s] (.one (aj (bD s) lim)):=by
 have kind:((s.k==1)=false/\(s.k==2)=false)\/((s.k==1)=false/\(s.k==2)=true)\/((s.k==1)=true/\(s.k==2)=false):=by
  simp only[beq_eq_false_iff_ne,beq_iff_eq,ne_eq];omega
 rcases kind with⟨h1,h2⟩|⟨h1,h2⟩|⟨h1,h2⟩
 ·have g1 : ¬ s.k = 1 := by simpa using h1
  have g2:¬s.k=2:=by simpa using h2
  exact ae.vS (show bD s=12 by unfold bD;rw[if_pos ⟨g1,g2⟩]) (ad lZ [true,true,true] [pT (gZ g1),pT (lL h2),pT (lL h2)] (by kernel_rfl))
 ·have g2 : s.k = 2 := by simpa using h2
  have g1:s.k≠1:=by omega
  have ef:gG s=2:=by unfold gG;rw[if_neg (by omega)]
  by_cases h0:(s.n:Int)=0
  ·exact ae.vS (show bD s=12 by unfold bD;rw[if_neg (by omega),ef,if_pos (by omega)]) (ad lZ [true,false,true,true] [pT (gZ g1),pF (ci h2),pT (mB h0),pT (mB h0)] (by kernel_rfl))
  by_cases h3:(s.n:Int)<2
  ·exact ae.vS (show bD s=12 by unfold bD;rw[if_neg (by omega),ef,if_pos h3]) (ad lZ [true,false,false,true,true] [pT (gZ g1),pF (ci h2),pF (kP h0),pT h2,pT (eu h3)] (by kernel_rfl))
  by_cases h4:(s.n:Int)>40
  ·exact ae.vS (show bD s=2 by unfold bD;rw[if_neg (by omega),ef,if_neg h3,if_pos (by omega)]) (ad lZ [true,false,false,true,false,true] [pT (gZ g1),pF (ci h2),pF (kP h0),pT h2,pF (aR h3),pT (cL h4)] (by kernel_rfl))
  have hn:s.n<=40:=by omega
  have h5:jA s.e s.n≠0:=by unfold early at h;omega
  have e0:bD s=jA s.e s.n:=by unfold bD;rw[if_neg (by omega),ef,if_neg h3,if_neg (by omega),if_pos h5]
  obtain⟨m,k1,k2,k3⟩:=G1 h5;rw[e0,k2];rw[k2] at h5;exact cD [] lZ _ (LT.cons (Np s hn m k1 k3 h5) LT.nil) [true,false,false,true,false,false] ([pT (gZ g1),pF (ci h2),pF (kP h0),pT h2,pF (aR h3),pF (bU h4)]++Bv s) (by kernel_rfl)
 ·have g1 : s.k = 1 := by simpa using h1
  have ef:gG s=1:=by unfold gG;rw[if_pos g1]
  have n1:¬s.k≠1:=by omega
  by_cases h0:(s.n:Int)=0
  ·exact ae.vS (show bD s=12 by unfold bD;rw[if_neg (by omega),ef,if_pos (by omega)]) (ad lZ [false,true,true] [pF (jF n1),pT (mB h0),pT (mB h0)] (by kernel_rfl))
  by_cases h4:(s.n:Int)>40
  ·exact ae.vS (show bD s=2 by unfold bD;rw[if_neg (by omega),ef,if_neg (by omega),if_pos (by omega)]) (ad lZ [false,false,false,true] [pF (jF n1),pF (kP h0),pF h2,pT (cL h4)] (by kernel_rfl))
  have hn:s.n<=40:=by omega
  have h5:jA s.e s.n≠0:=by unfold early at h;omega
  have e0:bD s=jA s.e s.n:=by unfold bD;rw[if_neg (by omega),ef,if_neg (by omega),if_neg (by omega),if_pos h5]
  obtain⟨m,k1,k2,k3⟩:=G1 h5;rw[e0,k2];rw[k2] at h5;exact cD [] lZ _ (LT.cons (Np s hn m k1 k3 h5) LT.nil) [false,false,false,false] ([pF (jF n1),pF (kP h0),pF h2,pF (bU h4)]++Bv s) (by kernel_rfl)
theorem Xv(s:Sh)(h:¬early s):∃(q:List Bool) (pf:List Pf) (L:List (Nat×bO)),LT 68 L/\Jr [] lZ L 68 4 [bh s] (yd s) q=some (pf.map Pf.p):=by
 have hk:s.k=1\/s.k=2:=by unfold early at h;omega
 have hn:s.n<=40:=by unfold early at h;omega
 have h5:jA s.e s.n=0:=by unfold early at h;omega
 have hf:¬(s.n:Int)<gG s:=by unfold early at h;omega
 have oc:=LT.cons (Xu s hn h5) LT.nil;rcases hk with g1|g2
 ·have ef : gG s = 1 := by unfold gG; rw [if_pos g1]
  exact⟨[false,false,false,false],[pF (jF (show ¬s.k≠1 by omega)),pF (kP (show (s.n:Int)≠0 by omega)),pF (kP (show s.k≠2 by omega)),pF (bU (show ¬(40:Int)<s.n by omega))]++Bv s++ye s,_,oc,by kernel_rfl⟩
 ·have ef : gG s = 2 := by unfold gG; rw [if_neg (by omega)]
  exact⟨[true,false,false,true,false,false],[pT (gZ (show s.k≠1 by omega)),pF (ci (mB g2)),pF (kP (show (s.n:Int)≠0 by omega)),pT (mB g2),pF (aR (show ¬(s.n:Int)<2 by omega)),pF (bU (show ¬(40:Int)<s.n by omega))]++Bv s++ye s,_,oc,by kernel_rfl⟩
end
set_option maxRecDepth 100000
section
theorem a67(a b c d px py:Int):ae Tryz.prog 177 [uE a b c d,ew px py lim] (.one (aN (jD a b c d px py))):=by
 unfold jD;cases h0:decide (a<=px) with|false=>exact ad [] [false] [pF h0] (by kernel_rfl)|true =>
  cases h1:decide (px<=c) with|false=>exact ad [] [true,false] [pT h0,pF h1] (by kernel_rfl)|true =>
   cases h2:decide (b<=py) with|false=>exact ad [] [true,true,false] [pT h0,pT h1,pF h2] (by kernel_rfl)|true=>exact ad [] [true,true,true] [pT h0,pT h1,pT h2] (by kernel_rfl)
def KJ(l:List It):Option (Int×Int×Int×Int):=match l with | [.i a _,.i b _,.i c _,.i d _]=>some (a,b,c,d)|_=>none
theorem Q9{V W:World}{r:Nat->Nat}{k:Nat}{l:List It}{p:Int×Int}(h:sO l=some p):∀v,au V W r k ⟨true,l⟩ v->au V W r k (ew p.1 p.2 lim) v:=by
 unfold sO at h;split at h<;>cases h;intro v ⟨cs,⟨c,d,e,h1,c2,d2,e2,h2,h3⟩,h4,h5⟩;cases h3;exact⟨cs,⟨c,d,e,⟨h1.1,aQ h1.2.2,h1.2.2⟩,c2,[],e2,⟨h2.1,aQ h2.2.2,h2.2.2⟩,rfl⟩,h4,h5⟩
theorem a6Q{V W:World}{r:Nat->Nat}{k:Nat}{l:List It}{p:Int×Int×Int×Int}(h:KJ l=some p):∀v,au V W r k ⟨true,l⟩ v->au V W r k (uE p.1 p.2.1 p.2.2.1 p.2.2.2) v:=by
 unfold KJ at h;split at h<;>cases h;intro v ⟨cs,⟨c,d,e,h1,c2,d2,e2,h2,c3,d3,e3,h3,c4,d4,e4,h4,h5⟩,h6,h7⟩;cases h5;exact⟨cs,⟨c,d,e,⟨h1.1,aQ h1.2.2,h1.2.2⟩,c2,d2,e2,⟨h2.1,aQ h2.2.2,h2.2.2⟩,c3,d3,e3,⟨h3.1,aQ h3.2.2,h3.2.2⟩,c4,[],e4,⟨h4.1,aQ h4.2.2,h4.2.2⟩,rfl⟩,h6,h7⟩
def a7t:ah where
 f:=177
 g:=λ| [⟨true,l⟩,⟨true,m⟩]=>(match KJ l,sO m with|some q,some p=>some (.one (aN (jD q.1 q.2.1 q.2.2.1 q.2.2.2 p.1 p.2)),[])|_,_=>none)|_=>none
 ok:=by
  intro args res ps h' hp
  split at h'<;>try cases h'
  split at h'<;>cases h'
  rename_i he hq
  exact (a67 _ _ _ _ _ _).pre λW=>aU (a6Q he) (aU (Q9 hq) dY)
def Jt(px py:Int):Option Mb:=some ⟨24,[.i px lim,.i py lim]⟩
def Df(px py:Int):List Pf:=[⟨px=px,rfl⟩,⟨py=py,rfl⟩]
def pW(e:Nat->Ed)(px py:Int)(k:Nat)(h:k<1000):Pf:=⟨kl e px py k+lR (e k) px py=kl e px py (k+1)/\(kl e px py k+lR (e k) px py).natAbs<=2000,rfl,by have:=UI e px py (k+1);unfold kl at this;omega⟩
def a56(f:FuncId)(g:Sh->Int->Int->AV)(c:Sh->List Prop)(h:∀s px py,aw (c s)->ae Tryz.prog f [bh s,ew px py lim] (g s px py)):ah where
 f:=f
 g:=λ| [⟨true,l⟩,⟨true,m⟩]=>(match oe l,sO m with|some z,some p=>some (g z.1 p.1 p.2,z.2++c z.1)|_,_=>none)|_=>none
 ok:=by
  intro args res ps h' hp
  split at h'<;>try cases h'
  split at h'<;>cases h'
  rename_i he hq
  obtain⟨p1,p2⟩:=aw.app hp
  exact (h _ _ _ p2).pre λW=>aU (λv hv=>wZ he p1 hv) (aU (Q9 hq) dY)
end
set_option maxRecDepth 100000
section
theorem a66(a b:Int):decide (min a b >= 0)=(decide (0<=a)&&decide (0<=b)):=by
 rw[Bool.eq_iff_iff];simp;omega
theorem a68(dx dy fx fy tx ty:Int):ae Tryz.prog 215 [ew dx dy gA,ew fx fy gA,ew tx ty gA] (.one (aN (uR dx dy fx fy tx ty))):=by
 have h:uR dx dy fx fy tx ty=decide (min (fx*dy-fy*dx) (dx*ty-dy*tx) >= 0):=(a66 _ _).symm;rw[h];exact ad [] [] [] (by kernel_rfl)
def Bi:ah where
 f:=215
 g:=λ| [⟨true,[.i dx A,.i dy B]⟩,⟨true,[.i fx C,.i fy D]⟩,⟨true,[.i tx E,.i ty F]⟩]=>if (A<=gA/\B<=gA)/\(C<=gA/\D<=gA)/\(E<=gA/\F<=gA) then some (.one (aN (uR dx dy fx fy tx ty)),[]) else none|_=>none
 ok:=by
  intro args res ps h hp
  split at h<;>try cases h
  split at h<;>cases h
  rename_i hb
  exact (a68 _ _ _ _ _ _).pre λW=>aU (zp hb.1.1 hb.1.2) (aU (zp hb.2.1.1 hb.2.1.2) (aU (zp hb.2.2.1 hb.2.2.2) dY))
theorem Ql{x y:Int}(h:(x==0&&y==0)=true):(!dk [.i x,.i y] [.i 0,.i 0])=false:=by simpa[dk,yx] using h
theorem Qm{x y:Int}(h:(x==0&&y==0)=false):(!dk [.i x,.i y] [.i 0,.i 0])=true:=by simp only[dk,yx,h];rfl
theorem a3U(e:Ed)(x y:Int)(hok:e.ok=true):ae Tryz.prog 202 [aO e 3 aC,ew x y gA] (.one (aN (eF e x y))):=by
 by_cases hk:e.k=3
 ·have h1 : (e.k == 3) = true := by simpa using hk
  cases hz:(x==0&&y==0) with|true =>
   rw[show eF e x y=false by unfold eF;rw[hz];rfl];exact ad [Bh,Bi] [true,false] [pT h1,pP hok,pF (Ql hz)] (by kernel_rfl)|false =>
   rw[show eF e x y=uR x y (e.bx-e.cx) (e.by'-e.cy) (e.ax-e.cx) (e.ay-e.cy) by unfold eF;rw[hz,if_pos hk];rfl];exact ad [Bh,Bi] [true,true] [pT h1,pP hok,pT (Qm hz)] (by kernel_rfl)
 ·have h1 : (e.k == 3) = false := by simpa using hk
  cases hz:(x==0&&y==0) with|true =>
   rw[show eF e x y=false by unfold eF;rw[hz];rfl];exact ad [Bh,Bi] [false,false] [pF h1,pF (Ql hz)] (by kernel_rfl)|false =>
   rw[show eF e x y=uR x y (e.ax-e.cx) (e.ay-e.cy) (e.bx-e.cx) (e.by'-e.cy) by unfold eF;rw[hz,if_neg hk];rfl];exact ad [Bh,Bi] [false,true] [pF h1,pT (Qm hz)] (by kernel_rfl)
def MZ:ah where
 f:=202
 g:=λ| [⟨true,l⟩,⟨true,[.i x A,.i y B]⟩]=>if A<=gA/\B<=gA then (eK l).map λe=>(.one (aN (eF e x y)),[e.ok=true]) else none|_=>none
 ok:=by
  intro args res ps h hp
  split at h<;>try cases h
  split at h<;>try cases h
  rename_i hb
  rename_i l x A y B
  cases he:eK l with
  | none=>simp[he] at h
  | some e =>
   simp only[he,Option.map_some,Option.some.injEq,Prod.mk.injEq] at h
   obtain⟨rfl,rfl⟩:=h
   exact (a3U e x y hp.1).pre λW=>aU (nu he hp.1) (aU (zp hb.1 hb.2) dY)
def fQ(s:Sp):V1:=⟨true,[.i s.x lim,.i s.y lim,.i s.dx lim,.i s.dy lim,.i s.p lim,.i s.q lim,.i s.len lim]⟩
def Ko(r:Rt×Sp):AV:=.tup [dX r.1,fQ r.2]
theorem EG(x:Int):0-x = -x:=by omega
end
set_option maxRecDepth 100000
section
theorem XP{x y:Int}(h:dP x y=true):(!dP x y)=false:=by rw[h];rfl
theorem XQ{x y:Int}(h:dP x y=false):(!dP x y)=true:=by rw[h];rfl
theorem a1B{x:Int}(h:I64 x):(jE (ai x) (ai x)).1=ai (x*x):=by
 have s0:=(Wd.of64 h).small (by omega);have s1:=((Wd.of64 h).mul (Wd.of64 h)).small (by omega);rw[Ix s0 s0 s1]
def MY:ah where
 f:=201;g:=λ| [⟨false,[.i x _]⟩]=>some (.one (nM (ai (x*x))),[])|_=>none
 ok:=by
  intro args res ps h _;split at h<;>cases h;intro W vals hv;have hx:=hv;simp only[aK,iL,dL] at hx;obtain⟨_,⟨⟨_,hi⟩,rfl⟩,_,rfl,rfl⟩:=hx;rw[<- a1B hi];exact ad [ve,cMul] [] [] (by kernel_rfl) W _ hv
def KP:List ah:=[ve,MY,xZ,Be,vf,Bg,MZ]
theorem a3B(e:Ed)(x y:Int)(hok:e.ok=true)(hc:dP x y=true):ae Tryz.prog 133 [aO e 3 aC,ew x y aC] (Ko (gm e x y)):=by
 have P1:=pF (aD hok);have P2:=pF (XP hc);have e0:gm e x y=if e.k=1 then Ip e x y else Ft e x y:=by unfold gm;rw[hok,hc];rfl
 rw[e0];by_cases hk:e.k=1
 ·have hk1 : (e.k == 1) = true := by simpa using hk
  rw[if_pos hk];unfold Ip;split
  ·rename_i h1;exact ad KP [false,false,true,true] [P1,P2,pT hk1,pT (decide_eq_true h1)] (by kernel_rfl)
  ·rename_i h1;split
   ·rename_i h2;exact ad KP [false,false,true,false,true] [P1,P2,pT hk1,pF (decide_eq_false h1),pT (mH h2)] (by kernel_rfl)
   ·rename_i h2;exact ad KP [false,false,true,false,false] [P1,P2,pT hk1,pF (decide_eq_false h1),pF (gV h2)] (by kernel_rfl)
 ·have hk1 : (e.k == 1) = false := by simpa using hk
  rw[if_neg hk];unfold Ft;split
  ·rename_i hq;by_cases h2:az e*az e<=jv (x-e.cx) (y-e.cy)
   ·rw [if_pos h2, <- EG (az e)];exact ad KP [false,false,false,true,true] [P1,P2,pF hk1,pP hok,pP hok,pT hq,pT (mH h2)] (by kernel_rfl)
   ·rw [if_neg h2];exact ad KP [false,false,false,true,false,true] [P1,P2,pF hk1,pP hok,pP hok,pT hq,pF (gV h2),pP hok,pT hq] (by kernel_rfl)
  ·rename_i hq;replace hq:=Bool.eq_false_iff.2 hq;split
   ·rename_i h2;exact ad KP [false,false,false,false,false,true] [P1,P2,pF hk1,pP hok,pP hok,pF hq,pP hok,pF hq,pT (decide_eq_true h2)] (by kernel_rfl)
   ·rename_i h2;exact ad KP [false,false,false,false,false,false] [P1,P2,pF hk1,pP hok,pP hok,pF hq,pP hok,pF hq,pF (decide_eq_false h2)] (by kernel_rfl)
theorem a3A(e:Ed)(x y:Int)(h:(e.ok&&dP x y)=false):ae Tryz.prog 133 [aO e lim lim,ew x y lim] (Ko (gm e x y)):=by
 rw[show gm e x y=(Rt.no,Sp.no) by unfold gm;rw[h];rfl];cases ho:e.ok with|false=>exact ad KP [true] [pT (yc ho)] (by kernel_rfl)|true =>
  rw[ho] at h;exact ad KP [false,true] [pF (aD ho),pT (XQ h)] (by kernel_rfl)
def WB:ah where
 f:=133
 g:=λ| [⟨true,l⟩,⟨true,[.i x _,.i y _]⟩]=>(eK l).map λe=>(Ko (gm e x y),[])|_=>none
 ok:=by
  intro args res ps h hp
  split at h<;>try cases h
  rename_i l x A y B
  cases he:eK l with
  | none=>simp[he] at h
  | some e =>
   simp only[he,Option.map_some,Option.some.injEq,Prod.mk.injEq] at h
   obtain⟨rfl,rfl⟩:=h
   cases hc:(e.ok&&dP x y) with
   | false=>exact (a3A e x y hc).pre λW=>aU (ql he) (aU a3M dY)
   | true =>
    simp only[Bool.and_eq_true] at hc
    exact (a3B e x y hc.1 hc.2).pre λW=>aU (nu he hc.1) (aU (a3K (mi.1 hc.2)) dY)
end
set_option maxRecDepth 100000
section
def a4Q(f:FuncId)(H:∀a:Rt,ao a.n.d/\ao a.d.d->ae Tryz.prog f [dX a] (.one (aN a.right))):ah where
 f:=f;g:=λ| [⟨true,[.i a _,.i s _,.d (.zi n _),.d (.zi d _)]⟩]=>some (.one (aN (Rt.right ⟨a,s,ai n,ai d⟩)),[])|_=>none
 ok:=by
  intro args res ps h hp;split at h<;>cases h;rename_i a _ s _ n N d D;refine ae.pre (H ⟨a,s,ai n,ai d⟩ ⟨yn _,yn _⟩) λW=>aU (λv hv=>?_) λ_ h=>h
  simp only[bL,bi,nW,fh] at hv;obtain⟨_,⟨⟨_,i1⟩,_,rfl,⟨_,i2⟩,_,rfl,_,n1,p1,l1,c1,h1,_,rfl,_,m1,q1,k1,d1,h2,_,rfl,rfl⟩,rfl⟩:=hv;exact bL.2 ⟨_,bi.2 ⟨aP i1,_,rfl,bi.2 ⟨aP i2,_,rfl,js.2 ⟨n1,p1,l1,c1,h1,_,rfl,js.2 ⟨m1,q1,k1,d1,h2,_,rfl,rfl⟩⟩⟩⟩,rfl⟩
def c8:Nat:=4294967296 ^ 8
def zS(a s n d:Int):V1:=⟨true,[.i a lim,.i s 1,.d (.zi n c8),.d (.zi d c8)]⟩
theorem Ny(a b:Rt):(eE a b).natAbs<=1/\I64 (eE a b):=by
 have sg3:∀ {x:Int},-1<=x/\x<=1->x = -1\/x=0\/x=1:=λh=>by omega
 have key : -1<=eE a b/\eE a b<=1:=by
  unfold eE;split
  ·unfold qd;split
   ·omega
   ·have h := sg3 (Eh ((a.add - b.add) * a.d.z) a.s (a.n.z * a.d.z));have g:=sg3 (Eh ((a.add-b.add)*(a.add-b.add)*a.d.z*b.d.z+a.n.z*b.d.z-b.n.z*a.d.z) (2*(a.add-b.add)*a.s*b.d.z) (a.n.z*a.d.z));generalize cO ((a.add-b.add)*a.d.z) a.s (a.n.z*a.d.z)=u at h;generalize cO ((a.add-b.add)*(a.add-b.add)*a.d.z*b.d.z+a.n.z*b.d.z-b.n.z*a.d.z) (2*(a.add-b.add)*a.s*b.d.z) (a.n.z*a.d.z)=v at g;rcases h with rfl|rfl|rfl<;>rcases g with rfl|rfl|rfl<;>decide
  ·decide
 exact⟨by omega,by unfold I64;omega⟩
theorem TD{V W:World}{r:Nat->Nat}{k:Nat}{a s:Int}{A S:Nat}{n d:Nm}(h:Rt.right ⟨a,s,n,d⟩=true)(dn:ao n.d)(dd:ao d.d):(n=ai n.z/\d=ai d.z/\0<=n.z*d.z)/\∀v,au V W r k ⟨true,[.i a A,.i s S,.d (.num n),.d (.num d)]⟩ v->au V W r k (zS a s n.z d.z) v:=by
 have ok:=(Sz (a:=⟨a,s,n,d⟩) dn dd h).1;have en:=IV dn ok.nr;have ed:=IV dd ok.dr;have zn:n.z=(val n.d:Int):=ok.zs.1;have zd:d.z=(val d.d:Int):=ok.zs.2;have bd:∀ {x:List Nat},ao x->x.length<=8->val x<=c8:=λhx hl=>Nat.le_trans (Nat.le_of_lt (ip hx)) (Nat.pow_le_pow_right (by decide) hl)
 refine⟨⟨en.symm,ed.symm,by rw[zn,zd];exact Int.mul_nonneg (by omega) (by omega)⟩,λv hv=>?_⟩;simp only[bL,bi,js,fh] at hv;obtain⟨_,⟨⟨_,i1⟩,_,rfl,⟨_,i2⟩,_,rfl,n1,p1,l1,c1,h1,_,rfl,m1,q1,k1,d1,h2,_,rfl,rfl⟩,rfl⟩:=hv;have b1:=bd dn ok.nl;have b2:=bd dd ok.dl;have sl:=ok.sl;have su:=ok.su;simp only at sl su;exact bL.2 ⟨_,bi.2 ⟨aP i1,_,rfl,bi.2 ⟨⟨by omega,i2⟩,_,rfl,nW.2 ⟨by omega,n1,p1,l1,c1,en.symm ▸ h1,_,rfl,nW.2 ⟨by omega,m1,q1,k1,d1,ed.symm ▸ h2,_,rfl,rfl⟩⟩⟩⟩,rfl⟩
def Xy(f:FuncId)(N:∀a b:Rt,ao a.n.d/\ao a.d.d->ao b.n.d/\ao b.d.d->(a.right&&b.right)=false->ae Tryz.prog f [dX a,dX b] (.one (aj 0 lim)))
  (H:∀a s n d b t m e:Int,Rt.right ⟨a,s,ai n,ai d⟩=true->Rt.right ⟨b,t,ai m,ai e⟩=true->0<=n*d->ae Tryz.prog f [zS a s n d,zS b t m e] (.one (aj (qd (a-b) s n d t m e) lim))):ah where
 f:=f;g:=λ| [⟨true,[.i a _,.i s _,.d (.num n),.d (.num d)]⟩,⟨true,[.i b _,.i t _,.d (.num m),.d (.num e)]⟩]=>some (.one (aj (eE ⟨a,s,n,d⟩ ⟨b,t,m,e⟩) 1),[])|_=>none
 ok:=by
  intro args res ps h hp;split at h<;>cases h;rename_i a A s S n d b B t T m e;intro W vals hv;obtain⟨v1,g1,l1,rfl,hv1⟩:=aK.1 hv;obtain⟨v2,g2,l2,rfl,hv2⟩:=aK.1 hv1;obtain⟨k1,dn,dd,_⟩:=zQ g1;obtain⟨k2,dm,de,_⟩:=zQ g2;have b0:=(Ny ⟨a,s,n,d⟩ ⟨b,t,m,e⟩).1;cases hr:(Rt.right ⟨a,s,n,d⟩&&Rt.right ⟨b,t,m,e⟩) with
  | false =>
   have e0:eE ⟨a,s,n,d⟩ ⟨b,t,m,e⟩=0:=by unfold eE;rw[hr];rfl
   rw[e0];exact (N _ _ ⟨dn,dd⟩ ⟨dm,de⟩ hr).bd (by decide) W _ (aK.2 ⟨_,k1,_,rfl,aK.2 ⟨_,k2,_,rfl,hv2⟩⟩)
  | true =>
   have e0:eE ⟨a,s,n,d⟩ ⟨b,t,m,e⟩=qd (a-b) s n.z d.z t m.z e.z:=by unfold eE;rw[hr];rfl
   rw[e0] at b0 ⊢;simp only[Bool.and_eq_true] at hr;obtain⟨⟨x1,x2,x3⟩,x4⟩:=TD (V:=W) (W:=W) (r:=λ_=>0) (k:=0) (A:=A) (S:=S) hr.1 dn dd;obtain⟨⟨y1,y2,_⟩,y4⟩:=TD (V:=W) (W:=W) (r:=λ_=>0) (k:=0) (A:=B) (S:=T) hr.2 dm de;exact (H a s n.z d.z b t m.z e.z (by rw[<- x1,<- x2];exact hr.1) (by rw[<- y1,<- y2];exact hr.2) x3).bd b0 W _ (aK.2 ⟨_,x4 _ g1,_,rfl,aK.2 ⟨_,y4 _ g2,_,rfl,hv2⟩⟩)
end
set_option maxRecDepth 100000
section
def M9:ah:=La 143 tq (·+·) (·+·) (λA B=>decide (A+B<kN)) a1W a7n
def WV:ah:=a7j 145 λa b _ _ _ _ _ _ _ _ w h1 h2=>CH a b _ _ _ _ _ _ _ _ w h1 h2
def WH:ah:=a4Q 98 λa _=>Tf a
def KZ:List ah:=[FS,Na,M9,WV]
theorem a5o(a b c:Int):ae Tryz.prog 151 [oi a Ba,oi b Ba,oi c Ba] (.one (aj (cO a b c) lim)):=by
 unfold cO;by_cases h:0<=sgn a*(sgn b*sgn c)
 ·rw [if_pos h];exact ad KZ [true] [pT (decide_eq_true h)] (by kernel_rfl)
 ·rw [if_neg h, show a * a = 1 * a * a by rw [Int.one_mul], show b * b * c = 1 * b * b * c by rw [Int.one_mul]];exact ad KZ [false] [pF (decide_eq_false h)] (by kernel_rfl)
def WX:ah:=a6b 151 Ba λa b c _ _ _ _=>a5o a b c
def LH:List ah:=WH::WX::KZ
theorem a5j(a s n d b t m e:Int)(h1:Rt.right ⟨a,s,ai n,ai d⟩=true)(h2:Rt.right ⟨b,t,ai m,ai e⟩=true)(h0:0<=n*d):ae Tryz.prog 99 [zS a s n d,zS b t m e] (.one (aj (qd (a-b) s n d t m e) lim)):=by
 have h3:0<=1*n*d:=by rw[Int.one_mul];exact h0
 have hU:cO (1*(0+a+1 * -1*b)*d) s (1*n*d)=cO ((a-b)*d) s (n*d):=by
  rw[show 1*(0+a+1 * -1*b)*d=(a-b)*d by grind,Int.one_mul]
 have hV:cO (0+1*(0+a+1 * -1*b)*(0+a+1 * -1*b)*d*e+1*n*e+1 * -1*(1*m*d)) (1*2*(0+a+1 * -1*b)*s*e) (1*n*d)=cO ((a-b)*(a-b)*d*e+n*e-m*d) (2*(a-b)*s*e) (n*d):=by
  rw[show 0+1*(0+a+1 * -1*b)*(0+a+1 * -1*b)*d*e+1*n*e+1 * -1*(1*m*d)=(a-b)*(a-b)*d*e+n*e-m*d by grind,show 1*2*(0+a+1 * -1*b)*s*e=2*(a-b)*s*e by grind,Int.one_mul]
 unfold qd;rw[<- hU,<- hV];by_cases h:cO (1*(0+a+1 * -1*b)*d) s (1*n*d)≠t
 ·rw [if_pos h];exact ad LH [false,false,true] [pF (hZ h1),pF (hZ h2),pP h3,pT (gZ h)] (by kernel_rfl)
 ·rw [if_neg h];exact ad LH [false,false,false] [pF (hZ h1),pF (hZ h2),pP h3,pF (jF h),pP h3] (by kernel_rfl)
theorem a5i(a b:Rt)(h:(a.right&&b.right)=false):ae Tryz.prog 99 [dX a,dX b] (.one (aj 0 lim)):=by
 cases h1:a.right with|false=>exact ad [FO] [true] [pT (vY h1)] (by kernel_rfl)|true =>
  rw[h1] at h;exact ad [FO] [false,true] [pF (hZ h1),pT (vY h)] (by kernel_rfl)
def fA:ah:=Xy 99 (λa b _ _ h=>a5i a b h) a5j
theorem a5h(a:Rt)(z:Int):ae Tryz.prog 37 [dX a,aj z lim] (.one (aj (eE a ⟨z,0,zero,ai 1⟩) lim)):=ad [fA,ve] [] [] (by kernel_rfl)
def MW:ah where
 f:=37;g:=λ| [⟨true,[.i a _,.i s _,.d (.num n),.d (.num d)]⟩,⟨false,[.i z _]⟩]=>some (.one (aj (eE ⟨a,s,n,d⟩ ⟨z,0,zero,ai 1⟩) 1),[])|_=>none
 ok:=by
  intro args res ps h hp;split at h<;>cases h;rename_i a _ s _ n d z _;exact ((a5h ⟨a,s,n,d⟩ z).bd (Ny _ _).1).pre λW=>aU (λ_ h=>(zQ h).1) (aU B5 λ_ h=>h)
end
end Go.Proofs.YtghemgdfmldoeaaGreat
