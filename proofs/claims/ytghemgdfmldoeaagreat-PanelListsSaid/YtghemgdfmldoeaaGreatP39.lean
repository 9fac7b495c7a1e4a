import Derived.Test.YtghemgdfmldoeaaGreatP38
set_option linter.unusedVariables false
set_option linter.unusedSimpArgs false
namespace Go.Proofs.YtghemgdfmldoeaaGreat
open Go.RowKit
set_option maxRecDepth 100000
section
def ZC(x:Int):Nat->List It:=λi=>([[.k 0,.k 0,.k 0,.b false],[.i x lim,.k 0,.k 1,.b false]].getD i []).map dB
def ZB:List (Int×Nat):=e7 ⟨1,45,0,45,20,0,0⟩
def ZD:Nat->List It:=λi=>([[.k 1,.d (.ed 1 λq=>[ZB].getD q []),.k 1]].getD i []).map dB
def ZE:Nat->List It:=λi=>([[.k 45,.k 50]].getD i []).map dB
theorem ZI(x:Int):ae Tryz.prog 47 [aj x lim] (.one ⟨true,[.ol 74 4 2 (ZC x),.ol 30 3 1 ZD,.ol 24 2 1 ZE,.i 3 lim]⟩) :=
 qp [aJ] [] [] [] (by kernel_rfl)
theorem ZH(x:Int):ae Tryz.prog 47 [aj x lim] (.one (ff (lD x))) :=
 (ZI x).mono λV W y hr => by
  obtain⟨cs,⟨c1,_,e1,⟨v1,q1,h1⟩,c2,_,e2,⟨v2,q2,h2⟩,c3,_,e3,⟨v3,q3,h3⟩,h4⟩,h5⟩:=hr;refine⟨cs,⟨c1,_,e1,⟨v1,q1,qK (λi hi ds hd=>?_) h1⟩,c2,_,e2,⟨v2,q2,qK (λi hi ds hd=>?_) h2⟩,c3,_,e3,⟨v3,q3,qK (λi hi ds hd=>?_) h3⟩,h4⟩,h5⟩
  ·have hi : i < 2 := hi;rcases (by omega:i=0\/i=1) with rfl|rfl<;>exact hd
  ·obtain rfl : i = 0 := Nat.lt_one_iff.1 hi;obtain⟨d1,_,f1,g1,d2,_,f2,⟨u,f3,g2⟩,g3⟩:=hd;exact⟨d1,_,f1,g1,d2,_,f2,⟨u,f3,GN (λq (hq:q<1)=>by
    obtain rfl:q=0:=Nat.lt_one_iff.1 hq;rfl) g2⟩,g3⟩
  ·obtain rfl : i = 0 := Nat.lt_one_iff.1 hi;exact hd
def Wi:ah:=qe yi 47 (λx=>.one (ff (lD x))) (λ_=>[]) λx _=>ZH x
def mD:Sh:=jK 0 0 40 20
theorem BP(x:Int)(hx:x.natAbs<=1000)(t:Int)(ht:0<=t/\t<4):uX mD ⟨x,0,t,false⟩ :=
 ⟨by decide,by decide,(DW (x:=0) (y:=0) (u:=40) (v:=20) (by omega) (by omega) (by omega) (by omega)).1.ok,Nat.le_trans hx (by decide),Nat.zero_le _,by simp only;omega⟩
theorem OC:xn 70 mD/\BQ 70 mD=true:=by
 refine⟨⟨⟨rfl,by decide,BP 0 (by decide) 0 (by decide),by kernel_rfl⟩,⟨rfl,by decide,BP 70 (by decide) 1 (by decide),by kernel_rfl⟩,.inr ⟨rfl,rfl,⟨by decide,by decide,by kernel_rfl⟩,.inl ⟨by kernel_rfl,by kernel_rfl⟩⟩⟩,by kernel_rfl⟩
theorem OB:xn 60 mD/\BQ 60 mD=false:=by
 refine⟨⟨⟨rfl,by decide,BP 0 (by decide) 0 (by decide),by kernel_rfl⟩,⟨rfl,by decide,BP 60 (by decide) 1 (by decide),by kernel_rfl⟩,.inr ⟨rfl,rfl,⟨by decide,by decide,by kernel_rfl⟩,.inr ⟨by kernel_rfl,by kernel_rfl,by kernel_rfl,by kernel_rfl⟩⟩⟩,by kernel_rfl⟩
def Bt(p:Pnl):Int:=if p.nc=2/\(p.c 1).x=60 then 74 else 0
def Aq(p:Pnl)(o:Sh):Prop:=(p=mQ/\xk fZ o)\/((p=lD 70\/p=lD 60)/\o=mD)
theorem Xp(p:Pnl)(o:Sh)(h:Aq p o):ae Tryz.prog yB [panV p,bh o] (.one (aj (Bt p) lim)):=by
 rcases h with⟨rfl,h⟩|⟨rfl|rfl,rfl⟩
 ·exact Xq o h
 ·exact Xn 70 mD OC.1 OC.2
 ·exact Xm 60 mD OB.1 OB.2
def Wa:ah:=gi dPan qh yB (λp o=>.one (aj (Bt p) lim)) (λp o=>[Aq p o]) λp o h=>Xp p o h.1
theorem a4v(x y z u:Int):ae Tryz.prog 48 [BC.C (x,y,z,u)] (.one (bf (jK x y z u))):=dw [] [] [] [] (by kernel_rfl)
def WG:ah:=qe BC 48 (λa=>.one (bf (jK a.1 a.2.1 a.2.2.1 a.2.2.2))) (λ_=>[]) λa _=>a4v a.1 a.2.1 a.2.2.1 a.2.2.2
end
set_option maxRecDepth 100000
section
def Gh:gg where
 α:=Bool
 C:=λb=>⟨false,[.b b]⟩
 d:=fun|⟨false,[.v (.bool c)]⟩=>some (c,[])|⟨false,[.b c]⟩=>some (c,[])|_=>none
 ok:=by
  intro v a ps h hp W x hr;split at h
  ·cases h;obtain⟨cs,⟨_,_,rfl,h,rfl⟩,e,h2⟩:=hr;exact⟨_,⟨_,[],rfl,h.1,rfl⟩,e,h2⟩
  ·cases h;exact hr
  ·cases h
theorem GK(p:Pnl)(n:Nat)(F:Nat->aI)(b:Bool)(h:iq p n F):ae Tryz.prog er [panV p,ez n F,⟨false,[.b b]⟩] (.one (fK (aM p n F+bif b then p.nm else 0) (bj p n F))):=by
 cases b
 ·exact Gs p n F h
 ·exact Gw p n F h
def FH:ah:=me dPan tB Gh er (λp L b=>.one (fK (aM p L.1 L.2+bif b then p.nm else 0) (bj p L.1 L.2))) (λp L _=>[iq p L.1 L.2]) λp L b h=>GK p L.1 L.2 b h.1
def OQ:FuncId:=10
def Vf:List ah:=[Wi,WG,Wa,Bf,FH,NV,FM,FI,NW,FR]
def oZ(l:List (List It)):Nat->List It:=λi=>(l.getD i []).map dB
def mr(s:Sh):List It:=[.i s.k lim,fW s.n s.e,.i s.r lim,.b false]
def sA:Sh:=fB 10 5 1
def sB:Sh:=fB 65 10 1
def F1:Nat->aI:=λj=>qi (oZ [mr sA] j)
def F2:Nat->aI:=λj=>qi (oZ [mr sA,mr sB] j)
def F3:Nat->aI:=λj=>qi (oZ [mr sA,mr sB,mr rQ] j)
def rN:ByteArray:=⟨#[]⟩
def P1:Nat->je:=λj=>Jq (oZ [[.k 0,.v (.string rN),.v (.string rN),.k 10,.k 5,.k 1]] j)
def H0:Nat->cA:=λj=>vG (Am j)
def H1:Nat->cA:=λj=>vG (oZ [[.i lE.k lim,fW lE.n lE.e,.i lE.r lim,.k 1,.k 2,.b false]] j)
def uH(q:je):List Sc:=[.i q.c,.s q.a,.s q.b,.i q.x,.i q.y,.i q.l]
def pX:Pnl:=lD 70
def kh{α:Type}(I:α->List It)(f:Nat->List It)(A:List It->α)(n:Nat)(h:∀j,j<n->f j=I (A (f j))):Pf:=⟨∀j,j<n->f j=I (A (f j)),h⟩
theorem nJ{j:Nat}(h:j<1):j=0:=by omega
theorem yW{j:Nat}(h:j<2):j=0\/j=1:=by omega
theorem PV{j:Nat}(h:j<3):j=0\/j=1\/j=2:=by omega
theorem a5C(k:Nat)(hk:k<2):uX sA (pX.c k):=by
 rcases yW hk with rfl|rfl
 ·exact⟨by decide,by decide,λi hi=>by obtain rfl:=nJ hi;decide,by decide,by decide,by decide⟩
 ·exact⟨by decide,by decide,λi hi=>by obtain rfl:=nJ hi;decide,by decide,by decide,by decide⟩
theorem a5E:dI pX 1 λi=>(F1 i).s:=⟨by decide,by decide,by decide,λk j hk hj=>by obtain rfl:=nJ hj;exact a5C k hk⟩
theorem a5y:iq pX 1 F1:=⟨a5E,by decide⟩
theorem a5D:iO pX 1 P1:=⟨by decide,by decide,by decide,λk j hk hj=>by
 obtain rfl:=nJ hj;rcases yW hk with rfl|rfl
 ·exact⟨⟨⟨by decide,by decide⟩,by decide⟩,by decide,by decide⟩
 ·exact⟨⟨⟨by decide,by decide⟩,by decide⟩,by decide,by decide⟩⟩
theorem a5B:oq pX 0 H0:=⟨⟨by decide,by decide,by decide,λk j _ hj=>absurd hj (Nat.not_lt_zero j)⟩,by decide,λi hi=>by obtain rfl:=nJ hi;decide⟩
def zT(p:Pnl):List Pf:=k9 p
def sa1:List Pf:=[pP (show Aq (lD 70) mD from .inr ⟨.inl rfl,rfl⟩)]++zT (lD 70)++[bN mD,pT (show (Bt (lD 70)==0)=true by decide),pP (show Aq (lD 60) mD from .inr ⟨.inr rfl,rfl⟩)]++zT (lD 60)++[bN mD]
def TG(b:Bool)(m:Nat)(F:Nat->aI)(f:Nat->List It)(h:∀j,j<m->f j=aS (qi (f j)))(g:iD kA (aM pX 1 F1+bif b then pX.nm else 0) m (bj pX 1 F1) F=true)(hl:aM pX 1 F1+(bif b then pX.nm else 0)<=1000)(hn:∀i,i<aM pX 1 F1+(bif b then pX.nm else 0)->(bj pX 1 F1 i).s.n<=1000)(e:F=λj=>qi (f j)):List Pf :=
 [pP a5y]++zT pX++[kh aS (oZ [mr sA]) qi 1 (λj hj=>by obtain rfl:=nJ hj;rfl),pP hl,pP hn,⟨∀j,j<aM pX 1 F1+(bif b then pX.nm else 0)->aS (bj pX 1 F1 j)=aS (qi (aS (bj pX 1 F1 j))),λ_ _=>rfl⟩,⟨∀j,j<m->f j=aS (qi (f j)),h⟩]
theorem TI:iD kA (aM pX 1 F1+bif false then pX.nm else 0) 2 (bj pX 1 F1) F2=true:=by kernel_rfl
theorem TJ:iD kA (aM pX 1 F1+bif true then pX.nm else 0) 3 (bj pX 1 F1) F3=true:=by kernel_rfl
theorem a5z:iD lC (pX.nc*0+pX.nt) 1 (bQ pX 0 H0 2) H1=true:=by kernel_rfl
theorem TK(b:Bool)(i:Nat)(h:i<aM pX 1 F1+(bif b then pX.nm else 0)):(bj pX 1 F1 i).s.n<=1000:=by
 have h3:i<3:=by
  have:aM pX 1 F1+(bif b then pX.nm else 0)<=3:=by cases b<;>decide
  omega
 rcases PV h3 with rfl|rfl|rfl<;>decide
theorem a5A(i:Nat)(h:i<pX.nc*0+pX.nt):(bQ pX 0 H0 2 i).s.n<=1000:=by
 obtain rfl:i=0:=nJ h;decide
def sa4:List Pf:=[pP a5D]++zT pX++[kh cS (oZ [[.k 0,.v (.string rN),.v (.string rN),.k 10,.k 5,.k 1]]) Jq 1 (λj hj=>by obtain rfl:=nJ hj;rfl),
 pT (show ((((pX.nc*1:Nat):Int))==2)=true by decide),jZ 0 (pX.nc*1) (by decide),pT (show dk (uH (fl pX 1 P1 0)) [.i 0,.s rN,.s rN,.i 10,.i 5,.i 1]=true by kernel_rfl),jZ 1 (pX.nc*1) (by decide)]
def sa6:List Pf:=[pP a5B]++zT pX++[kh aY Am vG 0 (λj hj=>absurd hj (Nat.not_lt_zero j)),pT (show (Bt (lD 60)==74)=true by decide),pT TJ,pT (show dk (uH (fl pX 1 P1 1)) [.i 1,.s rN,.s rN,.i 65,.i 10,.i 1]=true by kernel_rfl),jZ 0 pX.nt (by decide),
 pP (show pX.nc*0+pX.nt<=1000 by decide),pP a5A,⟨∀j,j<pX.nc*0+pX.nt->aY (bQ pX 0 H0 2 j)=aY (vG (aY (bQ pX 0 H0 2 j))),λ_ _=>rfl⟩,kh aY (oZ [[.i lE.k lim,fW lE.n lE.e,.i lE.r lim,.k 1,.k 2,.b false]]) vG 1 (λj hj=>by obtain rfl:=nJ hj;rfl),pT a5z]
def a5x:List Pf:=sa1++TG false 2 F2 (oZ [mr sA,mr sB]) (λj hj=>by rcases yW hj with rfl|rfl<;>rfl) TI (by decide) (TK false) rfl++[pT TI] ++
 TG true 3 F3 (oZ [mr sA,mr sB,mr rQ]) (λj hj=>by rcases PV hj with rfl|rfl|rfl<;>rfl) TJ (by decide) (TK true) rfl++sa4++sa6
theorem a5H:ae Tryz.prog OQ [] (.one (aN true)) :=
 qp [aJ] Vf [true,true,true,true,true,true,true,true] a5x (by kernel_rfl)
end
end Go.Proofs.YtghemgdfmldoeaaGreat
namespace Go.Proofs.YtghemgdfmldoeaaGreat.W
open Go.RowKit
theorem GK(p:Pnl)(n:Nat)(F:Nat->aI)(b:Bool)(h:iq p n F):ae Tryz.prog er [panV p,ez n F,⟨false,[.b b]⟩] (.one (fK (aM p n F+bif b then p.nm else 0) (bj p n F))):=by
 cases b
 ·exact Gs p n F h
 ·exact Gw p n F h
def FH:ah:=me dPan tB Gh er (λp L b=>.one (fK (aM p L.1 L.2+bif b then p.nm else 0) (bj p L.1 L.2))) (λp L _=>[iq p L.1 L.2]) λp L b h=>GK p L.1 L.2 b h.1
def Yx:ah:=me dPan tB Gh dE (λp L b=>.one (fK (aM p L.1 L.2+bif b then p.nm else 0) (bj p L.1 L.2))) (λp L _=>[rC p L.1 L.2]) λp L b h=>a4t p L.1 L.2 b h.1
def Yy:ah:=me dPan tC yi jB (λp L y=>.one (gW (p.nc*L.1+p.nt) (bQ p L.1 L.2 y))) (λp L _=>[uZ p L.1 L.2]) λp L y h=>a4O p L.1 L.2 y h.1
def Yz:ah:=gi dPan yj mE (λp L=>.one (cX p L.1 L.2 (p.nc*L.1))) (λp L=>[iO p L.1 L.2]) λp L h=>a5f p L.1 L.2 h.1
end Go.Proofs.YtghemgdfmldoeaaGreat.W
namespace Go.Proofs.YtghemgdfmldoeaaGreat
open Go.RowKit
set_option maxRecDepth 100000
section
def yv:List It->List Int
 | [.ds L]=>L|_=>[]
def NQ:gg where
 α:=Cs
 C:=tA;d:=fun|⟨true,[.ds o,.ds p,.i a _,.i b _,.i c _,.ro z n f,.ro y m g]⟩=>if z=1/\y=1 then some (⟨o,p,a,b,c,n,λi=>yv (f i),m,λi=>yv (g i)⟩,[∀j,j<n->f j=ky (yv (f j)),∀j,j<m->g j=ky (yv (g j))]) else none|_=>none
 ok:=by
  intro v a ps h hp W x hr;split at h
  ·split at h <;> cases h;rename_i hz;obtain⟨rfl,rfl⟩:=hz;obtain⟨cs,⟨_,_,rfl,h1,_,_,rfl,h2,_,_,rfl,⟨rfl,_,i1⟩,_,_,rfl,⟨rfl,_,i2⟩,_,_,rfl,⟨rfl,_,i3⟩,c6,_,rfl,⟨v6,e6,h6⟩,c7,_,rfl,⟨v7,e7,h7⟩,rfl⟩,e,_⟩:=hr;exact⟨_,⟨_,_,rfl,h1,_,_,rfl,h2,_,_,rfl,⟨rfl,aQ i1,i1⟩,_,_,rfl,⟨rfl,aQ i2,i2⟩,_,_,rfl,⟨rfl,aQ i3,i3⟩,c6,_,rfl,⟨v6,e6,D7 hp.1 h6⟩,c7,[],rfl,⟨v7,e7,D7 hp.2.1 h7⟩,rfl⟩,e,nofun⟩
  ·cases h
def Wt:ah:=qe NQ OP (λc=>.tup [bf (qM c),ff (eH c)]) (λ_=>[]) λc _=>a1n c
def nD(c:Cs):Nat:=min c.nd 9
def nS(c:Cs):Nat:=min c.ns 5
def Wq:ah:=qe NQ qo (λc=>.tup [gW (nS c) (fV c),mS (nS c) (jh c)]) (λ_=>[]) λc _=>a0W c
def Yt:gg:=yl 1 ky yv
def V6:ah:=qe Yt qn (λa=>.one (fK (min a.1 9) λi=>iV (a.2 i) i)) (λ_=>[]) λa _=>a04 a.1 a.2
def WJ:ah where
 f:=OQ;g:=λ| []=>some (.one (aN true),[])|_=>none
 ok:=by
  intro args res ps h hp;split at h<;>cases h;exact a5H
def gB(c:Cs)(i:Nat):aI:=iV (c.d i) i
theorem VR(a:ByteArray):(a==a)=true:=by
 obtain⟨d⟩:=a;show (d==d)=true;simp
theorem Zl(q:je):dk (uH q) (uH q)=true:=by simp[uH,dk,yx,VR]
theorem CB(c:Cs):nS c<=5:=Nat.min_le_right _ _
end
set_option maxRecDepth 100000
section
theorem GL(L:List Int)(k:Nat):oo (iV L k).s:=by
  unfold iV;split
  . have b1 := eG L 1 (m := 40) (by omega);have b2:=eG L 2 (m:=40) (by omega);have b3:=eG L 3 (m:=40) (by omega);have b4:=eG L 4 (m:=40) (by omega);exact DW (by omega) (by omega) (by omega) (by omega)
  . exact uj L
theorem Qj(c:Cs):nD c<=9:=Nat.min_le_right _ _
theorem Zj(e:Ed):rP e e=true:=by simp[rP]
theorem Ou(s:Sh):iE s s=true:=by
  unfold iE;rw[md.2 λi _=>Zj _];simp
theorem Zi(d:aI):kA d d=true:=by simp[kA,Ou]
theorem Zk(d:cA):lC d d=true:=by simp[lC,Ou]
theorem Ot{α:Type}{eq:α->α->Bool}{n m:Nat}{F G:Nat->α}(hn:n=m)(h:∀i,i<n->F i=G i)(hr:∀x,eq x x=true):iD eq n m F G=true:=by
  unfold iD;rw[md.2 λi hi=>by rw[h i hi];exact hr _];simp[hn]
def zx(n:Nat)(f:Nat->List Int):Pf:=⟨∀j,j<n->ky (f j)=ky (f j),λ_ _=>rfl⟩
def qX{α:Type}(I:α->List It)(n:Nat)(f:Nat->α):Pf:=⟨∀j,j<n->I (f j)=I (f j),λ_ _=>rfl⟩
end
end Go.Proofs.YtghemgdfmldoeaaGreat
namespace Go.Proofs.YtghemgdfmldoeaaGreat.W
open Go.RowKit
structure pS (p:Pnl):Prop where
 c:p.nc<=40
 t:p.nt<=10
 m:p.nm<=60
 e:∀j,j<p.nt->(p.t j).n<=4
theorem PX(L:List Int):(bS L).n=1\/(bS L).n=2\/(bS L).n=3\/(bS L).n=4\/(bS L).n=8:=by
 unfold bS;simp only;split
 ·exact .inr (.inr (.inr (.inl rfl)))
 split
 ·exact .inr (.inr (.inr (.inr rfl)))
 split
 ·exact .inr (.inr (.inl rfl))
 split
 ·exact .inl rfl
 ·have b := eG L 4 (m := 3) (by omega);obtain e|e|e:(1+nV L 4 3).toNat=1\/(1+nV L 4 3).toNat=2\/(1+nV L 4 3).toNat=3:=by omega
  all_goals rw[e]
  ·exact .inl rfl
  ·exact .inr (.inl rfl)
  ·exact .inr (.inr (.inl rfl))
theorem BU{s:Sh}(h:oo s):∀i,i<s.n->lw (s.e i):=λi hi=>by
 have b:=h.2.1 i hi;unfold pQ dJ at b;have c0:1000<=fb:=by decide
 exact⟨h.1.ok i hi,⟨by simp only;omega,by simp only;omega⟩,⟨by simp only;omega,by simp only;omega⟩,⟨by simp only;omega,by simp only;omega⟩⟩
theorem ZP{s:Sh}(h:oo s):AB s:=⟨by have:=h.1.n0;unfold gG at this;split at this<;>omega,by have:=h.1.n1;omega,BU h⟩
theorem YT(L:List Int)(k:Nat):xC (iV L k).s:=⟨by
 unfold iV;split
 ·exact .inr (.inr (.inr (.inl rfl)))
 ·exact PX L,BU (GL L k)⟩
section
variable {p:Pnl} (h:pS p) (c:Cs)
include h
theorem OS{n:Nat}(hn:n<=9){S:Nat->Sh}(hS:∀j,j<n->oo (S j)):dI p n S :=
 ⟨by have:=h.c;omega,by omega,Nat.le_trans (Nat.mul_le_mul h.c hn) (by decide),λj hj=>ZP (hS j hj)⟩
theorem G6:iq p (nD c) (gB c) :=
 ⟨OS h (Qj c) λj _=>GL _ _,by have:=Nat.mul_le_mul h.c (Qj c);have:=h.m;omega⟩
theorem ZL:rC p (nD c) (gB c):=⟨G6 h c,λj _=>YT _ _⟩
theorem G7:oq p (nS c) (fV c) :=
 ⟨OS h (by have:=CB c;omega) λj _=>uj _,by have:=Nat.mul_le_mul h.c (CB c);have:=h.t;omega,λi hi=>by have:=h.e i hi;omega⟩
theorem ZM:uZ p (nS c) (fV c):=⟨G7 h c,λj _=>⟨PX _,BU (uj _)⟩,h.e⟩
theorem G8:iO p (nS c) (jh c) :=
 ⟨by have:=h.c;omega,by have:=CB c;omega,Nat.le_trans (Nat.mul_le_mul h.c (CB c)) (by decide),λj _=>by
  have h0:=(PW (c.s j)).1;exact (BU (uj (c.s j)) 0 h0).a⟩
end
end Go.Proofs.YtghemgdfmldoeaaGreat.W
namespace Go.Proofs.YtghemgdfmldoeaaGreat
open Go.RowKit
section
structure Kn (a:Act) (n:Nat) (D:List Deferred) (L:List (Nat×Value)):Prop where
 sz:a.tmps.size=n
 df:a.defers=D
 at_:∀x v,L.lookup x=some v->a.tmps.getD x undef=v
def tO(L:List (Nat×Value)):Operand->Value
 | .tmp t=>(L.lookup t).getD undef|x=>(⟨#[],[]⟩:Act).eval x
def sK(L:List (Nat×Value))(o:Oper):Bool:=(o.op.operands.toList.all λx=>match x with | .tmp t=>(L.lookup t).isSome|_=>true)&&match o.op with | .select _ _=>false|_=>true
section
variable {P:Program} {ops:Array Oper} {S:World->Prop} {Q:Act->World->Prop} {o:Oper} {l:List Oper} {a:Act} {own:List Nat} {F:World->Prop} {C:Act->List Nat->(World->Prop)->Prop} {n:Nat} {D:List Deferred} {L:List (Nat×Value)}
theorem Kn.put{d:Nat}{v:Value}(H:Kn a n D L)(hd:d<n):Kn (a.put (some d) v) n D ((d,v)::L) :=
 ⟨by rw[jr,H.sz],by rw[a3P,H.df],λx u h=>by
  rw[get_put,H.sz,if_pos hd];rw[List.lookup_cons] at h;by_cases e:d=x
  ·subst e;rw[if_pos rfl];simpa using h
  ·rw [if_neg e];rw[show (x==d)=false by simpa using λh=>e h.symm] at h;exact H.at_ x u h⟩
theorem Kn.ev(H:Kn a n D L)(h:sK L o=true):execOp a.eval o=execOp (tO L) o:=by
 unfold sK at h;simp only[Bool.and_eq_true,List.all_eq_true] at h;refine execOp_congr o (λcs b e=>by rw[e] at h;simp at h) λx hx=>?_
 have hx':=h.1 x (by simpa using hx);cases x with
 | tmp t =>
  have hx':(List.lookup t L).isSome=true:=hx';cases hq:L.lookup t with
  | none=>rw[hq] at hx';cases hx'
  | some v=>show a.tmps.getD t undef=(L.lookup t).getD undef;rw[hq];exact H.at_ t v hq
 | _=>rfl
theorem jM(h:o.guard=none):Region.wanted o (yielded ops a.tmps)=true:=by unfold Region.wanted;rw[h]
theorem K_ev{d:Nat}{v:Value}(H:Kn a n D L)(h:∀b,Kn b n D ((d,v)::L)->C b own F)(hr:∀W,(execOp (tO L) o).run P W=.ok (.value v) W:=by intro W;kernel_rfl)
  (hi:sK L o=true:=by kernel_rfl) (hd:o.dst=some d:=by kernel_rfl) (hg:o.guard=none:=by kernel_rfl) (hn:d<n:=by decide):aW P ops S C o a own F :=
 aW.pure v (.inl ⟨jM hg,λW _=>by rw[H.ev hi];exact hr W⟩) (by rw[hd];exact h _ (H.put hn))
theorem K_ld{d x g j m:Nat}(t:TypeId){b:Bool}{T:TypeId}{fr:Nat×Nat}{cs:List Value}{v:Value}(H:Kn a n D L)(hx:L.lookup x=some (.pointer (some ⟨g,j,none⟩)))(hm:∀W,S W->W.heap[g]? = some (.cells cs.toArray T fr))(hl:j+m<=cs.length)(hv:dj b ((cs.drop j).take m)=v)
  (h:∀b,Kn b n D ((d,v)::L)->C b own F) (ho:o.op=.load t (.tmp x):=by kernel_rfl) (h1:bV P t=some m:=by kernel_rfl) (h2:jU P t=some b:=by kernel_rfl) (h4:b=false->m=1:=by simp)
  (hd:o.dst=some d:=by kernel_rfl) (hg:o.guard=none:=by kernel_rfl) (hn:d<n:=by decide):aW P ops S C o a own F:=by
 subst hv;refine aW.pure (dj b ((cs.drop j).take m)) (.inl ⟨jM hg,λW hW=>lF (m:=Instr.loadAt t (a.eval (.tmp x))) (by unfold execOp;rw[ho]) ?_⟩) (by rw[hd];exact h _ (H.put hn));rw[show a.eval (.tmp x)=_ from H.at_ x _ hx];simp only[Instr.loadAt,Instr.sureAddr,Sem.run_bind,Sem.run_pure,Result.andThen_ok];exact pG (hm W hW) h1 h2 hl h4
theorem LL{d s x g j c m z:Nat}{i:Int}(t e:TypeId)(H:Kn a n D L)(hs:L.lookup s=some (.slice (some ⟨g,j,none⟩) m c))(hx:L.lookup x=some (.int .i64 i))(hi:0<=i/\i<m)(h:∀b,Kn b n D ((d,.pointer (some ⟨g,j+i.toNat*z,none⟩))::L)->C b own F)
  (ho:o.op=.indexAddr t (.tmp s) (.tmp x):=by kernel_rfl) (hu:P.underlying t=some (.slice e):=by kernel_rfl) (hz:bV P e=some z:=by kernel_rfl)
  (hd:o.dst=some d:=by kernel_rfl) (hg:o.guard=none:=by kernel_rfl) (hn:d<n:=by decide):aW P ops S C o a own F:=by
 refine aW.pure (.pointer (some ⟨g,j+i.toNat*z,none⟩)) (.inl ⟨jM hg,λW hW=>lF (m:=Instr.indexAt t (a.eval (.tmp s)) (a.eval (.tmp x))) (by unfold execOp;rw[ho]) ?_⟩) (by rw[hd];exact h _ (H.put hn));rw[show a.eval (.tmp s)=_ from H.at_ s _ hs,show a.eval (.tmp x)=_ from H.at_ x _ hx];simp[Instr.indexAt,asIntOf,run_underlying hu,hi,fP hz,Addr.add_mid]
theorem LK{d:Nat}{f:FuncId}{args:Array Value}(T:Value->World->Prop)(hm:∀v,dh (T v))(H:Kn a n D L)(hc:∀W,F W->Calls P f args W (λe w'=>∃v,e=.returned v/\ac W w'/\T v w'))
  (h:∀v b,(∃w,F w/\T v w)->Kn b n D ((d,v)::L)->C b own (λw=>F w/\T v w)) (he:∀W,(execOp (tO L) o).run P W=.ok (.enter f args) W:=by intro W;kernel_rfl) (hk:av o=2:=by kernel_rfl)
  (hi:sK L o=true:=by kernel_rfl) (hd:o.dst=some d:=by kernel_rfl) (hg:o.guard=none:=by kernel_rfl) (hn:d<n:=by decide):aW P ops S C o a own F :=
 aW.eff hk (jM hg) Value (λv=>v) T hm (λW hW=>tU (by rw[H.ev hi];exact he W) ((hc W hW).mono λe w' ⟨v,h1,h2,h3⟩=>⟨v,h1,v,rfl,h2,h3⟩)) λv hv=>by rw[hd];exact h v _ hv (H.put hn)
theorem K_al{d:Nat}(obj:Obj)(sv:Nat->Value)(H:Kn a n D L)(h:∀g b,g∉own->Kn b n D ((d,sv g)::L)->C b (g::own) (λw=>F w/\w.heap[g]? = some obj))(hr:∀W,(execOp (tO L) o).run P W=.ok (.value (sv W.heap.size)) (W.alloc obj):=by intro W;kernel_rfl)
  (hs:∀g,gq o g=sv g:=by intro g;kernel_rfl) (hk:av o=1:=by kernel_rfl)
  (hi:sK L o=true:=by kernel_rfl) (hd:o.dst=some d:=by kernel_rfl) (hg:o.guard=none:=by kernel_rfl) (hn:d<n:=by decide):aW P ops S C o a own F :=
 .flo hk (jM hg) obj (λW _=>by rw[H.ev hi,hs];exact hr W) λg hg' _=>by rw[hd,hs];exact h g _ hg' (H.put hn)
theorem K_st{x y g j m:Nat}(t:TypeId){U:TypeId}{u:Value}{old vs:List Value}(T:World->Prop)(hm:dh T)(hS:∀W,T W->S W)(H:Kn a n D L)(hx:L.lookup x=some (.pointer (some ⟨g,j,none⟩)))(hy:L.lookup y=some u)(hu:u.cells=vs.toArray)
  (hF:∀W,F W->W.heap[g]? = some (.cells old.toArray U)/\(fR g W (W.setRow g (old.take j++(vs++old.drop (j+vs.length))).toArray)->(W.setRow g (old.take j++(vs++old.drop (j+vs.length))).toArray).heap[g]? = some (.cells (old.take j++(vs++old.drop (j+vs.length))).toArray U)->T (W.setRow g (old.take j++(vs++old.drop (j+vs.length))).toArray)))
  (hl:vs.length=m) (hj:j+vs.length<=old.length) (h1:∀v∈vs,v.oneCell'=true)
  (h:C a own (λw=>T w/\∀g∈own,g<w.heap.size)) (ho:o.op=.store t (.tmp x) (.tmp y):=by kernel_rfl) (hz:bV P t=some m:=by kernel_rfl) (hk:av o=3:=by kernel_rfl)
  (hd:o.dst=none:=by kernel_rfl) (hg:o.guard=none:=by kernel_rfl):aW P ops S C o a own F:=by
 refine aW.sto hk (jM hg) Unit (λ_=>undef) (λ_=>T) (λ_=>hm) (λ_=>hS) (λW hW=>?_) λ_ _=>(by rw[hd,zr];exact h)
 obtain⟨k1,k2⟩:=hF W hW;obtain⟨o1,o2⟩:=lP (cs':=(old.take j++(vs++old.drop (j+vs.length))).toArray) k1;exact qw (W:=W.setRow g (old.take j++(vs++old.drop (j+vs.length))).toArray) (oQ ho (H.at_ x _ hx) k1 (by rw[show a.eval (.tmp y)=_ from H.at_ y _ hy];exact hu) hz hl hj h1) ⟨(),rfl,by rw[o1.size];exact Nat.le_refl _,k2 o1 o2⟩
theorem DX{id:Nat}{l:List Oper}{a:Act}{w:World}{Q:Exit->Act->World->Prop}(h:aF Tryz.prog l.toArray (λa w=>Q .normal a w) l a w):(Code.region id l.toArray false).wp Tryz.prog Q a w:=wp_region_lit (aF.wp h)
theorem jS{w:World}{d:Nat}{v:Value}(H:Kn a n D L)(h:∀b,Kn b n D ((d,v)::L)->aF P ops Q l b w)(hr:∀W,(execOp (tO L) o).run P W=.ok (.value v) W:=by intro W;kernel_rfl)
  (hi:sK L o=true:=by kernel_rfl) (hd:o.dst=some d:=by kernel_rfl) (hg:o.guard=none:=by kernel_rfl) (hn:d<n:=by decide):aF P ops Q (o::l) a w :=
 jN (jM hg) (by rw[H.ev hi];exact hr w) (by rw[hd];exact h _ (H.put hn))
theorem AC{w:World}{d x g j m:Nat}(t:TypeId){b:Bool}{T:TypeId}{fr:Nat×Nat}{cs:List Value}{v:Value}(H:Kn a n D L)(hx:L.lookup x=some (.pointer (some ⟨g,j,none⟩)))(hm:w.heap[g]? = some (.cells cs.toArray T fr))(hl:j+m<=cs.length)(hv:dj b ((cs.drop j).take m)=v)
  (h:∀b,Kn b n D ((d,v)::L)->aF P ops Q l b w) (ho:o.op=.load t (.tmp x):=by kernel_rfl) (h1:bV P t=some m:=by kernel_rfl) (h2:jU P t=some b:=by kernel_rfl) (h4:b=false->m=1:=by simp)
  (hd:o.dst=some d:=by kernel_rfl) (hg:o.guard=none:=by kernel_rfl) (hn:d<n:=by decide):aF P ops Q (o::l) a w:=by
 subst hv;refine jN (jM hg) (lF (m:=Instr.loadAt t (a.eval (.tmp x))) (by unfold execOp;rw[ho]) ?_) (by rw[hd];exact h _ (H.put hn));rw[show a.eval (.tmp x)=_ from H.at_ x _ hx];simp only[Instr.loadAt,Instr.sureAddr,Sem.run_bind,Sem.run_pure,Result.andThen_ok];exact pG hm h1 h2 hl h4
theorem E5{w:World}{d s x g j c m z:Nat}{i:Int}(t e:TypeId)(H:Kn a n D L)(hs:L.lookup s=some (.slice (some ⟨g,j,none⟩) m c))(hx:L.lookup x=some (.int .i64 i))(hi:0<=i/\i<m)(h:∀b,Kn b n D ((d,.pointer (some ⟨g,j+i.toNat*z,none⟩))::L)->aF P ops Q l b w)
  (ho:o.op=.indexAddr t (.tmp s) (.tmp x):=by kernel_rfl) (hu:P.underlying t=some (.slice e):=by kernel_rfl) (hz:bV P e=some z:=by kernel_rfl)
  (hd:o.dst=some d:=by kernel_rfl) (hg:o.guard=none:=by kernel_rfl) (hn:d<n:=by decide):aF P ops Q (o::l) a w:=by
 refine jN (jM hg) (lF (m:=Instr.indexAt t (a.eval (.tmp s)) (a.eval (.tmp x))) (by unfold execOp;rw[ho]) ?_) (by rw[hd];exact h _ (H.put hn));rw[show a.eval (.tmp s)=_ from H.at_ s _ hs,show a.eval (.tmp x)=_ from H.at_ x _ hx];simp[Instr.indexAt,asIntOf,run_underlying hu,hi,fP hz,Addr.add_mid]
theorem Vp{w:World}{d s x g c m z:Nat}{i:Int}(t e:TypeId)(H:Kn a n D L)(hs:L.lookup s=some (.slice (some ⟨g,0,none⟩) m c))(hx:L.lookup x=some (.int .i64 i))(hi:0<=i/\i<=c)(hc:0<c)(h:∀b,Kn b n D ((d,.slice (some ⟨g,0,none⟩) i.toNat c)::L)->aF P ops Q l b w)
  (ho:o.op=.slice t (.tmp s) none (some (.tmp x)) none:=by kernel_rfl) (hu:P.underlying t=some (.slice e):=by kernel_rfl) (hz:bV P e=some z:=by kernel_rfl)
  (hd:o.dst=some d:=by kernel_rfl) (hg:o.guard=none:=by kernel_rfl) (hn:d<n:=by decide):aF P ops Q (o::l) a w:=by
 refine jN (jM hg) (lF (m:=Instr.sliceAt t (a.eval (.tmp s)) none (some (a.eval (.tmp x))) none) (by unfold execOp;rw[ho];rfl) ?_) (by rw[hd];exact h _ (H.put hn));rw[show a.eval (.tmp s)=_ from H.at_ s _ hs,show a.eval (.tmp x)=_ from H.at_ x _ hx];simp only[Instr.sliceAt,Sem.run_bind,run_underlying hu,Result.andThen_ok,Instr.slice,Instr.sliceBounds,Instr.sliceBound,asIntOf,Sem.run_pure];rw[if_pos (by omega)];simp only[Sem.run_pure,Result.andThen_ok,fP hz];rw[if_neg (by omega)];simp[Addr.add_mid]
theorem E6{w:World}{x y g j m:Nat}(t:TypeId){U:TypeId}{u:Value}{old vs:List Value}(H:Kn a n D L)(hx:L.lookup x=some (.pointer (some ⟨g,j,none⟩)))(hy:L.lookup y=some u)(hu:u.cells=vs.toArray)
  (k1:w.heap[g]? = some (.cells old.toArray U)) (hl:vs.length=m) (hj:j+vs.length<=old.length) (h1:∀v∈vs,v.oneCell'=true)
  (h:∀W,fR g w W->W.heap[g]? = some (.cells (old.take j++(vs++old.drop (j+vs.length))).toArray U)->aF P ops Q l a W) (ho:o.op=.store t (.tmp x) (.tmp y):=by kernel_rfl) (hz:bV P t=some m:=by kernel_rfl)
  (hd:o.dst=none:=by kernel_rfl) (hg:o.guard=none:=by kernel_rfl):aF P ops Q (o::l) a w:=by
 obtain⟨o1,o2⟩:=lP (cs':=(old.take j++(vs++old.drop (j+vs.length))).toArray) k1;refine Aj (jM hg) (oQ ho (H.at_ x _ hx) k1 (by rw[show a.eval (.tmp y)=_ from H.at_ y _ hy];exact hu) hz hl hj h1) ?_;rw[hd,zr];exact h _ o1 o2
theorem Vo{w:World}{x g j m:Nat}(t:TypeId){U:TypeId}{u:Value}{old vs:List Value}(H:Kn a n D L)(hx:L.lookup x=some (.pointer (some ⟨g,j,none⟩)))(hu:u.cells=vs.toArray)
  (k1:w.heap[g]? = some (.cells old.toArray U)) (hl:vs.length=m) (hj:j+vs.length<=old.length) (h1:∀v∈vs,v.oneCell'=true)
  (h:∀W,fR g w W->W.heap[g]? = some (.cells (old.take j++(vs++old.drop (j+vs.length))).toArray U)->aF P ops Q l a W) (ho:o.op=.store t (.tmp x) (.const u):=by kernel_rfl) (hz:bV P t=some m:=by kernel_rfl)
  (hd:o.dst=none:=by kernel_rfl) (hg:o.guard=none:=by kernel_rfl):aF P ops Q (o::l) a w:=by
 obtain⟨o1,o2⟩:=lP (cs':=(old.take j++(vs++old.drop (j+vs.length))).toArray) k1;refine Aj (jM hg) (oQ ho (H.at_ x _ hx) k1 (by exact hu) hz hl hj h1) ?_;rw[hd,zr];exact h _ o1 o2
end
def NL(B:Nat)(W:World)(T:TypeId)(z n:Nat)(f:Nat->List It)(v:Value):Prop :=
 ∃g c,∃xs:Array Value,v=.slice (some ⟨g,0,none⟩) n c/\B<=g/\W.heap[g]? = some (.cells xs T)/\n<=c/\c<=maxLen/\xs.size=c*z/\(∀v∈xs.toList,nd v)/\∀i,i<n->∃cs d,xs.toList.drop (i*z)=cs++d/\cs.length=z/\cE W (f i) cs
section
variable {B z n:Nat} {V W W':World} {T:TypeId} {f:Nat->List It} {v:Value}
theorem NL.to(h:NL B W T z n f v)(hd:∀(D:Dat) cs,D.R W cs->D.R W' cs)(hw:∀g xs,B<=g->W.heap[g]? = some (.cells xs T)->W'.heap[g]? = some (.cells xs T)):NL B W' T z n f v:=by
 obtain⟨g,c,xs,e,h1,h2,h3,h4,h5,h6,h7⟩:=h;exact⟨g,c,xs,e,h1,hw g xs h1 h2,h3,h4,h5,h6,λi hi=>by
  obtain⟨cs,d,k1,k2,k3⟩:=h7 i hi;exact⟨cs,d,k1,k2,k3.mono hd⟩⟩
theorem NL.sl(h:NL B W T z n f v):∃g c,v=.slice (some ⟨g,0,none⟩) n c:=by obtain⟨g,c,_,e,_⟩:=h;exact⟨g,c,e⟩
theorem NL.ext(h:NL B W T z n f v)(hx:ac W W'):NL B W' T z n f v:=h.to (λ_ _ h=>Dat.ext hx h) λ_ _ _ h=>aH h hx
theorem NL.only{g0:Nat}{xs:List Value}{U:TypeId}(h:NL B W T z n f v)(ho:fR g0 W W')(hU:W.heap[g0]? = some (.cells xs.toArray U))(hn:∀v∈xs,nd v)(hne:U≠T)(hE:U≠tE):NL B W' T z n f v :=
 h.to (λD cs h=>Dat.keep hU hn ho (.inr hE) h) λg ys _ hy=>by
  rw[ho.block g λe=>?_]
  ·exact hy
  ·subst e;rw[hU] at hy;simp only[Option.some.injEq,Obj.cells.injEq] at hy;exact hne hy.2.1
theorem NL.ol{r:Nat->Nat}{k:Nat}(h:NL B W T z n f v)(hV:V.heap.size<=B)(hr:∀b,b<k->r b<B\/∃ys U,W.heap[r b]? = some (.cells ys U)/\U≠T):eb V W r k T z n f v:=by
 obtain⟨g,c,xs,e,h1,h2,h3⟩:=h;refine .inr ⟨g,c,xs,e,⟨Nat.le_trans hV h1,λb hb e=>?_⟩,h2,h3⟩;rcases hr b hb with h|⟨ys,U,hy,hu⟩
 ·omega
 ·rw [e, h2] at hy;simp only[Option.some.injEq,Obj.cells.injEq] at hy;exact hu hy.2.1.symm
theorem eb.only{g0:Nat}{r:Nat->Nat}{k:Nat}{xs:List Value}{U:TypeId}(h:eb V W r k T z n f v)(ho:fR g0 W W')(hU:W.heap[g0]? = some (.cells xs.toArray U))(hn:∀v∈xs,nd v)(hne:U≠T)(hE:U≠tE):eb V W' r k T z n f v:=by
 rcases h with h|⟨g,c,ys,e,h1,h2,h3,h4,h5,h6,h7⟩
 ·exact .inl h
 ·refine .inr ⟨g, c, ys, e, h1, ?_, h3, h4, h5, h6, λi hi => ?_⟩
  ·rw [ho.block g λe => ?_]
   ·exact h2
   ·subst e;rw[hU] at h2;simp only[Option.some.injEq,Obj.cells.injEq] at h2;exact hne h2.2.1
  ·obtain ⟨cs, d, k1, k2, k3⟩ := h7 i hi;exact⟨cs,d,k1,k2,k3.mono λD cs h=>Dat.keep hU hn ho (.inr hE) h⟩
end
def It.isN:It->Bool
 | .i _ _=>true|.k _=>true|.v _=>true|.b _=>true|.d _=>true|.fc _ _=>true|_=>false
theorem jx.toN{V:World}{i:It}{cs:List Value}(hi:i.isN=true)(h:jx V i cs):rD V i cs:=by
 cases i<;>first|exact h|cases hi
theorem aE.toN{V:World}:∀ {l:List It} {cs:List Value},l.all It.isN=true->aE V l cs->cE V l cs
 | [],_,_,e=>e|i::l,_,hl,⟨c,d,e,h1,h2⟩=>by
  simp only[List.all_cons,Bool.and_eq_true] at hl;exact⟨c,d,e,h1.toN hl.1,aE.toN hl.2 h2⟩
theorem VH{P:Program}{V W:World}{t ty e:TypeId}{i:TypeInfo}{zv:Value}{B z m g0:Nat}{f:Nat->List It}{v2:Value}(hu:P.underlying t=some (.slice e))(hi:P.info? e=some i)(hz:i.zero=some zv)(hsz:i.size=z)(hzc:zv.cells.size=z)(hz0:0<z)(hzn:∀v∈zv.cells.toList,nd v)(hb:i.bytes<=4096)
  (hx:ac V W) (h2:fU (aE V) V z m f v2) (hN:∀j,j<m->(f j).all It.isN=true/\((f j).map It.n).sum=z) (hm:m<=1000) (hg0:W.heap[g0]? = some (.cells #[] e)) (hB:B<=g0) (hBW:B<=W.heap.size) (he:e≠tE) :
  ∃u W',(Builtin.append_ #[t,t] ty #[.slice (some ⟨g0,0,none⟩) 0 0,v2]).run P W=.ok u W'/\ac W W'/\NL B W' e z m f u:=by
 have po:PO W B e z (some ⟨g0,0,none⟩) 0 0 []:=⟨by simp,.inr ⟨g0,#[],rfl,hB,hg0,Nat.le_refl _,Nat.zero_le _,by simp,by simp,nofun⟩⟩;obtain⟨a,c,rfl,hmc,hcm,hrow⟩:=h2;rcases Nat.eq_zero_or_pos m with h0|h0
 ·subst h0;refine⟨_,W,L9 W hu hi (Nat.le_refl 0),Below.refl _ _,g0,0,#[],rfl,hB,hg0,Nat.le_refl _,Nat.zero_le _,by simp,nofun,λi hi=>absurd hi (Nat.not_lt_zero _)⟩
 ·obtain ⟨g2, o2, ys, T2, rfl, hy, _⟩ := hrow 0 h0;have hr:∀j,j<m->∃cs d,ys.toList.drop (o2+j*z)=cs++d/\cs.length=z/\cE V (f j) cs:=λj hj=>by
   obtain⟨g,o,xs,T,e1,e2,e3,cs,d,e4,e5⟩:=hrow j hj;cases e1;rw[hy] at e2;simp only[Option.some.injEq,Obj.cells.injEq] at e2;obtain⟨rfl,_⟩:=e2;have hN':=hN j hj;have k:=e5.toN hN'.1;exact⟨cs,d,e4,by rw[(k.toL (V:=V) (r:=λ_=>0) (k:=0)).cells.1,hN'.2],k⟩
  have hlen:o2+m*z<=ys.size:=by
   obtain⟨cs,d,e1,e2,_⟩:=hr (m-1) (by omega);have:=congrArg List.length e1;rw[List.length_drop,List.length_append,e2,Array.length_toList] at this;have e3:m*z=(m-1)*z+z:=by rw[<- Nat.succ_mul];congr 1;omega
   omega
  have hys:((ys.toList.drop o2).take (m*z)).length=m*z:=by rw[List.length_take,List.length_drop,Array.length_toList];omega
  have hrow':∀j,j<m->∃cs d,((ys.toList.drop o2).take (m*z)).drop (j*z)=cs++d/\cs.length=z/\cE V (f j) cs:=λj hj=>by
   obtain⟨cs,d,e1,e2,e3⟩:=hr j hj;have hjz:(j+1)*z<=m*z:=Nat.mul_le_mul_right _ hj;rw[Nat.succ_mul] at hjz;refine⟨cs,d.take (m*z-j*z-z),?_,e2,e3⟩;rw[List.drop_take,List.drop_drop,e1,List.take_append,List.take_of_length_le (by omega),e2]
  have hall:∀v∈(ys.toList.drop o2).take (m*z),nd v/\v.oneCell'=true:=by
   intro v hv;obtain⟨j,hj,rfl⟩:=List.getElem_of_mem hv;have hjm:j/z<m:=by rw[Nat.div_lt_iff_lt_mul hz0];omega
   obtain⟨cs,d,k1,k2,k3⟩:=hrow' (j/z) hjm;refine k3.cells _ ?_;have e1:j=j/z*z+j%z:=(Nat.div_add_mod' j z).symm;have hlt:=Nat.mod_lt j hz0;have e2:(((ys.toList.drop o2).take (m*z)).drop (j/z*z))[j%z]? = some ((ys.toList.drop o2).take (m*z))[j]:=by
    rw[List.getElem?_drop,<- e1];exact List.getElem?_eq_getElem hj
   rw[k1,List.getElem?_append_left (by omega)] at e2;exact List.mem_of_getElem? e2
  have hnews:∀j u,((ys.toList.drop o2).take (m*z))[j]? = some u->W.cell? ((⟨g2,o2,none⟩:Addr).add j)=some u:=by
   intro j u hj;rw[Addr.add_mid,cell_of_row _ _ _ _ _ _ (aH hy hx)];rw[List.getElem?_take] at hj;split at hj
   ·rw [List.getElem?_drop] at hj;simpa using hj
   ·cases hj
  obtain⟨g3,c3,W',k1,k2,k3,k4,k5⟩:=Fq (P:=P) W (t:=t) (ty:=ty) hu hi hz hsz rfl hzc hz0 hzn po ⟨g2,o2,none⟩ m c _ hys hnews (λv hv=>(hall v hv).2) (λv hv=>(hall v hv).1) h0 (by omega) hb hBW;have hx':ac W W':=⟨k3.os,k3.tape,k3.output,k3.size,λk hk=>by
   by_cases e:k=g0
   ·subst e;obtain⟨cur',n1,n2,_⟩:=k5 k #[] _ rfl hg0;rw[n1,hg0,Array.eq_empty_of_size_eq_zero n2]
   ·exact k3.block k hk λh=>e (Option.some.inj h)⟩
  refine⟨_,W',k1,hx',?_⟩;obtain⟨l1,hk⟩:=k2;rcases hk with⟨hk,_⟩|⟨g',cur,hk,l2,l3,l4,l5,l6,l7,l8⟩
  ·cases hk
  cases hk;rw[Nat.zero_add] at l4 l7 ⊢;refine⟨g3,c3,cur,rfl,l2,l3,l4,l5,l6,l8,λj hj=>?_⟩;obtain⟨cs,d,e1,e2,e3⟩:=hrow' j hj;obtain⟨d0,e0⟩:=drop_take (k:=j*z) l7;refine⟨cs,d++d0,?_,e2,e3.mono λD cs h=>yK po k3 (.inr he) (Dat.ext hx h)⟩;rw[e0,List.nil_append,e1,List.append_assoc]
end
end Go.Proofs.YtghemgdfmldoeaaGreat
set_option maxRecDepth 100000
namespace Go.Proofs.YtghemgdfmldoeaaGreat.W
open Go.RowKit
def BS:FuncId:=15
def F9(s:Sh):Sh:={ s with n:=min s.n 4 }
def rK(p:Pnl):Pnl:=⟨min p.nc 4,p.c,min p.nt 4,λi=>F9 (p.t i),min p.nm 4,p.m,p.r⟩
def vU(n:Nat):Nat:=(min (n:Int) 4).toNat
theorem Qc(n:Nat):vU n=min n 4:=by unfold vU;omega
noncomputable def runT(f:FuncId)(args:List V1)(q:List Bool):Option ((It×It×It×Nat×List It)×List Prop) :=
 match Tryz.prog.funcs[f]? with|none=>none|some fn=>match fn.body with|none=>none|some c=>match fq Tryz.prog (env []) (m9 [] []) [] c ⟨⟨args.length+(fn.ntmps-args.length),(Tr.full 12).fill 0 (args.map λv=>.one (pL v))⟩,[],0⟩ q with|some (e,s,ps,[])=>(match e with|.ex _=>none|_=>match qa Tryz.prog s fn.results.toList with|some [⟨true,[a,b,c,d]⟩]=>(match b with|.sl b n z=>if z=3 then (mb s.m b).map λm=>((a,c,d,n,m.l),ps) else none|.v (.slice none 0 0)=>some ((a,c,d,0,[]),ps)|_=>none)|_=>none)|_=>none
def E8(V W:World)(r:Nat->Nat)(k n:Nat)(l:List It)(x:Value):Prop:=(x=.slice none 0 0/\n=0)\/∃g c T,∃xs:List Value,x=.slice (some ⟨g,0,none⟩) n c/\W.heap[g]? = some (.cells xs.toArray T)/\n<=c/\c<=maxLen/\c*3=xs.length/\fS V W r k l xs
theorem a5q{f:FuncId}{args:List V1}{a c d:It}{n:Nat}{l:List It}(q:List Bool)(pf:List Pf)(h:runT f args q=some ((a,c,d,n,l),pf.map Pf.p)){W:World}{vals:List Value}(hv:aV W W (λ_=>0) 0 args vals) :
  Calls Tryz.prog f vals.toArray W λe w'=>∃r k y0 x y1 y2,e=.returned (.agg (y0++([x]++(y1++y2))).toArray)/\ac W w'/\af W w' r k a y0/\E8 W w' r k n l x/\af W w' r k c y1/\af W w' r k d y2:=by
 have hp:=ku pf;generalize pf.map Pf.p=ps at h hp;unfold runT at h;split at h
 ·cases h
 ·rename_i fn hf;split at h
  ·cases h
  ·rename_i cc hc;split at h
   ·rename_i e s ps1 hcode;split at h
    ·cases h
    ·rename_i hex;split at h
     ·rename_i a' b' c' d' hl;refine calls_of_wp hf hc ?_;have hps:aw ps1:=by
       split at h
       ·split at h
        ·rename_i b n' z hz;cases hm:mb s.m b with|none=>rw[hm] at h;cases h|some m=>rw[hm] at h;simp only[Option.map_some,Option.some.injEq,Prod.mk.injEq] at h;rw[h.2];exact hp
        ·cases h
       ·simp only[Option.some.injEq,Prod.mk.injEq] at h;rw[h.2];exact hp
       ·cases h
      refine kt (od [] []) eO.nil hcode hps ⟨_,_,Ej hv⟩ λa'' W' hJ=>?_
      obtain⟨r',cm',hJ⟩:=hJ;obtain⟨xs,h1,h2⟩:=AH hJ hl;obtain⟨x,ys,rfl,⟨cs,hr,ev,hone⟩,h4⟩:=h1;cases h4;have hrun:(results fn a''.tmps).run Tryz.prog W'=.ok x W':=by
       rw[D2,Sem.run_bind,Array.mapM_eq_mapM_toList,Sem.run_map,h2];rfl
      obtain⟨y0,_,rfl,k0,y1,_,rfl,k1,y2,_,rfl,k2,y3,_,rfl,k3,rfl⟩:=hr;have post:a''.defers=[]/\∃v,(results fn a''.tmps).run Tryz.prog W'=.ok v W'/\∃r k y0 x y1 y2,Ending.returned v=.returned (.agg (y0++([x]++(y1++y2))).toArray)/\ac W W'/\af W W' r k a y0/\E8 W W' r k n l x/\af W W' r k c y1/\af W W' r k d y2:=by
       refine⟨hJ.1.2,x,hrun,r',s.m.length,y0,?_⟩;split at h
       ·split at h
        ·rename_i b n' z hz;subst hz;cases hm:mb s.m b with|none=>rw[hm] at h;cases h|some m =>
          rw[hm] at h;simp only[Option.map_some,Option.some.injEq,Prod.mk.injEq] at h;obtain⟨⟨rfl,rfl,rfl,rfl,rfl⟩,_⟩:=h;obtain⟨hb,c,ys,T,rfl,q2,q3,q4,q5⟩:=k1;obtain⟨m1,m2⟩:=hJ.1.1.blk b m hm;rw[q2] at m1;simp only[Option.some.injEq,Obj.cells.injEq] at m1;obtain⟨rfl,_⟩:=m1;exact⟨_,y2,y3,by rw[ev];simp[dj],hJ.1.1.ext,k0,.inr ⟨r' b,c,T,cm' b,rfl,q2,q4,q5,by simpa using q3,m2⟩,k2,k3⟩
        ·cases h
       ·simp only [Option.some.injEq, Prod.mk.injEq] at h;obtain⟨⟨rfl,rfl,rfl,rfl,rfl⟩,_⟩:=h;obtain⟨rfl,_⟩:=k1;exact⟨_,y2,y3,by rw[ev];simp[dj],hJ.1.1.ext,k0,.inl ⟨rfl,rfl⟩,k2,k3⟩
       ·cases h
      cases e with|nm=>exact post|rt=>exact post|ex k=>exact absurd rfl (hex k)
     ·cases h
   ·cases h
def Eb(f:Nat->List It):Nat->Nat->List It
 | _,0=>[]|a,m+1=>f a++Eb f (a+1) m
section
variable {V W:World} {r:Nat->Nat} {k:Nat}
theorem RR:∀ {l m:List It} {cs:List Value},aA V W r k (l++m) cs->∃c d,cs=c++d/\aA V W r k l c/\aA V W r k m d
 | [],_,cs,h=>⟨[],cs,rfl,rfl,h⟩|i::l,m,_,⟨c,d,e,h1,h2⟩=>by
  obtain⟨c2,d2,rfl,h3,h4⟩:=RR (l:=l) h2;exact⟨c++c2,d2,by rw[e,List.append_assoc],⟨c,c2,rfl,h1,h3⟩,h4⟩
theorem TC{f:Nat->List It}(hf:∀i,((f i).map It.n).sum=3):∀ {m a:Nat} {cs:List Value},aA V W r k (Eb f a m) cs->cs.length=m*3/\∀i,i<m->∃c d,cs.drop (i*3)=c++d/\aA V W r k (f (a+i)) c
 | 0,_,_,h=>by cases h;exact⟨rfl,λi hi=>absurd hi (Nat.not_lt_zero i)⟩|m+1,a,_,h=>by
  obtain⟨c,d,rfl,h1,h2⟩:=RR (l:=f a) h;have hl:=h1.cells.1;rw[hf] at hl;obtain⟨k1,k2⟩:=TC hf h2;refine⟨by rw[List.length_append,hl,k1,Nat.succ_mul];omega,λi hi=>?_⟩;cases i with|zero=>exact⟨c,d,by simp,h1⟩|succ i =>
   obtain⟨c2,d2,e,h3⟩:=k2 i (by omega);refine⟨c2,d2,?_,by rw[show a+(i+1)=a+1+i by omega];exact h3⟩;rw[List.drop_append,List.drop_eq_nil_of_le (by omega),hl,show (i+1)*3-3=i*3 by omega,List.nil_append,e]
end
def Ge(s:Sh):Sh:={ s with n:=vU s.n }
theorem JX{V W:World}{r:Nat->Nat}{k z n:Nat}{f:Nat->List It}{cs:List Value}(hx:ac V W)(h:af V W r k (.ro z n f) cs):af W W (λ_=>0) 0 (.ro z n f) cs:=by
 obtain⟨v,e,h⟩:=h;exact⟨v,e,h.imp hx λl cs h=>h.ext hx⟩
theorem Yg{V W:World}{r:Nat->Nat}{k:Nat}{s:Sh}{cs:List Value}(hx:ac V W)(h:aA V W r k (shOs (Ge s)) cs):aE W (shOs (F9 s)) cs:=by
 obtain⟨_,_,rfl,h1,_,_,rfl,h2,_,_,rfl,h3,rfl⟩:=h;obtain⟨v,rfl,g2⟩:=JX hx h2;have g3:fU (aE W) W 7 (vU s.n) (λi=>cV (s.e i)) v:=g2;rw[Qc] at g3;exact⟨_,_,rfl,h1,[v],_,rfl,⟨v,rfl,JY g3⟩,_,[],rfl,h3,rfl⟩
theorem a6U{V W:World}{r:Nat->Nat}{k n:Nat}{t:Nat->Sh}{x:Value}(hx:ac V W)(h:E8 V W r k n (Eb (λi=>shOs (Ge (t i))) 0 n) x):fU (aE W) W 3 n (λi=>shOs (F9 (t i))) x:=by
 rcases h with⟨rfl,rfl⟩|⟨g,c,T,xs,rfl,h1,h2,h3,h4,cc,dd,rfl,h5,_⟩
 ·exact⟨none,0,rfl,Nat.le_refl _,Nat.zero_le _,λi hi=>absurd hi (Nat.not_lt_zero _)⟩
 ·obtain ⟨l1, l2⟩ := TC (λ_ => rfl) h5;refine⟨_,c,rfl,h2,h3,λi hi=>?_⟩;obtain⟨c2,d2,e,h6⟩:=l2 i hi;rw[Nat.zero_add] at h6;refine⟨g,0,_,(T,(0,0)),rfl,h1,?_,c2,d2++dd,?_,Yg hx h6⟩
  ·simp only[List.size_toArray];omega
  ·rw[Nat.zero_add,List.drop_append_of_le_length (by omega),e,List.append_assoc]
theorem vp(p:Pnl){n:Nat}(hn:n=min p.nt 4){q:List Bool}{pf:List Pf}(h:runT BS [panV p] q=some ((.ro 4 (vU p.nc) λi=>aX (p.c i),.ro 2 (vU p.nm) λi=>ptI (p.m i),.i p.r lim,n,Eb (λi=>shOs (Ge (p.t i))) 0 n),pf.map Pf.p)){W:World}{v:Value}(hv:au W W (λ_=>0) 0 (panV p) v) :
  Calls Tryz.prog BS #[v] W λe w'=>∃x,e=.returned x/\ac W w'/\au w' w' (λ_=>0) 0 (panV (rK p)) x:=by
 refine (a5q q pf h (aK.2 ⟨v,hv,[],rfl,rfl⟩)).mono ?_;rintro e W' ⟨r,k,y0,x,y1,y2,rfl,hx,h0,h1,h2,h3⟩;have h0:=JX hx h0;have h2:=JX hx h2;rw[Qc] at h0 h2;have h1:=a6U hx h1;rw[hn] at h1;exact⟨_,rfl,hx,_,⟨y0,_,rfl,h0,[x],_,rfl,⟨x,rfl,h1⟩,y1,_,rfl,h2,y2,[],(List.append_nil _).symm,h3,rfl⟩,rfl,nofun⟩
def wE(p:Pnl):List Pf:=[pP (show 0<=min (p.nc:Int) 4/\min (p.nc:Int) 4<=(p.nc:Int) by omega),pP (show 0<=min (p.nm:Int) 4/\min (p.nm:Int) 4<=(p.nm:Int) by omega)]
def kZ(p:Pnl)(i:Nat)(h:i<p.nt):List Pf:=[pT (aZ (show (i:Int)<(p.nt:Int) by omega)),pP (show 0<=(i:Int)/\(i:Int)<(p.nt:Int) by omega),pP (show 0<=min ((p.t i).n:Int) 4/\min ((p.t i).n:Int) 4<=((p.t i).n:Int) by omega)]
def zu(p:Pnl)(i:Nat)(h:¬i<p.nt):List Pf:=[pF (ce (show ¬(i:Int)<(p.nt:Int) by omega))]
def qCt(p:Pnl)(h:4<p.nt):List Pf:=[pT (aZ (show ((4:Nat):Int)<(p.nt:Int) by omega))]
theorem Yf(p:Pnl){W:World}{v:Value}(hv:au W W (λ_=>0) 0 (panV p) v) :
  Calls Tryz.prog BS #[v] W λe w'=>∃x,e=.returned x/\ac W w'/\au w' w' (λ_=>0) 0 (panV (rK p)) x:=by
 by_cases h0:0<p.nt
 ·by_cases h1 : 1 < p.nt
  ·by_cases h2 : 2 < p.nt
   ·by_cases h3 : 3 < p.nt
    ·by_cases h4 : 4 < p.nt
     ·exact vp p (n:=4) (by omega) (q:=[true,true,true,true,true]) (pf:=wE p++kZ p 0 h0++kZ p 1 h1++kZ p 2 h2++kZ p 3 h3++qCt p h4) (by kernel_rfl) hv
     ·exact vp p (n:=4) (by omega) (q:=[true,true,true,true,false]) (pf:=wE p++kZ p 0 h0++kZ p 1 h1++kZ p 2 h2++kZ p 3 h3++zu p 4 h4) (by kernel_rfl) hv
    ·exact vp p (n:=3) (by omega) (q:=[true,true,true,false]) (pf:=wE p++kZ p 0 h0++kZ p 1 h1++kZ p 2 h2++zu p 3 h3) (by kernel_rfl) hv
   ·exact vp p (n:=2) (by omega) (q:=[true,true,false]) (pf:=wE p++kZ p 0 h0++kZ p 1 h1++zu p 2 h2) (by kernel_rfl) hv
  ·exact vp p (n:=1) (by omega) (q:=[true,false]) (pf:=wE p++kZ p 0 h0++zu p 1 h1) (by kernel_rfl) hv
 ·exact vp p (n:=0) (by omega) (q:=[false]) (pf:=wE p++zu p 0 h0) (by kernel_rfl) hv
end Go.Proofs.YtghemgdfmldoeaaGreat.W
