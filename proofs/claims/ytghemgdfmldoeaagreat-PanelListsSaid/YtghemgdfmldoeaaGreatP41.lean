import Derived.Test.YtghemgdfmldoeaaGreatP40
set_option linter.unusedVariables false
set_option linter.unusedSimpArgs false
namespace Go.Proofs.YtghemgdfmldoeaaGreat
open Go.RowKit
set_option maxRecDepth 100000
section
def Yu:ah where
 f:=53;g:=λ| [⟨false,[.i n _]⟩,⟨false,[.i m B]⟩]=>some (.one (aj (am n m) B),[0<m/\m<=4294967296])|_=>none
 ok:=by
  intro args res ps h hp;split at h<;>cases h;rename_i n _ m B;obtain⟨h1,_⟩:=hp;intro W vals hv;obtain⟨v1,h3,_,rfl,hv1⟩:=aK.1 hv;obtain⟨v2,h4,_,rfl,hv2⟩:=aK.1 hv1;cases hv2;obtain rfl:=(dL.1 h3).2;obtain⟨⟨b2,_⟩,rfl⟩:=dL.1 h4;have b:=lK n h1.1;refine (Ro n m W h1).mono λe w' ⟨e1,hx⟩=>⟨_,e1,dL.2 ⟨⟨?_,?_⟩,rfl⟩,hx⟩
  ·omega
  ·unfold I64;omega
theorem YH(x y r:Int):ae Tryz.prog 54 [⟨true,ptI (x,y)⟩,aj r lim] (.one (bf (fB x y r))):=dw [] [] [] [] (by kernel_rfl)
def Yr:ah:=gi tD yi 54 (λp r=>.one (bf (fB p.1 p.2 r))) (λ_ _=>[]) λp r _=>YH p.1 p.2 r
def kH:List ah:=[Yu,Yr,Gi]
def oN(b:Int):Int:=am b 12-3
def oK(p:Pnl)(c:Int):Int:=am c p.nc
def mM(p:Pnl)(i:Nat):bG:=if i<p.nc then p.c i else ⟨2000+1000*((i-p.nc:Nat):Int),0,0,false⟩
def sE(p:Pnl)(x y:Int)(i:Nat):Int×Int:=if i<p.nm then p.m i else (x,y)
def mN(p:Pnl)(i:Nat):Int×Int:=if i<p.nm then p.m i else (10*((i-p.nm:Nat):Int),-40)
def pg(p:Pnl)(s:Sh)(i:Nat):Sh:=if i<p.nt then p.t i else s
def lM(b:Int):Nat:=(4+oN b).toNat
def lN(b:Int):Nat:=(12+oN b).toNat
def qJ(p:Pnl)(a b c:Int):Pnl :=
 if p.nc=0 then p
 else if am a 11=0 then ja p (oK p c).toNat { p.c (oK p c).toNat with m:=true }
 else if am a 11=1 then ja p (oK p c).toNat { p.c (oK p c).toNat with t:=oN b }
 else if am a 11=2 then ja p (oK p c).toNat { p.c (oK p c).toNat with x:=IntKind.i64.wrap ((p.c (oK p c).toNat).x+oN b) }
 else if am a 11=3 then ja p (oK p c).toNat { p.c (oK p c).toNat with x:=IntKind.i64.wrap (67108864+oN b) }
 else if am a 11=4 then { p with nc:=(oK p c).toNat }
 else if am a 11=5 then { p with nc:=p.nc+lM b,c:=mM p }
 else if am a 11=6 then { p with r:=oN b,nm:=p.nm+1,m:=sE p 5 (-12) }
 else if am a 11=7 then { p with nm:=p.nm+1,m:=sE p (5*oN b) (0-oN b) }
 else if am a 11=8 then { p with nt:=p.nt+1,t:=pg p (fB (oN b) 0 (oN b)) }
 else if am a 11=9 then { p with nt:=p.nt+1,t:=pg p (jK 0 0 (oN b) 5) }
 else { p with nm:=p.nm+lN b,m:=mN p }
theorem zb(b:Int) : -3<=oN b/\oN b<=8:=by have:=lK b (m:=12) (by omega);unfold oN;omega
theorem v8(p:Pnl)(c:Int)(h:p.nc≠0):0<=oK p c/\oK p c<p.nc:=by have:=lK c (m:=(p.nc:Int)) (by omega);unfold oK;omega
theorem bp{x y:Int}(h:x≠y):(x==y)=false:=by simpa using h
theorem mA{x y:Int}(h:x=y):(x==y)=true:=by simpa using h
def lO(p:Pnl)(a b c:Int):List V1:=[panV p,⟨true,[.i a lim,.i b lim,.i c lim]⟩]
noncomputable def mO(p:Pnl)(a b c:Int):Nat×bO:=(3,⟨nF bZ,QC p a b c,.nm,IM p a b c⟩)
def a3Q(p:Pnl):List Pf:=[jJ (.ro 4 p.nc λi=>aX (p.c i)),jJ (.ro 3 p.nt λi=>bY (p.t i)),jJ (.ro 2 p.nm λi=>ptI (p.m i)),qZ p.r]
def mT(p:Pnl)(a b c:Int):List Pf:=[pR (ak 0),pR (ak 1),pR (ak 2)]++a3Q p++[qZ a,qZ b,qZ c,cw,cw,cw,pP (show (0:Int)<12/\(12:Int)<=4294967296 by decide)]
def nR(p:Pnl)(hp:rA p)(h0:p.nc≠0):List Pf:=[pF (bp (show (p.nc:Int)≠0 by omega)),pP (show (0:Int)<(p.nc:Int)/\(p.nc:Int)<=4294967296 by have:=hp.c;omega),pP (show (0:Int)<11/\(11:Int)<=4294967296 by decide)]
def DI(x:Pnl):List Pf:=[qL aX x.c x.nc x.nc rfl,qL bY x.t x.nt x.nt rfl,qL ptI x.m x.nm x.nm rfl,qZ x.r]
def zy(n k:Int)(x:Pnl):List Pf:=[pR (ak 2),pR (ak 3),qZ n,qZ k,cw,cw,cw]++DI x
section
variable (p:Pnl) (a b c:Int) (hp:rA p)
include hp
theorem a2x(h0:p.nc=0):ae Tryz.prog bZ (lO p a b c) (.one (ff p)) :=
 cD [aJ] kH [mO p a b c] (LT.cons (mP p a b c hp) LT.nil) [true] (mT p a b c++[pT (mA (show (p.nc:Int)=0 by omega))]) (by kernel_rfl)
variable (h0:p.nc≠0)
include h0
theorem a2k(h:am a 11=0):ae Tryz.prog bZ (lO p a b c) (.one (ff (ja p (oK p c).toNat { p.c (oK p c).toNat with m:=true }))) :=
 cD [aJ] kH [mO p a b c,(17,⟨nF bZ,nO (oN b) (oK p c) p,.nm,iI (ja p (oK p c).toNat { p.c (oK p c).toNat with m:=true })⟩)] (LT.cons (mP p a b c hp) (LT.cons (a2j (oN b) (oK p c) p (v8 p c h0)) LT.nil)) [false,true] (mT p a b c++nR p hp h0++[pT (mA h)]++zy (oN b) (oK p c) p) (by kernel_rfl)
theorem a2l(h:am a 11=1):ae Tryz.prog bZ (lO p a b c) (.one (ff (ja p (oK p c).toNat { p.c (oK p c).toNat with t:=oN b }))) :=
 cD [aJ] kH [mO p a b c,(21,⟨nF bZ,nO (oN b) (oK p c) p,.nm,iI (ja p (oK p c).toNat { p.c (oK p c).toNat with t:=oN b })⟩)] (LT.cons (mP p a b c hp) (LT.cons (a2f (oN b) (oK p c) p (v8 p c h0)) LT.nil)) [false,false,true] (mT p a b c++nR p hp h0++[pF (bp (show am a 11≠0 by omega)),pT (mA h)]++zy (oN b) (oK p c) p) (by kernel_rfl)
theorem a2n(h:am a 11=2):ae Tryz.prog bZ (lO p a b c) (.one (ff (ja p (oK p c).toNat { p.c (oK p c).toNat with x:=IntKind.i64.wrap ((p.c (oK p c).toNat).x+oN b) }))) :=
 cD [aJ] kH [mO p a b c,(25,⟨nF bZ,nO (oN b) (oK p c) p,.nm,iI (ja p (oK p c).toNat { p.c (oK p c).toNat with x:=IntKind.i64.wrap ((p.c (oK p c).toNat).x+oN b) })⟩)] (LT.cons (mP p a b c hp) (LT.cons (a2g (oN b) (oK p c) p (v8 p c h0)) LT.nil)) [false,false,false,true] (mT p a b c++nR p hp h0++[pF (bp (show am a 11≠0 by omega)),pF (bp (show am a 11≠1 by omega)),pT (mA h)]++zy (oN b) (oK p c) p) (by kernel_rfl)
theorem a2o(h:am a 11=3):ae Tryz.prog bZ (lO p a b c) (.one (ff (ja p (oK p c).toNat { p.c (oK p c).toNat with x:=IntKind.i64.wrap (67108864+oN b) }))) :=
 cD [aJ] kH [mO p a b c,(29,⟨nF bZ,nO (oN b) (oK p c) p,.nm,iI (ja p (oK p c).toNat { p.c (oK p c).toNat with x:=IntKind.i64.wrap (67108864+oN b) })⟩)] (LT.cons (mP p a b c hp) (LT.cons (a2h (oN b) (oK p c) p (v8 p c h0)) LT.nil)) [false,false,false,false,true] (mT p a b c++nR p hp h0++[pF (bp (show am a 11≠0 by omega)),pF (bp (show am a 11≠1 by omega)),pF (bp (show am a 11≠2 by omega)),pT (mA h)]++zy (oN b) (oK p c) p) (by kernel_rfl)
theorem a2p(h:am a 11=4):ae Tryz.prog bZ (lO p a b c) (.one (ff ({ p with nc:=(oK p c).toNat }))) :=
 cD [aJ] kH [mO p a b c,(33,⟨nF bZ,nO (oN b) (oK p c) p,.nm,iI ({ p with nc:=(oK p c).toNat })⟩)] (LT.cons (mP p a b c hp) (LT.cons (a2i (oN b) (oK p c) p (v8 p c h0)) LT.nil)) [false,false,false,false,false,true] (mT p a b c++nR p hp h0++[pF (bp (show am a 11≠0 by omega)),pF (bp (show am a 11≠1 by omega)),pF (bp (show am a 11≠2 by omega)),pF (bp (show am a 11≠3 by omega)),pT (mA h)]++zy (oN b) (oK p c) p) (by kernel_rfl)
theorem a2r(h:am a 11=6):ae Tryz.prog bZ (lO p a b c) (.one ⟨true,[mK p.nc p.c,Kx p.nt p.t,.ol 24 2 (p.nm+1) (iw p.nm (λi=>ptI (p.m i)) λi=>([[It.k 5,.k (-12)]].getD i []).map dB),.i (oN b) lim]⟩) :=
 cD [aJ] kH [mO p a b c] (LT.cons (mP p a b c hp) LT.nil) [false,false,false,false,false,false,false,true] (mT p a b c++nR p hp h0++[pF (bp (show am a 11≠0 by omega)),pF (bp (show am a 11≠1 by omega)),pF (bp (show am a 11≠2 by omega)),pF (bp (show am a 11≠3 by omega)),pF (bp (show am a 11≠4 by omega)),pF (bp (show am a 11≠5 by omega)),pT (mA h),pP (show p.nm+1<=1000 by have:=hp.m;omega),pP (Nat.le_refl p.nm)]) (by kernel_rfl)
theorem a2s(h:am a 11=7):ae Tryz.prog bZ (lO p a b c) (.one ⟨true,[mK p.nc p.c,Kx p.nt p.t,.ol 24 2 (p.nm+1) (iw p.nm (λi=>ptI (p.m i)) λi=>([[It.i (5*oN b) 75,.i (0-oN b) 15]].getD i []).map dB),.i p.r lim]⟩) :=
 cD [aJ] kH [mO p a b c] (LT.cons (mP p a b c hp) LT.nil) [false,false,false,false,false,false,false,false,true] (mT p a b c++nR p hp h0++[pF (bp (show am a 11≠0 by omega)),pF (bp (show am a 11≠1 by omega)),pF (bp (show am a 11≠2 by omega)),pF (bp (show am a 11≠3 by omega)),pF (bp (show am a 11≠4 by omega)),pF (bp (show am a 11≠5 by omega)),pF (bp (show am a 11≠6 by omega)),pT (mA h),pP (show p.nm+1<=1000 by have:=hp.m;omega),pP (Nat.le_refl p.nm)]) (by kernel_rfl)
theorem a2t(h:am a 11=8):ae Tryz.prog bZ (lO p a b c) (.one ⟨true,[mK p.nc p.c,.ol 30 3 (p.nt+1) (iw p.nt (λi=>bY (p.t i)) λi=>([(bf (fB (oN b) 0 (oN b))).l].getD i []).map dB),wC p.nm p.m,.i p.r lim]⟩) :=
 cD [aJ] kH [mO p a b c] (LT.cons (mP p a b c hp) LT.nil) [false,false,false,false,false,false,false,false,false,true] (mT p a b c++nR p hp h0++[pF (bp (show am a 11≠0 by omega)),pF (bp (show am a 11≠1 by omega)),pF (bp (show am a 11≠2 by omega)),pF (bp (show am a 11≠3 by omega)),pF (bp (show am a 11≠4 by omega)),pF (bp (show am a 11≠5 by omega)),pF (bp (show am a 11≠6 by omega)),pF (bp (show am a 11≠7 by omega)),pT (mA h),pP (show p.nt+1<=1000 by have:=hp.t;omega),pP (Nat.le_refl p.nt)]) (by kernel_rfl)
theorem a2u(h:am a 11=9):ae Tryz.prog bZ (lO p a b c) (.one ⟨true,[mK p.nc p.c,.ol 30 3 (p.nt+1) (iw p.nt (λi=>bY (p.t i)) λi=>([(bf (jK 0 0 (oN b) 5)).l].getD i []).map dB),wC p.nm p.m,.i p.r lim]⟩) :=
 cD [aJ] kH [mO p a b c] (LT.cons (mP p a b c hp) LT.nil) [false,false,false,false,false,false,false,false,false,false,true] (mT p a b c++nR p hp h0++[pF (bp (show am a 11≠0 by omega)),pF (bp (show am a 11≠1 by omega)),pF (bp (show am a 11≠2 by omega)),pF (bp (show am a 11≠3 by omega)),pF (bp (show am a 11≠4 by omega)),pF (bp (show am a 11≠5 by omega)),pF (bp (show am a 11≠6 by omega)),pF (bp (show am a 11≠7 by omega)),pF (bp (show am a 11≠8 by omega)),pT (mA h),pP (show p.nt+1<=1000 by have:=hp.t;omega),pP (Nat.le_refl p.nt)]) (by kernel_rfl)
end
def IK(p:Pnl)(b:Int)(j:Nat):Ds:=⟨[(4,.eq (ak 2)),(5,.eq (ak 3)),(6,.le (aj (oN b) 15)),(8,.le (aj (j:Int) 2000))],uu { p with nc:=p.nc+j,c:=mM p }⟩
def IL(p:Pnl)(b:Int)(j:Nat):Ds:=⟨[(4,.eq (ak 2)),(5,.eq (ak 3)),(6,.le (aj (oN b) 15)),(9,.le (aj (j:Int) 2000))],uu { p with nm:=p.nm+j,m:=mN p }⟩
theorem a2b(p:Pnl)(j:Nat):mM p (p.nc+j)=⟨2000+1000*(j:Int),0,0,false⟩:=by
 unfold mM;rw[if_neg (by omega),Nat.add_sub_cancel_left]
theorem a2d(p:Pnl)(j:Nat):mN p (p.nm+j)=(10*(j:Int),-40):=by
 unfold mN;rw[if_neg (by omega),Nat.add_sub_cancel_left]
def DD(b:Int):List Pf:=[pR (ak 2),pR (ak 3),qZ (oN b)]
def wG:List Pf:=[cw,cw,cw]
theorem a2a(p:Pnl)(b:Int)(hp:rA p):bJ Tryz.prog (bm bZ 38) ⟨nF bZ,IK p b 0,.ex 1,iI { p with nc:=p.nc+lM b,c:=mM p }⟩ :=
 bW (X:=[aJ]) (K:=kH) (f:=bZ) (id:=38) (n:=nF bZ) (lM b) (IK p b) (λ_=>[]) (e:=.ex 1) (d1:=iI { p with nc:=p.nc+lM b,c:=mM p }) (by kernel_rfl) (λ_=>by kernel_rfl) (λ_ _=>LT.nil)
  (λj hj => by
   have hn:=zb b;unfold lM at hj;have hc:=hp.c;exact⟨[true],[pT (aZ (show (j:Int)<4+oN b by omega)),pP (show p.nc+j+1<=1000 by omega),pP (Nat.le_refl (p.nc+j))]++DD b++[pI j (by omega)]++wG++[qA aX (mM p) (p.nc+j) (p.nc+(j+1)) [.i (2000+1000*(j:Int)) 2002000,.k 0,.k 0,.b false] rfl (by rw[a2b];rfl),qL bY p.t p.nt p.nt rfl,qL ptI p.m p.nm p.nm rfl,qZ p.r],by kernel_rfl⟩)
  (by
   have hn:=zb b;exact⟨[false],[pF (ce (show ¬((lM b:Nat):Int)<4+oN b by unfold lM;omega)),pR (ak 2),pR (ak 3)]++wG++DI { p with nc:=p.nc+lM b,c:=mM p },by kernel_rfl⟩) nofun
theorem a2c(p:Pnl)(b:Int)(hp:rA p):bJ Tryz.prog (bm bZ 66) ⟨nF bZ,IL p b 0,.ex 3,iI { p with nm:=p.nm+lN b,m:=mN p }⟩ :=
 bW (X:=[aJ]) (K:=kH) (f:=bZ) (id:=66) (n:=nF bZ) (lN b) (IL p b) (λ_=>[]) (e:=.ex 3) (d1:=iI { p with nm:=p.nm+lN b,m:=mN p }) (by kernel_rfl) (λ_=>by kernel_rfl) (λ_ _=>LT.nil)
  (λj hj => by
   have hn:=zb b;unfold lN at hj;have hc:=hp.m;exact⟨[true],[pT (aZ (show (j:Int)<12+oN b by omega)),pP (show p.nm+j+1<=1000 by omega),pP (Nat.le_refl (p.nm+j))]++DD b++[pI j (by omega)]++wG++[qL aX p.c p.nc p.nc rfl,qL bY p.t p.nt p.nt rfl,qA ptI (mN p) (p.nm+j) (p.nm+(j+1)) [.i (10*(j:Int)) 20000,.k (-40)] rfl (by rw[a2d];rfl),qZ p.r],by kernel_rfl⟩)
  (by
   have hn:=zb b;exact⟨[false],[pF (ce (show ¬((lN b:Nat):Int)<12+oN b by unfold lN;omega)),pR (ak 2),pR (ak 3)]++wG++DI { p with nm:=p.nm+lN b,m:=mN p },by kernel_rfl⟩) nofun
section
variable (p:Pnl) (a b c:Int) (hp:rA p) (h0:p.nc≠0)
include hp h0
theorem a2q(h:am a 11=5):ae Tryz.prog bZ (lO p a b c) (.one (ff { p with nc:=p.nc+lM b,c:=mM p })) :=
 cD [aJ] kH [mO p a b c,(38,⟨nF bZ,IK p b 0,.ex 1,iI { p with nc:=p.nc+lM b,c:=mM p }⟩)] (LT.cons (mP p a b c hp) (LT.cons (a2a p b hp) LT.nil)) [false,false,false,false,false,false,true] (mT p a b c++nR p hp h0++[pF (bp (show am a 11≠0 by omega)),pF (bp (show am a 11≠1 by omega)),pF (bp (show am a 11≠2 by omega)),pF (bp (show am a 11≠3 by omega)),pF (bp (show am a 11≠4 by omega)),pT (mA h)]++DD b++[q0]++wG++[⟨p.nc=p.nc+0/\∀i,i<p.nc->aX (p.c i)=aX (mM p i),rfl,λi hi=>by unfold mM;rw[if_pos hi]⟩,qL bY p.t p.nt p.nt rfl,qL ptI p.m p.nm p.nm rfl,qZ p.r]) (by kernel_rfl)
theorem a2m(h:am a 11=10):ae Tryz.prog bZ (lO p a b c) (.one (ff { p with nm:=p.nm+lN b,m:=mN p })) :=
 cD [aJ] kH [mO p a b c,(66,⟨nF bZ,IL p b 0,.ex 3,iI { p with nm:=p.nm+lN b,m:=mN p }⟩)] (LT.cons (mP p a b c hp) (LT.cons (a2c p b hp) LT.nil)) [false,false,false,false,false,false,false,false,false,false,false,true] (mT p a b c++nR p hp h0++[pF (bp (show am a 11≠0 by omega)),pF (bp (show am a 11≠1 by omega)),pF (bp (show am a 11≠2 by omega)),pF (bp (show am a 11≠3 by omega)),pF (bp (show am a 11≠4 by omega)),pF (bp (show am a 11≠5 by omega)),pF (bp (show am a 11≠6 by omega)),pF (bp (show am a 11≠7 by omega)),pF (bp (show am a 11≠8 by omega)),pF (bp (show am a 11≠9 by omega)),pT (mA h)]++DD b++[q0]++wG++[qL aX p.c p.nc p.nc rfl,qL bY p.t p.nt p.nt rfl,⟨p.nm=p.nm+0/\∀i,i<p.nm->ptI (p.m i)=ptI (mN p i),rfl,λi hi=>by unfold mN;rw[if_pos hi]⟩,qZ p.r]) (by kernel_rfl)
end
theorem AM{α:Type}{I:α->List It}{f g:Nat->α}{n:Nat}{r:List It}(h1:∀i,i<n->f i=g i)(h2:r.map dB=I (g n)):∀i,i<n+1->iw n (λi=>I (f i)) (λi=>([r].getD i []).map dB) i=I (g i):=λi hi=>by
 unfold iw;split
 ·rename_i hi;show I (f i)=I (g i);rw[h1 i hi]
 ·obtain rfl : i = n := by omega
  rw[Nat.sub_self];exact h2
theorem a2w(p:Pnl)(a b c:Int)(hp:rA p):ae Tryz.prog bZ (lO p a b c) (.one (ff (qJ p a b c))):=by
 have ma:=lK a (m:=11) (by omega);unfold qJ;by_cases h0:p.nc=0
 ·rw [if_pos h0];exact a2x p a b c hp h0
 rw[if_neg h0];by_cases h1:am a 11=0
 ·rw [if_pos h1];exact a2k p a b c hp h0 h1
 rw[if_neg h1];by_cases h2:am a 11=1
 ·rw [if_pos h2];exact a2l p a b c hp h0 h2
 rw[if_neg h2];by_cases h3:am a 11=2
 ·rw [if_pos h3];exact a2n p a b c hp h0 h3
 rw[if_neg h3];by_cases h4:am a 11=3
 ·rw [if_pos h4];exact a2o p a b c hp h0 h4
 rw[if_neg h4];by_cases h5:am a 11=4
 ·rw [if_pos h5];exact a2p p a b c hp h0 h5
 rw[if_neg h5];by_cases h6:am a 11=5
 ·rw [if_pos h6];exact a2q p a b c hp h0 h6
 rw[if_neg h6];by_cases h7:am a 11=6
 ·rw [if_pos h7];refine (a2r p a b c hp h0 h7).mono λV W x hr=>?_
  obtain⟨cs,⟨c1,_,e1,h1,c2,_,e2,h2,c3,_,e3,⟨v,e4,h3⟩,h4⟩,h5⟩:=hr;exact⟨cs,⟨c1,_,e1,h1,c2,_,e2,h2,c3,_,e3,⟨v,e4,qK (λi hi ds hd=>by rw[<- AM (I:=ptI) (f:=p.m) (g:=sE p 5 (-12)) (r:=[.k 5,.k (-12)]) (λi hi=>by unfold sE;rw[if_pos hi]) (by unfold sE;rw[if_neg (by omega)];rfl) i hi];exact hd) h3⟩,h4⟩,h5⟩
 rw[if_neg h7];by_cases h8:am a 11=7
 ·rw [if_pos h8];refine (a2s p a b c hp h0 h8).mono λV W x hr=>?_
  obtain⟨cs,⟨c1,_,e1,h1,c2,_,e2,h2,c3,_,e3,⟨v,e4,h3⟩,h4⟩,h5⟩:=hr;exact⟨cs,⟨c1,_,e1,h1,c2,_,e2,h2,c3,_,e3,⟨v,e4,qK (λi hi ds hd=>by rw[<- AM (I:=ptI) (f:=p.m) (g:=sE p (5*oN b) (0-oN b)) (r:=[.i (5*oN b) 75,.i (0-oN b) 15]) (λi hi=>by unfold sE;rw[if_pos hi]) (by unfold sE;rw[if_neg (by omega)];rfl) i hi];exact hd) h3⟩,h4⟩,h5⟩
 rw[if_neg h8];by_cases h9:am a 11=8
 ·rw [if_pos h9];refine (a2t p a b c hp h0 h9).mono λV W x hr=>?_
  obtain⟨cs,⟨c1,_,e1,h1,c2,_,e2,⟨v,e4,h3⟩,h4⟩,h5⟩:=hr;exact⟨cs,⟨c1,_,e1,h1,c2,_,e2,⟨v,e4,qK (λi hi ds hd=>by rw[<- AM (I:=bY) (f:=p.t) (g:=pg p (fB (oN b) 0 (oN b))) (r:=(bf (fB (oN b) 0 (oN b))).l) (λi hi=>by unfold pg;rw[if_pos hi]) (by unfold pg;rw[if_neg (by omega)];rfl) i hi];exact hd) h3⟩,h4⟩,h5⟩
 rw[if_neg h9];by_cases h10:am a 11=9
 ·rw [if_pos h10];refine (a2u p a b c hp h0 h10).mono λV W x hr=>?_
  obtain⟨cs,⟨c1,_,e1,h1,c2,_,e2,⟨v,e4,h3⟩,h4⟩,h5⟩:=hr;exact⟨cs,⟨c1,_,e1,h1,c2,_,e2,⟨v,e4,qK (λi hi ds hd=>by rw[<- AM (I:=bY) (f:=p.t) (g:=pg p (jK 0 0 (oN b) 5)) (r:=(bf (jK 0 0 (oN b) 5)).l) (λi hi=>by unfold pg;rw[if_pos hi]) (by unfold pg;rw[if_neg (by omega)];rfl) i hi];exact hd) h3⟩,h4⟩,h5⟩
 rw[if_neg h10];exact a2m p a b c hp h0 (by omega)
end
end Go.Proofs.YtghemgdfmldoeaaGreat
set_option maxRecDepth 100000
namespace Go.Proofs.YtghemgdfmldoeaaGreat.W
open Go.RowKit
def fL:FuncId:=4
def q3(c:Cs)(w:Pnl)(k:Nat):Pnl:=if k=0 then eH c else if k=1 then qJ (eH c) c.a c.b c.c else rK w
theorem Jn(c:Cs):pS (eH c):=⟨by have:=(Dq c.p).2.1;show fF c.p<=40;omega,by have:=(Du c.p).1;show fo c.p<=10;omega,by have:=(Dt c.p).1;show iK c.p<=60;omega,λj hj=>show 1<=4 by decide⟩
theorem a3E(c:Cs):rA (eH c):=by
 have h:=Jn c;exact⟨by have:=h.c;omega,by have:=h.t;omega,by have:=h.m;omega⟩
structure Vb (p:Pnl):Prop where
 c:p.nc<=20
 t:p.nt<=9
 m:p.nm<=30
 e:∀j,j<p.nt->(p.t j).n<=4
theorem a2v{p:Pnl}(h:Vb p)(a b c:Int):pS (qJ p a b c):=by
 have n:=zb b;obtain⟨h1,h2,h3,h4⟩:=h;have z:pS p:=⟨by omega,by omega,by omega,h4⟩;have l5:lM b<=12:=by unfold lM;omega
 have lm:lN b<=20:=by unfold lN;omega
 unfold qJ;by_cases h0:p.nc=0
 ·rw[if_pos h0];exact z
 have kb:=v8 p c h0;rw[if_neg h0];by_cases g:am a 11=0
 ·rw[if_pos g];exact⟨z.c,z.t,z.m,z.e⟩
 rw[if_neg g];clear g;by_cases g:am a 11=1
 ·rw[if_pos g];exact⟨z.c,z.t,z.m,z.e⟩
 rw[if_neg g];clear g;by_cases g:am a 11=2
 ·rw[if_pos g];exact⟨z.c,z.t,z.m,z.e⟩
 rw[if_neg g];clear g;by_cases g:am a 11=3
 ·rw[if_pos g];exact⟨z.c,z.t,z.m,z.e⟩
 rw[if_neg g];clear g;by_cases g:am a 11=4
 ·rw[if_pos g];exact⟨by show (oK p c).toNat<=40;omega,z.t,z.m,z.e⟩
 rw[if_neg g];clear g;by_cases g:am a 11=5
 ·rw[if_pos g];exact⟨by show p.nc+lM b<=40;omega,z.t,z.m,z.e⟩
 rw[if_neg g];clear g;by_cases g:am a 11=6
 ·rw[if_pos g];exact⟨z.c,z.t,by show p.nm+1<=60;omega,z.e⟩
 rw[if_neg g];clear g;by_cases g:am a 11=7
 ·rw[if_pos g];exact⟨z.c,z.t,by show p.nm+1<=60;omega,z.e⟩
 rw[if_neg g];clear g;have t1:∀s:Sh,s.n<=4->∀j,j<p.nt+1->(pg p s j).n<=4:=λs hs j hj=>by
  unfold pg;split
  ·exact h4 j (by assumption)
  ·exact hs
 by_cases g:am a 11=8
 ·rw[if_pos g];exact⟨z.c,by show p.nt+1<=10;omega,z.m,t1 _ (show 1<=4 by decide)⟩
 rw[if_neg g];clear g;by_cases g:am a 11=9
 ·rw[if_pos g];exact⟨z.c,by show p.nt+1<=10;omega,z.m,t1 _ (show 4<=4 by decide)⟩
 rw[if_neg g];exact⟨z.c,z.t,by show p.nm+lN b<=60;omega,z.e⟩
theorem Rk(c:Cs)(w:Pnl)(k:Nat):pS (q3 c w k):=by
 unfold q3;by_cases h:k=0
 ·rw[if_pos h];exact Jn c
 rw[if_neg h];by_cases h:k=1
 ·rw [if_pos h];refine a2v ⟨?_,?_,?_,(Jn c).e⟩ _ _ _
  ·have:=(Dq c.p).2.1;show fF c.p<=20;omega
  ·have:=(Du c.p).1;show fo c.p<=9;omega
  ·have:=(Dt c.p).1;show iK c.p<=30;omega
 rw[if_neg h];exact⟨by show min w.nc 4<=40;omega,by show min w.nt 4<=10;omega,by show min w.nm 4<=60;omega,λj _=>by show min (w.t j).n 4<=4;omega⟩
def M6:ah where
 f:=26;g:=λ| []=>some (.one ⟨true,[.ol 74 4 1 zX,g8,g8,.i 0 lim]⟩,[])|_=>none
 ok:=by
  intro args res ps h hp;split at h<;>cases h;exact a5g
def ox:List ah:=[WJ,Wt,V6,Wq,FH,Yx,NV,FI,Yy,NW,FM,Yz,FR,M6]
section
variable (c:Cs) (w:Pnl) (y:Int)
def Dp:List (Nat×Rq):=[(2,.le (aj y lim)),(7,.eq (aN true)),(10,.le (cN 4 aS (nD c) (gB c))),(11,.le (cN 6 aY (nS c) (fV c))),(12,.le (cN 6 cS (nS c) (jh c))),(41,.le ⟨false,[.ro 4 3 λk=>lQ (q3 c w k)]⟩),(42,.le (aj 3 lim))]
def qS(k:Nat):Ds:=⟨(43,.le (aj (k:Int) 2000))::Dp c w y,[]⟩
def wu:Ds:=⟨[(7,.eq (aN true))],[]⟩
def gJ(k:Nat):Nat:=(q3 c w k).nc*nS c
def wv(k:Nat):Nat->je:=fl (q3 c w k) (nS c) (jh c)
def Jc(k:Nat):List (Nat×Rq):=(86,.le (aj (gJ c w k:Int) lim))::(17,.le (mS (gJ c w k) (wv c w k)))::(18,.le (mS (gJ c w k) (wv c w k)))::(43,.le (aj (k:Int) 2000))::Dp c w y
def I8(k j:Nat):Ds:=⟨(87,.le (aj (j:Int) 2000))::Jc c w y k,[]⟩
def I9(k:Nat):Ds:=⟨(43,.le (aj (k:Int) 2000))::Dp c w y,[]⟩
def Q4(k j:Nat):Ds:=⟨(19,.le (aj (j:Int) 2000))::(87,.le (aj (j:Int) 2000))::Jc c w y k,[]⟩
def Q5(k j:Nat):Ds:=⟨(98,.eq (aN false))::(87,.le (aj (j:Int) 2000))::Jc c w y k,[]⟩
end
section
variable (c:Cs) (w:Pnl) (y:Int)
def DJ:List Pf:=[qZ y,pR (aN true),jJ (.ro 4 (nD c) λi=>aS (gB c i)),jJ (.ro 6 (nS c) λi=>aY (fV c i)),jJ (.ro 6 (nS c) λi=>cS (jh c i)),jJ (.ro 4 3 λk=>lQ (q3 c w k)),qZ 3]
def DF(k:Nat):List Pf:=[qL cS (wv c w k) (gJ c w k) (gJ c w k) rfl,qL cS (wv c w k) (gJ c w k) (gJ c w k) rfl,qZ k]++DJ c w y
theorem a3j(k j:Nat)(h:j<gJ c w k):bJ Tryz.prog (bm fL 45) ⟨nF fL,Q4 c w y k j,.nm,Q5 c w y k j⟩ :=
 a2S (X:=[]) (K:=ox) [] ([pP (show 0<=(j:Int)/\(j:Int)<(gJ c w k:Int) by omega),pP (show 0<=(j:Int)/\(j:Int)<(gJ c w k:Int) by omega),⟨(⟨false,[.v (.bool (!dk (uH (wv c w k j)) (uH (wv c w k j))))]⟩:V1)=aN false,by rw[Zl];rfl⟩,qZ j,qZ (gJ c w k)]++DF c w y k) (by kernel_rfl)
noncomputable def zk(k j:Nat):List (Nat×bO):=if j<gJ c w k then [(45,⟨nF fL,Q4 c w y k j,.nm,Q5 c w y k j⟩)] else []
theorem a3g(k:Nat)(hN:gJ c w k<=1000):bJ Tryz.prog (bm fL 40) ⟨nF fL,I8 c w y k 0,.ex 4,I9 c w y k⟩ :=
 bW (X:=[]) (K:=ox) (f:=fL) (id:=40) (n:=nF fL) (gJ c w k) (I8 c w y k) (zk c w y k) (e:=.ex 4) (d1:=I9 c w y k) (by kernel_rfl) (λj=>by unfold zk;by_cases h:j<gJ c w k<;>simp only[h,if_true,if_false]<;>kernel_rfl) (λj _=>by
   unfold zk;by_cases hj:j<gJ c w k
   ·rw[if_pos hj];exact LT.cons (a3j c w y k j hj) LT.nil
   ·rw[if_neg hj];exact LT.nil)
  (λj hj => by
   unfold zk;rw[if_pos hj];exact⟨[true,false],[pT (aZ (show (j:Int)<(gJ c w k:Int) by omega)),qZ j,qZ j,qZ (gJ c w k)]++DF c w y k++[⟨false=false,rfl⟩,pI j (by omega),qZ (gJ c w k)]++DF c w y k,by kernel_rfl⟩)
  (by
   unfold zk;rw[if_neg (Nat.lt_irrefl _)];exact⟨[false],[pF (ce (show ¬(gJ c w k:Int)<(gJ c w k:Int) by omega)),qZ k]++DJ c w y,by kernel_rfl⟩) nofun
theorem NJ(i:Nat):(gB c i).s.n<=1000:=by
 have:=(GL (c.d i) i).1.n1;show (iV (c.d i) i).s.n<=1000;omega
theorem Yd(i:Nat):(fV c i).s.n<=1000:=by
 have:=(uj (c.s i)).1.n1;show (bS (c.s i)).n<=1000;omega
theorem YR(p:Pnl)(n i:Nat):(bj p n (gB c) i).s.n<=1000:=by
 unfold bj;split
 ·unfold oM fe;split
  ·exact NJ c _
  ·exact NJ c _
 ·show 1 <= 1000;decide
theorem a0k{p:Pnl}(h:pS p)(i:Nat)(z:Int)(hi:i<p.nc*nS c+p.nt):(bQ p (nS c) (fV c) z i).s.n<=1000:=by
 unfold bQ;split
 ·exact Yd c _
 ·have := h.e (i - p.nc * nS c) (by omega);show (p.t (i-p.nc*nS c)).n<=1000;omega
def Rl(p:Pnl)(h:pS p)(b:Bool):List Pf:=[pP (G6 h c)]++k9 p++[qW (nD c) (gB c),pP (ZL h c)]++k9 p++[qW (nD c) (gB c),pP (show aM p (nD c) (gB c)+(bif b then p.nm else 0)<=1000 by
  have:=(G6 h c).nm;rw[rM];cases b
  ·show p.nc*nD c+0<=1000;omega
  ·exact this),pP (λi (_:i<aM p (nD c) (gB c)+(bif b then p.nm else 0))=>YR c p (nD c) i),qW (aM p (nD c) (gB c)+(bif b then p.nm else 0)) (bj p (nD c) (gB c)),qW (aM p (nD c) (gB c)+(bif b then p.nm else 0)) (bj p (nD c) (gB c)),pF (show (!iD kA (aM p (nD c) (gB c)+(bif b then p.nm else 0)) (aM p (nD c) (gB c)+(bif b then p.nm else 0)) (bj p (nD c) (gB c)) (bj p (nD c) (gB c)))=false by rw[Ot rfl (λ_ _=>rfl) Zi];rfl)]
def qHw(p:Pnl)(h:pS p):List Pf:=[pP (G7 h c)]++k9 p++[qX aY (nS c) (fV c),pP (ZM h c)]++k9 p++[qX aY (nS c) (fV c),pP (G7 h c).nt,pP (λi (hi:i<p.nc*nS c+p.nt)=>a0k c h i y hi),qX aY (p.nc*nS c+p.nt) (bQ p (nS c) (fV c) y),qX aY (p.nc*nS c+p.nt) (bQ p (nS c) (fV c) y),pF (show (!iD lC (p.nc*nS c+p.nt) (p.nc*nS c+p.nt) (bQ p (nS c) (fV c) y) (bQ p (nS c) (fV c) y))=false by rw[Ot rfl (λ_ _=>rfl) Zk];rfl)]
def qQw(p:Pnl)(h:pS p):List Pf:=[pP (G8 h c)]++k9 p++[qX cS (nS c) (jh c),pP (G8 h c)]++k9 p++[qX cS (nS c) (jh c),pF (eD (show ((p.nc*nS c:Nat):Int)=((p.nc*nS c:Nat):Int) from rfl))]
noncomputable def zl(k:Nat):List (Nat×bO):=if k<3 then [(40,⟨nF fL,I8 c w y k 0,.ex 4,I9 c w y k⟩)] else []
theorem a3m:bJ Tryz.prog (bm fL 12) ⟨nF fL,qS c w y 0,.ex 0,wu⟩ :=
 bW (X:=[]) (K:=ox) (f:=fL) (id:=12) (n:=nF fL) 3 (qS c w y) (zl c w y) (e:=.ex 0) (d1:=wu) (by kernel_rfl) (λk=>by unfold zl;by_cases h:k<3<;>simp only[h,if_true,if_false]<;>kernel_rfl) (λk _=>by
   unfold zl;by_cases hk:k<3
   ·rw[if_pos hk];exact LT.cons (a3g c w y k (G8 (Rk c w k) c).all) LT.nil
   ·rw[if_neg hk];exact LT.nil)
  (λk hk => by
   unfold zl;rw[if_pos hk];have h:=Rk c w k;exact⟨[true,false,false,false,false],[pT (aZ (show (k:Int)<((3:Nat):Int) by omega)),pP (show 0<=(k:Int)/\(k:Int)<((3:Nat):Int) by omega)]++Rl c (q3 c w k) h false++Rl c (q3 c w k) h true++qHw c y (q3 c w k) h++qQw c (q3 c w k) h++[q0,qZ (gJ c w k)]++DF c w y k++[pI k (by omega)]++DJ c w y,by kernel_rfl⟩)
  (by
   unfold zl;rw[if_neg (Nat.lt_irrefl _)];exact⟨[false],[pF (ce (show ¬((3:Nat):Int)<((3:Nat):Int) by omega)),pR (aN true)],by kernel_rfl⟩) nofun
end
end Go.Proofs.YtghemgdfmldoeaaGreat.W
