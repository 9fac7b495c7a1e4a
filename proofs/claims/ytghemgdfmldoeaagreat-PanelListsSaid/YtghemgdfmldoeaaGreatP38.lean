import Derived.Test.YtghemgdfmldoeaaGreatP37
set_option linter.unusedVariables false
set_option linter.unusedSimpArgs false
set_option maxRecDepth 100000
namespace Go.Proofs.YtghemgdfmldoeaaGreat.W
open Go.RowKit
theorem YG(x y r:Int):ae Tryz.prog 54 [⟨true,ptI (x,y)⟩,aj r lim] (.one (bf (fB x y r))):=dw [] [] [] [] (by kernel_rfl)
def Wg:ah:=gi tD NU 54 (λp r=>.one (bf (fB p.1 p.2 r))) (λ_ _=>[]) λp r _=>YG p.1 p.2 r
def dE:FuncId:=18
section
variable (p:Pnl) (n:Nat) (F:Nat->aI) (o:Bool)
def DT:List (Nat×Rq):=[(1,.eq (ez n F)),(2,.eq ⟨false,[.b o]⟩),(3,.eq (ak 0))]
def Jy(k:Nat):Ds:=⟨(7,.le (aj (ar F k:Int) 2000))::(8,.le (aj (k:Int) 2000))::DT n F o,dQ p⟩
def sS:List (Nat×Rq):=(7,.le (aj (ar F n:Int) 2000))::DT n F o
def Jz:Ds:=⟨sS n F o,dQ p⟩
def pA(m:Nat):Nat×Rq:=(9,.le (fK m (bj p n F)))
def JA(k:Nat):Ds:=⟨pA p n F (k*ar F n)::(10,.le (aj (k:Int) 2000))::sS n F o,dQ p⟩
def JC(k j:Nat):Ds:=⟨pA p n F (k*ar F n+j)::(10,.le (aj (k:Int) 2000))::(11,.le (aj (j:Int) 2000))::sS n F o,dQ p⟩
def JD(k:Nat):Ds:=⟨pA p n F ((k+1)*ar F n)::(10,.le (aj (k:Int) 2000))::sS n F o,dQ p⟩
def JB:Ds:=⟨pA p n F (p.nc*ar F n)::sS n F o,dQ p⟩
def JE(k:Nat):Ds:=⟨pA p n F (p.nc*ar F n+k*(n-ar F n))::(12,.le (aj (k:Int) 2000))::sS n F o,dQ p⟩
def JG(k j:Nat):Ds:=⟨pA p n F (p.nc*ar F n+k*(n-ar F n)+j)::(12,.le (aj (k:Int) 2000))::(13,.le (aj ((ar F n+j:Nat):Int) 3000))::sS n F o,dQ p⟩
def JH(k:Nat):Ds:=⟨pA p n F (p.nc*ar F n+(k+1)*(n-ar F n))::(12,.le (aj (k:Int) 2000))::sS n F o,dQ p⟩
def zD(k:Nat):Ds:=⟨pA p n F (aM p n F+k)::(14,.le (aj (k:Int) 2000))::DT n F o,dQ p⟩
def JF:Ds:=⟨pA p n F (aM p n F)::DT n F o,dQ p⟩
def zE:Ds:=⟨[pA p n F (aM p n F+bif o then p.nm else 0)],[]⟩
end
def pY:List ah:=[Gf,Wg]
theorem YQ{p:Pnl}{n:Nat}{F:Nat->aI}{k j:Nat}(hk:k<p.nc)(hj:j<ar F n):bj p n F (k*ar F n+j)=⟨gk (p.c k) (F j).s,(F j).c⟩:=by
 have:=Nat.mul_le_mul_right (ar F n) (show k+1<=p.nc from hk);rw[Nat.succ_mul] at this;unfold bj;rw[if_pos (show k*ar F n+j<aM p n F by unfold aM;omega)];unfold oM;rw[if_pos (by omega)];obtain⟨e1,e2⟩:=oO (k:=k) hj;unfold fe;rw[e1,e2]
theorem YP{p:Pnl}{n:Nat}{F:Nat->aI}{k j:Nat}(hk:k<p.nc)(hj:j<n-ar F n):bj p n F (p.nc*ar F n+k*(n-ar F n)+j)=⟨gk (p.c k) (F (ar F n+j)).s,(F (ar F n+j)).c⟩:=by
 have:=Nat.mul_le_mul_right (n-ar F n) (show k+1<=p.nc from hk);rw[Nat.succ_mul] at this;unfold bj;rw[if_pos (show p.nc*ar F n+k*(n-ar F n)+j<aM p n F by unfold aM;omega)];unfold oM;rw[if_neg (by omega),show p.nc*ar F n+k*(n-ar F n)+j-p.nc*ar F n=k*(n-ar F n)+j by omega];obtain⟨e1,e2⟩:=oO (k:=k) hj;unfold fe;rw[e1,e2]
structure rC (p:Pnl) (n:Nat) (F:Nat->aI):Prop where
 dr:iq p n F
 m:∀j,j<n->xC (F j).s
def JI(m:bG)(d:aI):List It:=[.i (gk m d.s).k lim,fW (gk m d.s).n (gk m d.s).e,.i (gk m d.s).r lim,.v (.bool d.c)]
theorem RJ(m:bG)(d:aI){x:aI}(h:x=⟨gk m d.s,d.c⟩):(JI m d).map dB=aS x:=by rw[h];rfl
section
variable (p:Pnl) (n:Nat) (F:Nat->aI) (o:Bool)
def sQ:List Pf:=[pR (ez n F),qO o,pR (ak 0)]
def kh:List Pf:=qZ (ar F n)::sQ n F o
theorem Ry(hn:n<=1000):bJ Tryz.prog (bm dE 6) ⟨nF dE,Jy p n F o 0,.ex 0,Jz p n F o⟩ :=
 bW (X:=[aJ]) (K:=pY) (f:=dE) (id:=6) (n:=nF dE) n (Jy p n F o) (λ_=>[]) (e:=.ex 0) (d1:=Jz p n F o) (by kernel_rfl) (λ_=>by kernel_rfl) (λ_ _=>LT.nil)
  (λk hk => by
   have ih:0<=(k:Int)/\(k:Int)<(n:Int):=by omega
   cases h:(F k).c with|true=>exact⟨[true,true],[pT (aZ (show (k:Int)<(n:Int) by omega)),pP ih,pT h,DC F k ((k:Int)+1) (by unfold ar;rw[h];rfl) (by omega),pI k (by omega)]++sQ n F o++qP p,by kernel_rfl⟩|false=>exact⟨[true,false],[pT (aZ (show (k:Int)<(n:Int) by omega)),pP ih,pF h,⟨(ar F k:Int)=ar F (k+1),by simp[ar,h]⟩,pI k (by omega)]++sQ n F o++qP p,by kernel_rfl⟩)
  ⟨[false],[pF (ce (show ¬(n:Int)<(n:Int) by omega)),qZ (ar F n)]++sQ n F o++qP p,by kernel_rfl⟩ nofun
theorem a4p(h:rC p n F)(k:Nat)(hk:k<p.nc):bJ Tryz.prog (bm dE 24) ⟨nF dE,JC p n F o k 0,.ex 4,JD p n F o k⟩ :=
 bW (X:=[aJ]) (K:=pY) (f:=dE) (id:=24) (n:=nF dE) (ar F n) (JC p n F o k) (λ_=>[]) (e:=.ex 4) (d1:=JD p n F o k) (by kernel_rfl) (λ_=>by kernel_rfl) (λ_ _=>LT.nil)
  (λj hj => by
   have hf:=jC F n;have a:=h.dr.rp.all;have l:=h.dr.rp.ln;have:=Nat.mul_le_mul_left p.nc hf;have t:=Nat.mul_le_mul_right (ar F n) (show k+1<=p.nc from hk);rw[Nat.succ_mul] at t;have ix:0<=(j:Int)/\(j:Int)<(n:Int):=by omega
   exact⟨[true],[pT (aZ (show (j:Int)<(ar F n:Int) by omega)),pP ix,pP (show 0<=(k:Int)/\(k:Int)<(p.nc:Int) by omega),pP (h.m j (by omega)),bN (F j).s,pP ix,pP (show k*ar F n+j+1<=1000 by omega),qA aS (bj p n F) (k*ar F n+j) (k*ar F n+(j+1)) (JI (p.c k) (F j)) (by omega) (RJ _ _ (YQ hk hj)),qZ k,pI j (by omega)]++kh n F o++qP p,by kernel_rfl⟩)
  ⟨[false],[pF (ce (show ¬(ar F n:Int)<(ar F n:Int) by omega)),qL aS (bj p n F) (k*ar F n+ar F n) ((k+1)*ar F n) (by rw[Nat.succ_mul]),qZ k]++kh n F o++qP p,by kernel_rfl⟩ nofun
noncomputable def zG(k:Nat):List (Nat×bO):=if k<p.nc then [(24,⟨nF dE,JC p n F o k 0,.ex 4,JD p n F o k⟩)] else []
theorem Rz(h:rC p n F):bJ Tryz.prog (bm dE 18) ⟨nF dE,JA p n F o 0,.ex 2,JB p n F o⟩ :=
 bW (X:=[aJ]) (K:=pY) (f:=dE) (id:=18) (n:=nF dE) p.nc (JA p n F o) (λk=>zG p n F o k) (e:=.ex 2) (d1:=JB p n F o) (by kernel_rfl) (λk=>by unfold zG;by_cases h:k<p.nc<;>simp only[h,if_true,if_false]<;>kernel_rfl) (λk _=>by
   unfold zG;by_cases hk:k<p.nc
   ·rw[if_pos hk];exact LT.cons (a4p p n F o h k hk) LT.nil
   ·rw[if_neg hk];exact LT.nil)
  (λk hk => by
   unfold zG;rw[if_pos hk];have c:=h.dr.rp.nc;exact⟨[true],[pT (aZ (show (k:Int)<(p.nc:Int) by omega)),qL aS (bj p n F) (k*ar F n) (k*ar F n+0) rfl,qZ k,q0]++kh n F o++qP p++[qL aS (bj p n F) ((k+1)*ar F n) ((k+1)*ar F n) rfl,pI k (by omega)]++kh n F o++qP p,by kernel_rfl⟩)
  (by
   unfold zG;rw[if_neg (Nat.lt_irrefl _)];exact⟨[false],[pF (ce (show ¬(p.nc:Int)<(p.nc:Int) by omega)),qL aS (bj p n F) (p.nc*ar F n) (p.nc*ar F n) rfl]++kh n F o++qP p,by kernel_rfl⟩) nofun
theorem a4q(h:rC p n F)(k:Nat)(hk:k<p.nc):bJ Tryz.prog (bm dE 38) ⟨nF dE,JG p n F o k 0,.ex 8,JH p n F o k⟩ :=
 bW (X:=[aJ]) (K:=pY) (f:=dE) (id:=38) (n:=nF dE) (n-ar F n) (JG p n F o k) (λ_=>[]) (e:=.ex 8) (d1:=JH p n F o k) (by kernel_rfl) (λ_=>by kernel_rfl) (λ_ _=>LT.nil)
  (λj hj => by
   have hf:=jC F n;have a:=rM p n F;have l:=h.dr.rp.ln;have b:=h.dr.nm;unfold aM at a;have t:=Nat.mul_le_mul_right (n-ar F n) (show k+1<=p.nc from hk);rw[Nat.succ_mul] at t;have ix:0<=((ar F n+j:Nat):Int)/\((ar F n+j:Nat):Int)<(n:Int):=by omega
   exact⟨[true],[pT (aZ (show ((ar F n+j:Nat):Int)<(n:Int) by omega)),pP ix,pP (show 0<=(k:Int)/\(k:Int)<(p.nc:Int) by omega),pP (h.m (ar F n+j) (by omega)),bN (F (ar F n+j)).s,pP ix,pP (show p.nc*ar F n+k*(n-ar F n)+j+1<=1000 by omega),qA aS (bj p n F) (p.nc*ar F n+k*(n-ar F n)+j) (p.nc*ar F n+k*(n-ar F n)+(j+1)) (JI (p.c k) (F (ar F n+j))) (by omega) (RJ _ _ (YP hk hj)),qZ k,⟨((ar F n+j:Nat):Int)+1=((ar F n+(j+1):Nat):Int)/\(((ar F n+j:Nat):Int)+1).natAbs<=3000,by omega⟩]++kh n F o++qP p,by kernel_rfl⟩)
  ⟨[false],[pF (ce (show ¬((ar F n+(n-ar F n):Nat):Int)<(n:Int) by have:=jC F n;omega)),qL aS (bj p n F) (p.nc*ar F n+k*(n-ar F n)+(n-ar F n)) (p.nc*ar F n+(k+1)*(n-ar F n)) (by rw[Nat.succ_mul];omega),qZ k]++kh n F o++qP p,by kernel_rfl⟩ nofun
noncomputable def zH(k:Nat):List (Nat×bO):=if k<p.nc then [(38,⟨nF dE,JG p n F o k 0,.ex 8,JH p n F o k⟩)] else []
theorem RF(h:rC p n F):bJ Tryz.prog (bm dE 32) ⟨nF dE,JE p n F o 0,.ex 6,JF p n F o⟩ :=
 bW (X:=[aJ]) (K:=pY) (f:=dE) (id:=32) (n:=nF dE) p.nc (JE p n F o) (λk=>zH p n F o k) (e:=.ex 6) (d1:=JF p n F o) (by kernel_rfl) (λk=>by unfold zH;by_cases h:k<p.nc<;>simp only[h,if_true,if_false]<;>kernel_rfl) (λk _=>by
   unfold zH;by_cases hk:k<p.nc
   ·rw[if_pos hk];exact LT.cons (a4q p n F o h k hk) LT.nil
   ·rw[if_neg hk];exact LT.nil)
  (λk hk => by
   unfold zH;rw[if_pos hk];have c:=h.dr.rp.nc;have l:=h.dr.rp.ln;have hf:=jC F n;exact⟨[true],[pT (aZ (show (k:Int)<(p.nc:Int) by omega)),qL aS (bj p n F) (p.nc*ar F n+k*(n-ar F n)) (p.nc*ar F n+k*(n-ar F n)+0) rfl,qZ k,⟨(ar F n:Int)=((ar F n+0:Nat):Int),rfl⟩]++kh n F o++qP p++[qL aS (bj p n F) (p.nc*ar F n+(k+1)*(n-ar F n)) (p.nc*ar F n+(k+1)*(n-ar F n)) rfl,pI k (by omega)]++kh n F o++qP p,by kernel_rfl⟩)
  (by
   unfold zH;rw[if_neg (Nat.lt_irrefl _)];exact⟨[false],[pF (ce (show ¬(p.nc:Int)<(p.nc:Int) by omega)),qL aS (bj p n F) (p.nc*ar F n+p.nc*(n-ar F n)) (aM p n F) rfl]++sQ n F o++qP p,by kernel_rfl⟩) nofun
theorem a4s(h:rC p n F):bJ Tryz.prog (bm dE 46) ⟨nF dE,zD p n F true 0,.ex 10,zE p n F true⟩ :=
 bW (X:=[aJ]) (K:=pY) (f:=dE) (id:=46) (n:=nF dE) p.nm (zD p n F true) (λ_=>[]) (e:=.ex 10) (d1:=zE p n F true) (by kernel_rfl) (λ_=>by kernel_rfl) (λ_ _=>LT.nil)
  (λk hk => by
   have a:=rM p n F;have b:=h.dr.nm;exact⟨[true],[pT (aZ (show (k:Int)<(p.nm:Int) by omega)),pP (show 0<=(k:Int)/\(k:Int)<(p.nm:Int) by omega),pP (show aM p n F+k+1<=1000 by omega),qA aS (bj p n F) (aM p n F+k) (aM p n F+(k+1)) (vv p k) rfl (BF p n F k),pI k (by omega)]++sQ n F true++qP p,by kernel_rfl⟩)
  ⟨[false],[pF (ce (show ¬(p.nm:Int)<(p.nm:Int) by omega)),qL aS (bj p n F) (aM p n F+p.nm) (aM p n F+p.nm) rfl],by kernel_rfl⟩ nofun
theorem a4r:bJ Tryz.prog (bm dE 46) ⟨nF dE,zD p n F false 0,.ex 10,zE p n F false⟩ :=
 bW (X:=[aJ]) (K:=pY) (f:=dE) (id:=46) (n:=nF dE) 0 (zD p n F false) (λ_=>[]) (e:=.ex 10) (d1:=zE p n F false) (by kernel_rfl) (λ_=>by kernel_rfl) (λ_ _=>LT.nil)
  (λk hk=>absurd hk (Nat.not_lt_zero k))
  (by
   by_cases h:p.nm=0
   ·exact⟨[false],[pF (ce (show ¬((0:Nat):Int)<(p.nm:Int) by omega)),qL aS (bj p n F) (aM p n F+0) (aM p n F+0) rfl],by kernel_rfl⟩
   ·exact⟨[true],[pT (aZ (show ((0:Nat):Int)<(p.nm:Int) by omega)),qL aS (bj p n F) (aM p n F+0) (aM p n F+0) rfl],by kernel_rfl⟩) nofun
noncomputable def RG:List (Nat×bO):=[(6,⟨nF dE,Jy p n F o 0,.ex 0,Jz p n F o⟩),(18,⟨nF dE,JA p n F o 0,.ex 2,JB p n F o⟩),(32,⟨nF dE,JE p n F o 0,.ex 6,JF p n F o⟩),(46,⟨nF dE,zD p n F o 0,.ex 10,zE p n F o⟩)]
def RH:List Pf:=[q0,q0]++sQ n F o++qP p++[⟨0*ar F n=0,Nat.zero_mul _⟩,q0]++kh n F o++qP p++[qL aS (bj p n F) (p.nc*ar F n) (p.nc*ar F n+0*(n-ar F n)) (by rw[Nat.zero_mul,Nat.add_zero]),q0]++kh n F o++qP p++[qL aS (bj p n F) (aM p n F) (aM p n F+0) rfl,q0]++sQ n F o++qP p
theorem a4t(h:rC p n F):ae Tryz.prog dE [panV p,ez n F,⟨false,[.b o]⟩] (.one (fK (aM p n F+bif o then p.nm else 0) (bj p n F))):=by
 cases o
 ·exact cD [aJ] pY (RG p n F false) (LT.cons (Ry p n F false h.dr.rp.ln) (LT.cons (Rz p n F false h) (LT.cons (RF p n F false h) (LT.cons (a4r p n F) LT.nil)))) [] (RH p n F false) (by kernel_rfl)
 ·exact cD [aJ] pY (RG p n F true) (LT.cons (Ry p n F true h.dr.rp.ln) (LT.cons (Rz p n F true h) (LT.cons (RF p n F true h) (LT.cons (a4s p n F h) LT.nil)))) [] (RH p n F true) (by kernel_rfl)
end
end Go.Proofs.YtghemgdfmldoeaaGreat.W
set_option maxRecDepth 100000
namespace Go.Proofs.YtghemgdfmldoeaaGreat.W
open Go.RowKit
def mE:FuncId:=23
section
variable (p:Pnl) (n:Nat) (F:Nat->je)
def J9:List (Nat×Rq):=[(1,.eq (cR n F)),(2,.eq (ak 0))]
def J5(k:Nat):Ds:=⟨(5,.le (cX p n F (k*n)))::(6,.le (aj (k:Int) 2000))::J9 n F,dQ p⟩
def J7(k j:Nat):Ds:=⟨(5,.le (cX p n F (k*n+j)))::(6,.le (aj (k:Int) 2000))::(7,.le (aj (j:Int) 2000))::J9 n F,dQ p⟩
def J8(k:Nat):Ds:=⟨(5,.le (cX p n F ((k+1)*n)))::(6,.le (aj (k:Int) 2000))::J9 n F,dQ p⟩
def J6:Ds:=⟨[(5,.le (cX p n F (p.nc*n)))],[]⟩
def Td(k j:Nat):List It:=[.i (k:Int) 2000,.v (.string (F j).a),.v (.string (F j).b),.i (kW (p.c k) ((F j).x,(F j).y)).1 lim,.i (kW (p.c k) ((F j).x,(F j).y)).2 lim,.i (F j).l lim]
end
def EV:List ah:=[vt]
section
variable (p:Pnl) (n:Nat) (F:Nat->je)
theorem a5e{k j:Nat}(h:j<n):(Td p F k j).map dB=cS (fl p n F (k*n+j)):=by
 obtain⟨e1,e2⟩:=oO (k:=k) h;unfold cS fl;rw[e1,e2];rfl
def zA:List Pf:=[pR (cR n F),pR (ak 0)]
theorem a5d(h:iO p n F)(k:Nat)(hk:k<p.nc):bJ Tryz.prog (bm mE 12) ⟨nF mE,J7 p n F k 0,.ex 2,J8 p n F k⟩ :=
 bW (X:=[aJ]) (K:=EV) (f:=mE) (id:=12) (n:=nF mE) n (J7 p n F k) (λ_=>[]) (e:=.ex 2) (d1:=J8 p n F k) (by kernel_rfl) (λ_=>by kernel_rfl) (λ_ _=>LT.nil)
  (λj hj=>⟨[true],[pT (aZ (show (j:Int)<(n:Int) by omega)),pP (show 0<=(j:Int)/\(j:Int)<(n:Int) by omega),pP (show 0<=(k:Int)/\(k:Int)<(p.nc:Int) by omega),pP (h.ok j hj),pP (te h.all hk hj),qA cS (fl p n F) (k*n+j) (k*n+(j+1)) (Td p F k j) (by omega) (a5e p n F hj),qZ k,pI j (by have:=h.ln;omega)]++zA n F++qP p,by kernel_rfl⟩)
  ⟨[false],[pF (ce (show ¬(n:Int)<(n:Int) by omega)),qL cS (fl p n F) (k*n+n) ((k+1)*n) (by rw[Nat.succ_mul]),qZ k]++zA n F++qP p,by kernel_rfl⟩ nofun
noncomputable def zP(k:Nat):List (Nat×bO):=if k<p.nc then [(12,⟨nF mE,J7 p n F k 0,.ex 2,J8 p n F k⟩)] else []
theorem a5c(h:iO p n F):bJ Tryz.prog (bm mE 6) ⟨nF mE,J5 p n F 0,.ex 0,J6 p n F⟩ :=
 bW (X:=[aJ]) (K:=EV) (f:=mE) (id:=6) (n:=nF mE) p.nc (J5 p n F) (λk=>zP p n F k) (e:=.ex 0) (d1:=J6 p n F) (by kernel_rfl) (λk=>by unfold zP;by_cases h:k<p.nc<;>simp only[h,if_true,if_false]<;>kernel_rfl) (λk _=>by
   unfold zP;by_cases hk:k<p.nc
   ·rw[if_pos hk];exact LT.cons (a5d p n F h k hk) LT.nil
   ·rw[if_neg hk];exact LT.nil)
  (λk hk => by
   unfold zP;rw[if_pos hk];exact⟨[true],[pT (aZ (show (k:Int)<(p.nc:Int) by omega)),qL cS (fl p n F) (k*n) (k*n+0) rfl,qZ k,q0]++zA n F++qP p++[qL cS (fl p n F) ((k+1)*n) ((k+1)*n) rfl,pI k (by have:=h.nc;omega)]++zA n F++qP p,by kernel_rfl⟩)
  (by
   unfold zP;rw[if_neg (Nat.lt_irrefl _)];exact⟨[false],[pF (ce (show ¬(p.nc:Int)<(p.nc:Int) by omega)),qL cS (fl p n F) (p.nc*n) (p.nc*n) rfl],by kernel_rfl⟩) nofun
theorem a5f(h:iO p n F):ae Tryz.prog mE [panV p,cR n F] (.one (cX p n F (p.nc*n))) :=
 cD [aJ] EV [(6,⟨nF mE,J5 p n F 0,.ex 0,J6 p n F⟩)] (LT.cons (a5c p n F h) LT.nil) [] ([⟨0*n=0,Nat.zero_mul n⟩,q0]++zA n F++qP p) (by kernel_rfl)
end
end Go.Proofs.YtghemgdfmldoeaaGreat.W
set_option maxRecDepth 100000
namespace Go.Proofs.YtghemgdfmldoeaaGreat.W
open Go.RowKit
def ri:V1:=⟨true,[.i 0 0,.i 0 0,.i 0 0,.v (.bool false)]⟩
theorem Vz(x y:Int):ae Tryz.prog 64 [ri,⟨true,ptI (x,y)⟩] (.one ⟨true,[.i (IntKind.i64.wrap (x+0)) lim,.i (IntKind.i64.wrap (y+0)) lim]⟩):=ad [] [false,false,false,false] [pF rfl,p4,p4,pF (by decide:((Int.tmod (Int.tmod 0 4+4) 4==1)=false)),pF (by decide:((Int.tmod (Int.tmod 0 4+4) 4==2)=false)),pF (by decide:((Int.tmod (Int.tmod 0 4+4) 4==3)=false))] (by kernel_rfl)
theorem Vy(x y:Int):ae Tryz.prog 64 [ri,⟨true,ptI (x,y)⟩] (.one ⟨true,ptI (x,y)⟩):=λW vals hv=>by
 have h:=Vz x y W vals hv;obtain⟨v1,_,rfl,_,v2,_,rfl,⟨cs,⟨_,_,rfl,⟨rfl,_,i1⟩,_,_,rfl,⟨rfl,_,i2⟩,rfl⟩,_⟩,rfl⟩:=hv;rw[Int.add_zero,Int.add_zero,wrap_in i1,wrap_in i2] at h;exact h
def NP:ah where
 f:=64;g:=λ| [⟨true,[.i 0 0,.i 0 0,.i 0 0,.v (.bool false)]⟩,⟨true,[.i x _,.i y _]⟩]=>some (.one ⟨true,ptI (x,y)⟩,[])|_=>none
 ok:=by
  intro args res ps h hp;split at h<;>cases h;rename_i x _ y _;refine (Vy x y).pre λW=>aU (λ_ hr=>hr) (aU (λv hr=>?_) dY)
  obtain⟨cs,⟨_,_,rfl,⟨rfl,_,i1⟩,_,_,rfl,⟨rfl,_,i2⟩,rfl⟩,e,_⟩:=hr;exact⟨_,⟨_,_,rfl,⟨rfl,aQ i1,i1⟩,_,[],rfl,⟨rfl,aQ i2,i2⟩,rfl⟩,e,nofun⟩
theorem Ym(e:Ed):ae Tryz.prog 118 [⟨true,cV e⟩,ri] (.one ⟨true,cV e⟩):=by
 by_cases hk:e.k=1
 ·exact ad [NP] [false,false] [pF (eD hk),pF rfl] (by kernel_rfl)
 ·exact ad [NP] [true,false] [pT (o8 hk),pF rfl] (by kernel_rfl)
def Yk:ah where
 f:=118;g:=λ| [⟨true,[.i k _,.i ax _,.i ay _,.i bx _,.i by' _,.i cx _,.i cy _]⟩,⟨true,[.i 0 0,.i 0 0,.i 0 0,.v (.bool false)]⟩]=>some (.one ⟨true,cV ⟨k,ax,ay,bx,by',cx,cy⟩⟩,[])|_=>none
 ok:=by
  intro args res ps h hp;split at h<;>cases h;refine (Ym _).pre λW=>aU (λv hr=>?_) (aU (λ_ hr=>hr) dY)
  obtain⟨cs,⟨_,_,rfl,⟨rfl,_,i1⟩,_,_,rfl,⟨rfl,_,i2⟩,_,_,rfl,⟨rfl,_,i3⟩,_,_,rfl,⟨rfl,_,i4⟩,_,_,rfl,⟨rfl,_,i5⟩,_,_,rfl,⟨rfl,_,i6⟩,_,_,rfl,⟨rfl,_,i7⟩,rfl⟩,e,_⟩:=hr;exact⟨_,⟨_,_,rfl,⟨rfl,aQ i1,i1⟩,_,_,rfl,⟨rfl,aQ i2,i2⟩,_,_,rfl,⟨rfl,aQ i3,i3⟩,_,_,rfl,⟨rfl,aQ i4,i4⟩,_,_,rfl,⟨rfl,aQ i5,i5⟩,_,_,rfl,⟨rfl,aQ i6,i6⟩,_,[],rfl,⟨rfl,aQ i7,i7⟩,rfl⟩,e,nofun⟩
def xw:List ah:=[Yk]
theorem a4c(k r:Int)(e:Nat->Ed):ae Tryz.prog 58 [bh ⟨k,1,e,r⟩,ri] (.one (bf (cU k [e 0] r))) :=
 dw [] xw [true,false] [pT (show decide ((0:Int)<((1:Nat):Int))=true by decide),pP (show 0<=(0:Int)/\(0:Int)<((1:Nat):Int) by decide),pF (show decide ((0:Int)+1<((1:Nat):Int))=false by decide)] (by kernel_rfl)
theorem a4d(k r:Int)(e:Nat->Ed):ae Tryz.prog 58 [bh ⟨k,2,e,r⟩,ri] (.one (bf (cU k [e 0,e 1] r))) :=
 dw [] xw [true,true,false] [pT (show decide ((0:Int)<((2:Nat):Int))=true by decide),pP (show 0<=(0:Int)/\(0:Int)<((2:Nat):Int) by decide),pT (show decide ((0:Int)+1<((2:Nat):Int))=true by decide),pP (show 0<=(0:Int)+1/\(0:Int)+1<((2:Nat):Int) by decide),pF (show decide ((0:Int)+1+1<((2:Nat):Int))=false by decide)] (by kernel_rfl)
theorem a4e(k r:Int)(e:Nat->Ed):ae Tryz.prog 58 [bh ⟨k,3,e,r⟩,ri] (.one (bf (cU k [e 0,e 1,e 2] r))) :=
 dw [] xw [true,true,true,false] [pT (show decide ((0:Int)<((3:Nat):Int))=true by decide),pP (show 0<=(0:Int)/\(0:Int)<((3:Nat):Int) by decide),pT (show decide ((0:Int)+1<((3:Nat):Int))=true by decide),pP (show 0<=(0:Int)+1/\(0:Int)+1<((3:Nat):Int) by decide),pT (show decide ((0:Int)+1+1<((3:Nat):Int))=true by decide),pP (show 0<=(0:Int)+1+1/\(0:Int)+1+1<((3:Nat):Int) by decide),pF (show decide ((0:Int)+1+1+1<((3:Nat):Int))=false by decide)] (by kernel_rfl)
theorem a4f(k r:Int)(e:Nat->Ed):ae Tryz.prog 58 [bh ⟨k,4,e,r⟩,ri] (.one (bf (cU k [e 0,e 1,e 2,e 3] r))) :=
 dw [] xw [true,true,true,true,false] [pT (show decide ((0:Int)<((4:Nat):Int))=true by decide),pP (show 0<=(0:Int)/\(0:Int)<((4:Nat):Int) by decide),pT (show decide ((0:Int)+1<((4:Nat):Int))=true by decide),pP (show 0<=(0:Int)+1/\(0:Int)+1<((4:Nat):Int) by decide),pT (show decide ((0:Int)+1+1<((4:Nat):Int))=true by decide),pP (show 0<=(0:Int)+1+1/\(0:Int)+1+1<((4:Nat):Int) by decide),pT (show decide ((0:Int)+1+1+1<((4:Nat):Int))=true by decide),pP (show 0<=(0:Int)+1+1+1/\(0:Int)+1+1+1<((4:Nat):Int) by decide),pF (show decide ((0:Int)+1+1+1+1<((4:Nat):Int))=false by decide)] (by kernel_rfl)
theorem a4b(k r:Int)(e:Nat->Ed):ae Tryz.prog 58 [bh ⟨k,0,e,r⟩,ri] (.one ⟨true,[.i k lim,g8,.i r lim]⟩) :=
 ad xw [false] [pF (show decide ((0:Int)<((0:Nat):Int))=false by decide)] (by kernel_rfl)
theorem a1Q{k r:Int}{e:Nat->Ed}{V W:World}{x:Value}(h:bT V W (λ_=>0) 0 (.one ⟨true,[.i k lim,g8,.i r lim]⟩) x):bT V W (λ_=>0) 0 (.one (bf ⟨k,0,e,r⟩)) x:=by
 obtain⟨cs,⟨c1,_,e1,h1,c2,_,e2,h2,h3⟩,h4⟩:=h;refine⟨cs,⟨c1,_,e1,h1,c2,_,e2,⟨_,h2.1,none,0,rfl,Nat.le_refl _,Nat.zero_le _,λi hi=>absurd hi (Nat.not_lt_zero _)⟩,h3⟩,h4⟩
theorem a4g(s:Sh)(h:s.n<=4):ae Tryz.prog 58 [bh s,ri] (.one (bf s)):=by
 obtain⟨k,n,e,r⟩:=s;simp only at h;rcases (by omega:n=0\/n=1\/n=2\/n=3\/n=4) with rfl|rfl|rfl|rfl|rfl
 ·exact (a4b k r e).mono λ_ _ _=>a1Q
 ·refine (a4c k r e).mono λ_ _ _ => lj (k := k) (r := r) (n := 1) (e' := e) λi hi => ?_
  rcases (by omega:i=0) with rfl
  all_goals rfl
 ·refine (a4d k r e).mono λ_ _ _ => lj (k := k) (r := r) (n := 2) (e' := e) λi hi => ?_
  rcases (by omega:i=0\/i=1) with rfl|rfl
  all_goals rfl
 ·refine (a4e k r e).mono λ_ _ _ => lj (k := k) (r := r) (n := 3) (e' := e) λi hi => ?_
  rcases (by omega:i=0\/i=1\/i=2) with rfl|rfl|rfl
  all_goals rfl
 ·refine (a4f k r e).mono λ_ _ _ => lj (k := k) (r := r) (n := 4) (e' := e) λi hi => ?_
  rcases (by omega:i=0\/i=1\/i=2\/i=3) with rfl|rfl|rfl|rfl
  all_goals rfl
def Yp:ah where
 f:=58;g:=fun|[⟨true,l⟩,⟨true,[.i _ 0,.i _ 0,.i _ 0,.v (.bool false)]⟩]=>(oe l).map λz=>(.one (bf z.1),(z.1.n<=4)::z.2)|l=>Gf.g l
 ok:=by
  intro args res ps h hp;split at h
  ·rename_i l z1 z2 z3;cases hq:oe l with|none=>simp[hq] at h|some z =>
    simp only[hq,Option.map_some,Option.some.injEq,Prod.mk.injEq] at h;obtain⟨rfl,rfl⟩:=h;refine (a4g z.1 hp.1).pre λW=>aU (λ_ hr=>wZ hq hp.2 hr) (aU (λv hr=>?_) dY)
    obtain⟨cs,⟨_,_,rfl,⟨rfl,b1,i1⟩,_,_,rfl,⟨rfl,b2,i2⟩,_,_,rfl,⟨rfl,b3,i3⟩,h4⟩,e,_⟩:=hr;obtain rfl:=Int.natAbs_eq_zero.1 (Nat.le_zero.1 b1);obtain rfl:=Int.natAbs_eq_zero.1 (Nat.le_zero.1 b2);obtain rfl:=Int.natAbs_eq_zero.1 (Nat.le_zero.1 b3);exact⟨_,⟨_,_,rfl,⟨rfl,b1,i1⟩,_,_,rfl,⟨rfl,b2,i2⟩,_,_,rfl,⟨rfl,b3,i3⟩,h4⟩,e,nofun⟩
  ·exact Gf.ok _ _ _ h hp
end Go.Proofs.YtghemgdfmldoeaaGreat.W
set_option maxRecDepth 100000
namespace Go.Proofs.YtghemgdfmldoeaaGreat.W
open Go.RowKit
def jB:FuncId:=21
section
variable (p:Pnl) (n:Nat) (F:Nat->cA) (y:Int)
def zJ:List (Nat×Rq):=[(1,.eq (cN 6 aY n F)),(2,.eq (aj y lim)),(3,.eq (ak 0))]
def wL(m:Nat):Nat×Rq:=(7,.le (gW m (bQ p n F y)))
def JL(k:Nat):Ds:=⟨wL p n F y (k*n)::(8,.le (aj (k:Int) 2000))::zJ n F y,dQ p⟩
def JO(k j:Nat):Ds:=⟨wL p n F y (k*n+j)::(8,.le (aj (k:Int) 2000))::(9,.le (aj (j:Int) 2000))::zJ n F y,dQ p⟩
def JP(k:Nat):Ds:=⟨wL p n F y ((k+1)*n)::(8,.le (aj (k:Int) 2000))::zJ n F y,dQ p⟩
def JM:Ds:=⟨wL p n F y (p.nc*n)::zJ n F y,dQ p⟩
def JQ(k:Nat):Ds:=⟨wL p n F y (p.nc*n+k)::(11,.le (aj (k:Int) 2000))::zJ n F y,dQ p⟩
def JS:Ds:=⟨[wL p n F y (p.nc*n+p.nt)],[]⟩
theorem a0j{k j:Nat}(hk:k<p.nc)(hj:j<n):bQ p n F y (k*n+j)=⟨gk (p.c k) (F j).s,(F j).f,(F j).t,(F j).p⟩:=by
 have:=Nat.mul_le_mul_right n (show k+1<=p.nc from hk);rw[Nat.succ_mul] at this;unfold bQ;rw[if_pos (by omega)];obtain⟨e1,e2⟩:=oO (k:=k) hj;unfold fY;rw[e1,e2]
def Sm(m:bG)(d:cA):List It:=[.i (gk m d.s).k lim,fW (gk m d.s).n (gk m d.s).e,.i (gk m d.s).r lim,.i d.f lim,.i d.t lim,.v (.bool d.p)]
theorem a4M(m:bG)(d:cA){x:cA}(h:x=⟨gk m d.s,d.f,d.t,d.p⟩):(Sm m d).map dB=aY x:=by rw[h];rfl
def sR:List Pf:=[pR (cN 6 aY n F),pR (aj y lim),pR (ak 0)]
structure uZ:Prop where
 ho:oq p n F
 m:∀j,j<n->xC (F j).s
 t:∀j,j<p.nt->(p.t j).n<=4
end
def Ax:List ah:=[Yp]
theorem a0l(p:Pnl)(n:Nat)(F:Nat->cA)(y:Int)(k:Nat):(ua p y k).map dB=aY (bQ p n F y (p.nc*n+k)):=by
 unfold bQ;rw[if_neg (by omega),Nat.add_sub_cancel_left];rfl
section
variable (p:Pnl) (n:Nat) (F:Nat->cA) (y:Int)
theorem a4L(h:uZ p n F)(k:Nat)(hk:k<p.nc):bJ Tryz.prog (bm jB 12) ⟨nF jB,JO p n F y k 0,.ex 2,JP p n F y k⟩ :=
 bW (X:=[aJ]) (K:=Ax) (f:=jB) (id:=12) (n:=nF jB) n (JO p n F y k) (λ_=>[]) (e:=.ex 2) (d1:=JP p n F y k) (by kernel_rfl) (λ_=>by kernel_rfl) (λ_ _=>LT.nil)
  (λj hj=>⟨[true],[pT (aZ (show (j:Int)<(n:Int) by omega)),pP (show 0<=(j:Int)/\(j:Int)<(n:Int) by omega),pP (show 0<=(k:Int)/\(k:Int)<(p.nc:Int) by omega),pP (h.m j hj),bN (F j).s,pP (te h.ho.rp.all hk hj),qA aY (bQ p n F y) (k*n+j) (k*n+(j+1)) (Sm (p.c k) (F j)) (by omega) (a4M _ _ (a0j p n F y hk hj)),qZ k,pI j (by have:=h.ho.rp.ln;omega)]++sR n F y++qP p,by kernel_rfl⟩)
  ⟨[false],[pF (ce (show ¬(n:Int)<(n:Int) by omega)),qL aY (bQ p n F y) (k*n+n) ((k+1)*n) (by rw[Nat.succ_mul]),qZ k]++sR n F y++qP p,by kernel_rfl⟩ nofun
noncomputable def zK(k:Nat):List (Nat×bO):=if k<p.nc then [(12,⟨nF jB,JO p n F y k 0,.ex 2,JP p n F y k⟩)] else []
theorem a4K(h:uZ p n F):bJ Tryz.prog (bm jB 6) ⟨nF jB,JL p n F y 0,.ex 0,JM p n F y⟩ :=
 bW (X:=[aJ]) (K:=Ax) (f:=jB) (id:=6) (n:=nF jB) p.nc (JL p n F y) (λk=>zK p n F y k) (e:=.ex 0) (d1:=JM p n F y) (by kernel_rfl) (λk=>by unfold zK;by_cases h:k<p.nc<;>simp only[h,if_true,if_false]<;>kernel_rfl) (λk _=>by
   unfold zK;by_cases hk:k<p.nc
   ·rw[if_pos hk];exact LT.cons (a4L p n F y h k hk) LT.nil
   ·rw[if_neg hk];exact LT.nil)
  (λk hk => by
   unfold zK;rw[if_pos hk];exact⟨[true],[pT (aZ (show (k:Int)<(p.nc:Int) by omega)),qL aY (bQ p n F y) (k*n) (k*n+0) rfl,qZ k,q0]++sR n F y++qP p++[qL aY (bQ p n F y) ((k+1)*n) ((k+1)*n) rfl,pI k (by have:=h.ho.rp.nc;omega)]++sR n F y++qP p,by kernel_rfl⟩)
  (by
   unfold zK;rw[if_neg (Nat.lt_irrefl _)];exact⟨[false],[pF (ce (show ¬(p.nc:Int)<(p.nc:Int) by omega)),qL aY (bQ p n F y) (p.nc*n) (p.nc*n) rfl]++sR n F y++qP p,by kernel_rfl⟩) nofun
theorem a4N(h:uZ p n F):bJ Tryz.prog (bm jB 24) ⟨nF jB,JQ p n F y 0,.ex 4,JS p n F y⟩ :=
 bW (X:=[aJ]) (K:=Ax) (f:=jB) (id:=24) (n:=nF jB) p.nt (JQ p n F y) (λ_=>[]) (e:=.ex 4) (d1:=JS p n F y) (by kernel_rfl) (λ_=>by kernel_rfl) (λ_ _=>LT.nil)
  (λk hk => by
   have hm:=h.ho.nt;exact⟨[true],[pT (aZ (show (k:Int)<(p.nt:Int) by omega)),pP (show 0<=(k:Int)/\(k:Int)<(p.nt:Int) by omega),pP (h.t k hk),bN (p.t k),pP (show p.nc*n+k+1<=1000 by omega),qA aY (bQ p n F y) (p.nc*n+k) (p.nc*n+(k+1)) (ua p y k) rfl (a0l p n F y k),pI k (by omega)]++sR n F y++qP p,by kernel_rfl⟩)
  ⟨[false],[pF (ce (show ¬(p.nt:Int)<(p.nt:Int) by omega)),qL aY (bQ p n F y) (p.nc*n+p.nt) (p.nc*n+p.nt) rfl],by kernel_rfl⟩ nofun
theorem a4O(h:uZ p n F):ae Tryz.prog jB [panV p,cN 6 aY n F,aj y lim] (.one (gW (p.nc*n+p.nt) (bQ p n F y))) :=
 cD [aJ] Ax [(6,⟨nF jB,JL p n F y 0,.ex 0,JM p n F y⟩),(24,⟨nF jB,JQ p n F y 0,.ex 4,JS p n F y⟩)] (LT.cons (a4K p n F y h) (LT.cons (a4N p n F y h) LT.nil)) []
  ([⟨0*n=0,Nat.zero_mul n⟩,q0]++sR n F y++qP p++[qL aY (bQ p n F y) (p.nc*n) (p.nc*n+0) rfl,q0]++sR n F y++qP p) (by kernel_rfl)
end
end Go.Proofs.YtghemgdfmldoeaaGreat.W
namespace Go.Proofs.YtghemgdfmldoeaaGreat
open Go.RowKit
set_option maxRecDepth 100000
section
def qM(c:Cs):Sh:=if (bS c.o).k=2 then bS c.o else jK 0 0 60 30
theorem a1a(L:List Int)(h:(bS L).k=2):(bS L).n=3\/(bS L).n=4\/(bS L).n=8:=by
 unfold bS at *;simp only at *;split
 ·exact .inr (.inl rfl)
 split
 ·exact .inr (.inr rfl)
 split
 ·exact .inl rfl
 exfalso;rename_i h1 h2 h3;rw[if_neg h1,if_neg h2,if_neg h3] at h;split at h<;>cases h
theorem Qh{t x y:Int}{B:Nat}(ht:0<=t/\t<4)(hx:x.natAbs<=B)(hy:y.natAbs<=B):(gI ⟨0,0,t,false⟩ (x,y)).1.natAbs<=B/\(gI ⟨0,0,t,false⟩ (x,y)).2.natAbs<=B:=by
 unfold gI;have m0:am 0 4=0:=by decide
 have m1:am 1 4=1:=by decide
 have m2:am 2 4=2:=by decide
 have m3:am 3 4=3:=by decide
 obtain rfl|rfl|rfl|rfl:t=0\/t=1\/t=2\/t=3:=by omega
 all_goals
  simp only[uK m0,uL m1,uM m2,wX m3,Bool.false_eq_true,if_false];omega
theorem UR{e:Nat->Ed}{B:Nat}:∀k,(∀i,i<=k->((e i).ax.natAbs<=B/\(e i).ay.natAbs<=B)/\(e i).bx.natAbs<=B/\(e i).by'.natAbs<=B)->((iM e k).natAbs<=B/\(jc e k).natAbs<=B)/\(jw e k).natAbs<=B/\(jO e k).natAbs<=B
 | 0,h=>by
  have:=h 0 (Nat.le_refl 0);unfold iM jc jw jO;omega|k+1,h=>by
  have:=UR k λi hi=>h i (by omega)
  have:=h (k+1) (Nat.le_refl _);unfold iM jc jw jO;omega
def Lq(B:Nat)(s:Sh):Prop:=∀i,i<s.n->(((s.e i).ax.natAbs<=B/\(s.e i).ay.natAbs<=B)/\(s.e i).bx.natAbs<=B/\(s.e i).by'.natAbs<=B)/\(s.e i).cx.natAbs<=B/\(s.e i).cy.natAbs<=B
theorem QU{o:Sh}(hn:o.n=3\/o.n=4\/o.n=8)(hr:o.r=0)(h:Lq 4000 o):rB o where
 mv:=λt h0 h1=>⟨by show o.n=1\/_;omega,λi hi=>by
  obtain⟨⟨⟨a1,a2⟩,a3,a4⟩,a5,a6⟩:=h i hi;have c0:4000<=fb:=by decide
  have z:(0:Int).natAbs<=fb:=Nat.zero_le _;exact⟨rfl,⟨⟨⟨z,z⟩,by simp only;omega⟩,by simp only;omega,by simp only;omega⟩,⟨⟨⟨z,z⟩,by simp only;omega⟩,by simp only;omega,by simp only;omega⟩,⟨⟨⟨z,z⟩,by simp only;omega⟩,by simp only;omega,by simp only;omega⟩⟩⟩
 bx:=λt h0 h1=>by
  have b:=UR (e:=λi=>eC ⟨0,0,t,false⟩ (o.e i)) (B:=4000) (o.n-1) λi hi=>by
   obtain⟨⟨⟨a1,a2⟩,a3,a4⟩,_⟩:=h i (by omega);exact⟨Qh ⟨h0,h1⟩ a1 a2,Qh ⟨h0,h1⟩ a3 a4⟩
  exact⟨by show 1<=o.n;omega,by show o.n<=1000;omega,hr,b.1.1,b.1.2,b.2.1,b.2.2⟩
theorem Oq{s:Sh}(h:oo s):Lq 3000 s:=λi hi=>by
 have:=h.2.1 i hi;unfold pQ dJ at this;omega
theorem a2V(c:Cs):rB (qM c):=by
 unfold qM;split
 ·rename_i h;have f:=uj c.o;exact QU (a1a c.o h) (f.1.r.2 h) λi hi=>by have:=Oq f i hi;omega
 ·exact QU (.inr (.inl rfl)) rfl λi hi=>by
   have:=Oq (DW (x:=0) (y:=0) (u:=60) (v:=30) (by omega) (by omega) (by omega) (by omega)) i hi;omega
def OP:FuncId:=11
def LC:List ah:=[MX,Gi,Yh]
def eH(c:Cs):Pnl:=Jj (qM c) c.p
theorem a1n(c:Cs):ae Tryz.prog OP [tA c] (.tup [bf (qM c),ff (eH c)]):=by
 have ho:=a2V c;unfold eH;by_cases h:(bS c.o).k=2
 ·have e : qM c = bS c.o := by unfold qM; rw [if_pos h]
  rw[e] at ho ⊢;exact qp [aJ,dZ] LC [false] [pF (eD h),pP ho,bN (bS c.o)] (by kernel_rfl)
 ·have e : qM c = jK 0 0 60 30 := by unfold qM; rw [if_neg h]
  rw[e] at ho ⊢;exact qp [aJ,dZ] LC [true] [pT (o8 h),pP ho,bN (jK 0 0 60 30)] (by kernel_rfl)
end
set_option maxRecDepth 100000
section
def Ep(l:List It):Option (Sh×List Prop) :=
 match l with|[i,.fs _ m n z,k]=>(match asI i,asI k with|some x,some y=>if z=7/\(m.all λi=>i.n==1)=true/\((List.range n).all λi=>qz ((m.drop (i*7)).take 7))=true then some (⟨x.1,n,λi=>qj ((m.drop (i*7)).take 7),y.1⟩,[]) else none|_,_=>none)|l=>oe l
theorem Us{V W:World}{r:Nat->Nat}{k:Nat}{l:List It}{s:Sh}{ps:List Prop}{x:Value}(h:Ep l=some (s,ps))(hp:aw ps)(hr:au V W r k ⟨true,l⟩ x):au V W r k (bh s) x:=by
 unfold Ep at h;split at h
 ·rename_i i o m n z k;split at h
  ·rename_i x y hx hy;split at h
   ·rename_i hc;obtain⟨rfl,c1,c2⟩:=hc;cases h;have ht:oe [i,.fs o m n 7,k]=some (⟨x.1,n,λi=>qj ((m.drop (i*7)).take 7),y.1⟩,[∀i,i<n->qz ((m.drop (i*7)).take 7)=true]):=by
     unfold oe td;simp only[hx,hy,c1,and_self,if_true]
    exact wZ ht ⟨λi hi=>List.all_eq_true.1 c2 i (List.mem_range.2 hi),trivial⟩ hr
   ·cases h
  ·cases h
 ·exact wZ h hp hr
def TP(f:FuncId)(g:Sh->Sh->AV)(h:∀s u,ae Tryz.prog f [bh s,bh u] (g s u)):ah where
 f:=f
 g:=λ| [⟨true,l⟩,⟨true,m⟩]=>(match Ep l,Ep m with|some z,some y=>some (g z.1 y.1,z.2++y.2)|_,_=>none)|_=>none
 ok:=by
  intro args res ps h' hp
  split at h'<;>try cases h'
  split at h'<;>cases h'
  rename_i he hq
  obtain⟨p1,p2⟩:=aw.app hp
  exact (h _ _).pre λW=>aU (λv hv=>Us he p1 hv) (aU (λv hv=>Us hq p2 hv) dY)
def Wj:ah:=TP 32 (λs u=>we (sF s u)) ZU
def Nu(g:Gp)(z:Int):Int:=eE g.d ⟨z,0,zero,ai 1⟩
def mW(a b:Sh):Bool:=(sF a b).2&&decide (Nu (sF a b).1 0<=0)
def LJ:List ah:=[Wj,MW]
theorem a6T(s u:Sh):ae Tryz.prog 35 [bh s,bh u] (.one (aN (mW s u))):=by
 cases h:(sF s u).2 with|false=>exact ae.bb (show mW s u=false by unfold mW;rw[h];rfl) (ad LJ [false] [bN s,bN u,pF h] (by kernel_rfl))|true=>exact ae.bb (show mW s u=decide (Nu (sF s u).1 0<=0) by unfold mW;rw[h];rfl) (ad LJ [true] [bN s,bN u,pT h] (by kernel_rfl))
def WM:ah:=TP 35 (λs u=>.one (aN (mW s u))) a6T
end
set_option maxRecDepth 100000
section
def yB:FuncId:=27
def EO:List FuncId:=[66,67,69,71,72,74,75,76,78,79,80,82,83,73,77,81]
def EN:List FuncId:=[125,127,126,186]
def yA:FuncId:=84
def ES:List ah:=[MU,WM]
def jZ(i:Int)(n:Nat)(h:0<=i/\i<(n:Int)):Pf:=⟨0<=i/\i<(n:Int),h⟩
theorem VC(C M:Nat->Sh)(h:(C 0).n<=1000):ae Tryz.prog yA [cN 3 bY 1 C,cN 3 bY 0 M] (.one (aN true)) :=
  vE [aJ] ES EN [true,false,false,false] [pT (show decide ((0:Int)<((1:Nat):Int))=true by decide),jZ 0 1 (by decide),bN (C 0),pP h,pP (show 0<=(0:Int)/\(0:Int)<=((1:Nat):Int) by decide),pF (show decide ((0:Int)<(((0:Int).toNat:Nat):Int))=false by decide),pF (show decide ((0:Int)<((0:Nat):Int))=false by decide),pF (show decide ((0:Int)+1<((1:Nat):Int))=false by decide)] (by kernel_rfl)
def nI(i:Int)(n:Nat)(h:decide (i<(n:Int))=true):Pf:=pT h
def kV(i:Int)(n:Nat)(h:decide (i<(n:Int))=false):Pf:=pF h
def Pz(i:Int)(n:Nat)(h:0<=i/\i<=(n:Int)):Pf:=⟨0<=i/\i<=(n:Int),h⟩
def LY(C M:Nat->Sh)(n0:(C 0).n<=1000)(n1:(C 1).n<=1000)(t0:mW (C 0) (M 0)=false):List Pf :=
  [nI 0 2 (by decide),jZ 0 2 (by decide),bN (C 0),pP n0,Pz 0 2 (by decide),kV 0 (0:Int).toNat (by decide),nI 0 1 (by decide),jZ 0 1 (by decide),bN (C 0),bN (M 0),pF t0,kV (0+1) 1 (by decide),
   nI (0+1) 2 (by decide),jZ (0+1) 2 (by decide),bN (C 1),pP n1,Pz (0+1) 2 (by decide),nI 0 ((0:Int)+1).toNat (by decide),jZ 0 ((0:Int)+1).toNat (by decide),bN (C 0),pP n0]
theorem VD(C M:Nat->Sh)(n0:(C 0).n<=1000)(n1:(C 1).n<=1000)(t0:mW (C 0) (M 0)=false)(x:decide (lA (C 1)<=lB (C 0))=false)(t1:mW (C 1) (M 0)=false):ae Tryz.prog yA [cN 3 bY 2 C,cN 3 bY 1 M] (.one (aN true)) :=
  vE [aJ] ES EN [true,false,true,false,false,true,true,false,false,true,false,false,false] (LY C M n0 n1 t0++[pF x,kV (0+1) ((0:Int)+1).toNat (by decide),nI 0 1 (by decide),jZ 0 1 (by decide),bN (C 1),bN (M 0),pF t1,kV (0+1) 1 (by decide),kV (0+1+1) 2 (by decide)]) (by kernel_rfl)
theorem VE(C M:Nat->Sh)(n0:(C 0).n<=1000)(n1:(C 1).n<=1000)(t0:mW (C 0) (M 0)=false)(x1:decide (lA (C 1)<=lB (C 0))=true)(x2:decide (lA (C 0)<=lB (C 1))=true)(x3:decide (oH (C 1)<=oI (C 0))=true)(x4:decide (oH (C 0)<=oI (C 1))=true):ae Tryz.prog yA [cN 3 bY 2 C,cN 3 bY 1 M] (.one (aN false)) :=
  vE [aJ] ES EN [true,false,true,false,false,true,true,true,true,true,true] (LY C M n0 n1 t0++[pT x1,pT x2,pT x3,pT x4]) (by kernel_rfl)
def xR(L:Nat×(Nat->Sh)):Bool:=if L.1=2 then !(decide (lA (L.2 1)<=lB (L.2 0))) else true
def xj(L R:Nat×(Nat->Sh)):Prop :=
  (L.1=1/\R.1=0/\(L.2 0).n<=1000)\/(L.1=2/\R.1=1/\((L.2 0).n<=1000/\(L.2 1).n<=1000/\mW (L.2 0) (R.2 0)=false) /\
    ((decide (lA (L.2 1)<=lB (L.2 0))=false/\mW (L.2 1) (R.2 0)=false)\/(decide (lA (L.2 1)<=lB (L.2 0))=true/\decide (lA (L.2 0)<=lB (L.2 1))=true/\decide (oH (L.2 1)<=oI (L.2 0))=true/\decide (oH (L.2 0)<=oI (L.2 1))=true)))
theorem VG(L R:Nat×(Nat->Sh))(h:xj L R):ae Tryz.prog yA [cN 3 bY L.1 L.2,cN 3 bY R.1 R.2] (.one (aN (xR L))):=by
  obtain⟨n,C⟩:=L;obtain⟨m,M⟩:=R;unfold xj at h;simp only at h;rcases h with⟨rfl,rfl,h⟩|⟨rfl,rfl,⟨n0,n1,t0⟩,h⟩
  . exact VC C M h
  . unfold xR;simp only[if_true];rcases h with⟨x,t1⟩|⟨x1,x2,x3,x4⟩
    . rw[x];exact VD C M n0 n1 t0 x t1
    . rw[x1];exact VE C M n0 n1 t0 x1 x2 x3 x4
def V7:ah:=gi NY NY yA (λL _=>.one (aN (xR L))) (λL R=>[xj L R]) λL R h=>VG L R h.1
def ET:List ah:=[FQ,M7,Bf,V7]
end
end Go.Proofs.YtghemgdfmldoeaaGreat
set_option maxRecDepth 100000
namespace Go.Proofs.YtghemgdfmldoeaaGreat.W
open Go.RowKit
def zX:Nat->List It:=λi=>([[.k 0,.k 0,.k 0,.b false]].getD i []).map dB
theorem a5g:ae Tryz.prog 26 [] (.one ⟨true,[.ol 74 4 1 zX,g8,g8,.i 0 lim]⟩):=qp [aJ] [] [] [] (by kernel_rfl)
def ze:Pnl:=⟨1,λi=>vV (zX i),0,λi=>gK ([]),0,λi=>wA ([]),0⟩
def fSame:FuncId:=24
def TM(m:bG):List Sc:=[.i m.x,.i m.y,.i m.t,.b m.m]
theorem a5F:ae Tryz.prog fSame [Go.Proofs.YtghemgdfmldoeaaGreat.panV mQ,Go.Proofs.YtghemgdfmldoeaaGreat.panV ze] (.one (aN true)) :=
 qp [] [] [false,false,false,false,false,true,false,false,false] [pF (show (((1:Nat):Int) != ((1:Nat):Int))=false by decide),pF (show (((0:Nat):Int) != ((0:Nat):Int))=false by decide),pF (show ((0:Int) != 0)=false by decide),pF (show (((0:Nat):Int) != ((0:Nat):Int))=false by decide),kV 0 0 (by decide),nI 0 1 (by decide),jZ 0 1 (by decide),jZ 0 1 (by decide),pF (show (!dk (TM (mQ.c 0)) (TM (ze.c 0)))=false by decide),kV (0+1) 1 (by decide),kV 0 0 (by decide)] (by kernel_rfl)
end Go.Proofs.YtghemgdfmldoeaaGreat.W
namespace Go.Proofs.YtghemgdfmldoeaaGreat
open Go.RowKit
set_option maxRecDepth 100000
section
def mvR(m:bG)(s:Sh):List It:=[.i (j0 m s).k lim,fW (j0 m s).n (j0 m s).e,.i (j0 m s).r lim]
def rI(m:bG)(s:Sh):Nat->List It:=λj=>([mvR m s].getD j []).map dB
def fZ:bG:=⟨0,0,0,false⟩
def EC(n:Nat)(h:0<=IntKind.i64.wrap ((n:Int)-1)/\IntKind.i64.wrap ((n:Int)-1)<(n:Int)):Pf:=⟨_,h⟩
def Am:Nat->List It:=λ_=>[]
theorem Ya(m:bG)(s:Sh):∀j,j<1->rI m s j=bY (gK (rI m s j)):=λj hj=>by
  obtain rfl:j=0:=Nat.lt_one_iff.1 hj;rfl
structure xk (m:bG) (s:Sh):Prop where
  k:s.k=2
  c:bD s=0
  mv:uX s m
  d:bD (j0 m s)=0
theorem X9(s:Sh)(h:xk fZ s):xj (1,λj=>gK (rI fZ s j)) (0,λj=>gK (Am j)):=.inl ⟨rfl,rfl,h.mv.hi⟩
theorem Xq(o:Sh)(h:xk fZ o):ae Tryz.prog yB [panV mQ,bh o] (.one (aj 0 lim)) :=
  vE [aJ] ET EO [false,true,true,true,true,false,false,false,false,false,true,true,false,true,false,true]
    [bN o,pF (eD h.c),pT (xX h.k),pT (show decide (((1:Nat):Int)>0)=true by decide),pT (show decide (((1:Nat):Int)<=8)=true by decide),nI 0 1 (by decide),jZ 0 1 (by decide),pF (show fZ.m=false from rfl),pF (show decide (fZ.t<0)=false by decide),pF (show decide (fZ.t>3)=false by decide),pP h.mv,bN o,pP (show 1<=1000 by decide),EC 1 (by decide),bN (j0 fZ o),pF (eD h.d),kV (0+1) 1 (by decide),
     pT (show decide (((0:Nat):Int)<=40)=true by decide),pT (show decide (((0:Nat):Int)<=16)=true by decide),kV 0 0 (by decide),pT (show ((((0:Nat):Int))==0)=true by decide),kV 0 0 (by decide),pP (X9 o h),⟨∀j,j<1->rI fZ o j=bY (gK (rI fZ o j)),Ya fZ o⟩,⟨∀j,j<0->Am j=bY (gK (Am j)),λj hj=>absurd hj (Nat.not_lt_zero j)⟩,pT (show xR (1,λj=>gK (rI fZ o j))=true from rfl)] (by kernel_rfl)
def nL(x:Int):bG:=⟨x,0,1,false⟩
def lE:Sh:=⟨1,1,λ_=>⟨1,45,0,45,20,0,0⟩,1⟩
def lD(x:Int):Pnl:=⟨2,λj=>[fZ,nL x].getD j fZ,1,λ_=>lE,1,λ_=>(45,50),3⟩
def vm(m m':bG)(s:Sh):Nat->List It:=iw 1 (rI m s) (rI m' s)
theorem X8(m m':bG)(s:Sh):∀j,j<2->vm m m' s j=bY (gK (vm m m' s j)):=λj hj=>by
  rcases (by omega:j=0\/j=1) with rfl|rfl<;>rfl
def rQ:Sh:=fB 45 50 3
def YB:List It:=[.i rQ.k lim,fW rQ.n rQ.e,.i rQ.r lim]
def yk:Nat->List It:=λj=>([YB].getD j []).map dB
theorem YC:∀j,j<1->yk j=bY (gK (yk j)):=λj hj=>by
  obtain rfl:j=0:=Nat.lt_one_iff.1 hj;rfl
structure xn (x:Int) (o:Sh):Prop where
  o0:xk fZ o
  o1:xk (nL x) o
  ap:xj (2,λj=>gK (vm fZ (nL x) o j)) (1,λj=>gK (yk j))
theorem ZF:bD lE=0:=by decide
theorem ZA:bD rQ=0:=by decide
def BQ(x:Int)(o:Sh):Bool:=xR (2,λj=>gK (vm fZ (nL x) o j))
def OE(b:Bool):List Bool:=[false,true,true,true,true,false,false,false,false,true,false,false,false,false,false,true,true,true,false,true,true,false,false,true,true,true,false,false,b]
def OG(x:Int)(o:Sh)(h:xn x o):List Pf :=
  [bN o,pF (eD h.o0.c),pT (xX h.o0.k),pT (show decide (((2:Nat):Int)>0)=true by decide),pT (show decide (((2:Nat):Int)<=8)=true by decide),nI 0 2 (by decide),jZ 0 2 (by decide),pF (show fZ.m=false from rfl),pF (show decide (fZ.t<0)=false by decide),pF (show decide (fZ.t>3)=false by decide),pP h.o0.mv,bN o,pP (show 1<=1000 by decide),EC 1 (by decide),bN (j0 fZ o),pF (eD h.o0.d),nI (0+1) 2 (by decide),jZ (0+1) 2 (by decide),
   pF (show (nL x).m=false from rfl),pF (show decide ((nL x).t<0)=false from rfl),pF (show decide ((nL x).t>3)=false from rfl),pP h.o1.mv,bN o,pP (show 1+1<=1000 by decide),pP (Nat.le_refl 1),EC (1+1) (by decide),bN (j0 (nL x) o),pF (eD h.o1.d),kV (0+1+1) 2 (by decide),
   pT (show decide (((1:Nat):Int)<=40)=true by decide),pT (show decide (((1:Nat):Int)<=16)=true by decide),nI 0 1 (by decide),jZ 0 1 (by decide),bN lE,pF (eD ZF),pT (xX (show lE.k=1 from rfl)),pT (show decide (lE.r>0)=true by decide),kV (0+1) 1 (by decide),pF (show (((1:Nat):Int)==0)=false by decide),pT (show decide ((3:Int) >= 1)=true by decide),pT (show decide ((3:Int)<=4194304)=true by decide),nI 0 1 (by decide),jZ 0 1 (by decide),
   pP (show 1<=1000 by decide),EC 1 (by decide),bN rQ,pF (eD ZA),kV (0+1) 1 (by decide),pP h.ap,⟨∀j,j<2->vm fZ (nL x) o j=bY (gK (vm fZ (nL x) o j)),X8 fZ (nL x) o⟩,⟨∀j,j<1->yk j=bY (gK (yk j)),YC⟩]
theorem Xn(x:Int)(o:Sh)(h:xn x o)(hq:BQ x o=true):ae Tryz.prog yB [panV (lD x),bh o] (.one (aj 0 lim)) :=
  vE [aJ] ET EO (OE true) (OG x o h++[pT hq]) (by kernel_rfl)
theorem Xm(x:Int)(o:Sh)(h:xn x o)(hq:BQ x o=false):ae Tryz.prog yB [panV (lD x),bh o] (.one (aj 74 lim)) :=
  vE [aJ] ET EO (OE false) (OG x o h++[pF hq]) (by kernel_rfl)
end
end Go.Proofs.YtghemgdfmldoeaaGreat
