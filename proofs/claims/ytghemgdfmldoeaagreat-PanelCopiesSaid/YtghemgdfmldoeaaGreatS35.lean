import Derived.Test.YtghemgdfmldoeaaGreatS34
import Derived.Test.YtghemgdfmldoeaaGreatS30
import Derived.Laws.MakeOwn
import Derived.OwnWalk
set_option linter.unusedVariables false
set_option linter.unusedSimpArgs false

namespace Go.Proofs.YtghemgdfmldoeaaGreat
open Go.RowKit

set_option maxRecDepth 100000
section
def mvS(m:Mot)(s:Sh):Sh:=movS s m.x m.y m.t m.m
structure MvOk (s:Sh) (m:Mot):Prop where
 lo:1<=s.n
 hi:s.n<=1000
 ok:∀i,i<s.n->(s.e i).ok=true
 x:m.x.natAbs<=c26
 y:m.y.natAbs<=c26
 t : -8<=m.t/\m.t<=8
theorem shmv_ok(s:Sh)(m:Mot)(h:MvOk s m):Fok Tryz.prog 29 [shpV s,⟨true,moI m⟩] (.one (shdV (mvS m s))):=by
 intro W vals hv
 obtain⟨v1,_,rfl,h1,v2,_,rfl,h2,rfl⟩:=hv
 obtain⟨p,c,rfl,hs⟩:=ShAt.of h1
 obtain⟨cs,⟨_,_,rfl,⟨rfl,_⟩,_,_,rfl,⟨rfl,_⟩,_,_,rfl,⟨rfl,_⟩,_,_,rfl,⟨rfl,_⟩,rfl⟩,rfl,_⟩:=h2
 refine (shMove s m.x m.y m.t m.m p c W hs h.lo h.hi h.ok h.x h.y h.t).mono ?_
 rintro e w' ⟨g,cp,rfl,⟨i1,i2⟩,hE,hx⟩
 exact⟨_,rfl,⟨_,⟨[_],_,rfl,⟨rfl,i64_lim i1,i1⟩,[_],_,rfl,⟨_,rfl,hE⟩,[_],[],rfl,⟨rfl,i64_lim i2,i2⟩,rfl⟩,rfl,nofun⟩,hx⟩
def cShMv:Con:=con2 dSh dMo 29 (fun s m=>.one (shdV (mvS m s))) (fun s m=>[MvOk s m]) fun s m h=>shmv_ok s m h.1
def drMv(p:Pnl)(n:Nat)(F:Nat->Drw)(i:Nat):Drw:=⟨mvS (p.c (i/n)) (F (i%n)).s,(F (i%n)).c⟩
def hoMv(p:Pnl)(n:Nat)(F:Nat->Hol)(i:Nat):Hol:=⟨mvS (p.c (i/n)) (F (i%n)).s,(F (i%n)).f,(F (i%n)).t,(F (i%n)).p⟩
def drR(p:Pnl)(F:Nat->Drw)(k j:Nat):List It:=[.i (F j).s.k lim,edD (mvS (p.c k) (F j).s).n (mvS (p.c k) (F j).s).e,.i (F j).s.r lim,.v (.bool (F j).c)]
def hoR(p:Pnl)(F:Nat->Hol)(k j:Nat):List It:=[.i (F j).s.k lim,edD (mvS (p.c k) (F j).s).n (mvS (p.c k) (F j).s).e,.i (F j).s.r lim,.i (F j).f lim,.i (F j).t lim,.v (.bool (F j).p)]
theorem dr_row(p:Pnl){n:Nat}(F:Nat->Drw){k j:Nat}(h:j<n):(drR p F k j).map nrmR=drI (drMv p n F (k*n+j)):=by
 obtain⟨e1,e2⟩:=dvm (k:=k) h
 unfold drI drMv
 rw[e1,e2]
 rfl
theorem ho_row(p:Pnl){n:Nat}(F:Nat->Hol){k j:Nat}(h:j<n):(hoR p F k j).map nrmR=hoI (hoMv p n F (k*n+j)):=by
 obtain⟨e1,e2⟩:=dvm (k:=k) h
 unfold hoI hoMv
 rw[e1,e2]
 rfl
def dr_f:FuncId:=57
def ho_f:FuncId:=59
def dr_g:FuncId:=56
def ho_g:FuncId:=60
abbrev dr_T:=Drw
abbrev ho_T:=Hol
abbrev dr_O:=drsO
abbrev ho_O:=hosO
abbrev dr_D:=dDrs
abbrev ho_D:=dHos
def KPm:List Con:=[cShMv]
structure RpOk (p:Pnl) (n:Nat) (S:Nat->Sh):Prop where
 nc:p.nc<=1000
 ln:n<=1000
 all:p.nc*n<=1000
 ok:∀k j,k<p.nc->j<n->MvOk (S j) (p.c k)
section
variable (p:Pnl) (n:Nat) (F:Nat->dr_T)
def drW(m:Nat):V1:=dr_O m (drMv p n F)
theorem dr_1(h:RpOk p n fun i=>(F i).s)(k:Nat)(hk:k<p.nc):OrcOk Tryz.prog (lpC dr_f 12) ⟨nF dr_f,rpI dr_g p (drL n F) (drW p n F) n k 0,.ex 2,rpE dr_g p (drL n F) (drW p n F) n k⟩ :=
 orc (X:=[xAll]) (K:=KPm) (f:=dr_f) (id:=12) (n:=nF dr_f) n (rpI dr_g p (drL n F) (drW p n F) n k) (fun _=>[]) (e:=.ex 2) (d1:=rpE dr_g p (drL n F) (drW p n F) n k) (by kernel_rfl) (fun _=>by kernel_rfl) (fun _ _=>LT.nil)
  (fun j hj=>⟨[true],[pT (ltT (show (j:Int)<(n:Int) by omega)),pP (show 0<=(j:Int)/\(j:Int)<(n:Int) by omega),pP (show 0<=(k:Int)/\(k:Int)<(p.nc:Int) by omega),pP (h.ok k j hk hj),pEd (F j).s,pP (tot h.all hk hj),qA drI (drMv p n F) (k*n+j) (k*n+(j+1)) (drR p F k j) (by omega) (dr_row p F hj),qZ k,qZ k,pR (drL n F),qZ n,pI j (by have:=h.ln;omega)]++qR dr_g p (drL n F),by kernel_rfl⟩)
  ⟨[false],[pF (ltF (show ¬(n:Int)<(n:Int) by omega)),qL drI (drMv p n F) (k*n+n) ((k+1)*n) (by rw[Nat.succ_mul]),qZ k]++qR dr_g p (drL n F),by kernel_rfl⟩ nofun
noncomputable def dr_t(k:Nat):List (Nat×Orc):=if k<p.nc then [(12,⟨nF dr_f,rpI dr_g p (drL n F) (drW p n F) n k 0,.ex 2,rpE dr_g p (drL n F) (drW p n F) n k⟩)] else []
theorem dr_2(h:RpOk p n fun i=>(F i).s):OrcOk Tryz.prog (lpC dr_f 6) ⟨nF dr_f,rpO dr_g p (drL n F) (drW p n F) n 0,.ex 0,rpZ (drW p n F) (p.nc*n)⟩ :=
 orc (X:=[xAll]) (K:=KPm) (f:=dr_f) (id:=6) (n:=nF dr_f) p.nc (rpO dr_g p (drL n F) (drW p n F) n) (fun k=>dr_t p n F k) (e:=.ex 0) (d1:=rpZ (drW p n F) (p.nc*n)) (by kernel_rfl) (fun k=>by unfold dr_t;by_cases h:k<p.nc<;>simp only[h,if_true,if_false]<;>kernel_rfl) (fun k _=>by
   unfold dr_t
   by_cases hk:k<p.nc
   ·rw[if_pos hk];exact LT.cons (dr_1 p n F h k hk) LT.nil
   ·rw[if_neg hk];exact LT.nil)
  (fun k hk => by
   unfold dr_t
   rw[if_pos hk]
   exact⟨[true],[pT (ltT (show (k:Int)<(p.nc:Int) by omega)),qL drI (drMv p n F) (k*n) (k*n+0) rfl,qZ k,qZ k,pR (drL n F),qZ n,q0]++qR dr_g p (drL n F)++[qL drI (drMv p n F) ((k+1)*n) ((k+1)*n) rfl,pI k (by have:=h.nc;omega)]++qR dr_g p (drL n F),by kernel_rfl⟩)
  (by
   unfold dr_t
   rw[if_neg (Nat.lt_irrefl _)]
   exact⟨[false],[pF (ltF (show ¬(p.nc:Int)<(p.nc:Int) by omega)),qL drI (drMv p n F) (p.nc*n) (p.nc*n) rfl],by kernel_rfl⟩) nofun
theorem dr_ok(h:RpOk p n fun i=>(F i).s):Fok Tryz.prog dr_f [panV p,drL n F,fnV dr_g] (.one (drW p n F (p.nc*n))) :=
 fokL [xAll] KPm [(6,⟨nF dr_f,rpO dr_g p (drL n F) (drW p n F) n 0,.ex 0,rpZ (drW p n F) (p.nc*n)⟩)] (LT.cons (dr_2 p n F h) LT.nil) [] ([⟨0*n=0,Nat.zero_mul n⟩,q0]++qR dr_g p (drL n F)) (by kernel_rfl)
end
def dr_C:Con:=con3 dPan dr_D (dFn dr_g) dr_f (fun p L _=>.one (drW p L.1 L.2 (p.nc*L.1))) (fun p L _=>[RpOk p L.1 fun i=>(L.2 i).s]) fun p L _ h=>dr_ok p L.1 L.2 h.1
section
variable (p:Pnl) (n:Nat) (F:Nat->ho_T)
def hoW(m:Nat):V1:=ho_O m (hoMv p n F)
theorem ho_1(h:RpOk p n fun i=>(F i).s)(k:Nat)(hk:k<p.nc):OrcOk Tryz.prog (lpC ho_f 12) ⟨nF ho_f,rpI ho_g p (hoL n F) (hoW p n F) n k 0,.ex 2,rpE ho_g p (hoL n F) (hoW p n F) n k⟩ :=
 orc (X:=[xAll]) (K:=KPm) (f:=ho_f) (id:=12) (n:=nF ho_f) n (rpI ho_g p (hoL n F) (hoW p n F) n k) (fun _=>[]) (e:=.ex 2) (d1:=rpE ho_g p (hoL n F) (hoW p n F) n k) (by kernel_rfl) (fun _=>by kernel_rfl) (fun _ _=>LT.nil)
  (fun j hj=>⟨[true],[pT (ltT (show (j:Int)<(n:Int) by omega)),pP (show 0<=(j:Int)/\(j:Int)<(n:Int) by omega),pP (show 0<=(k:Int)/\(k:Int)<(p.nc:Int) by omega),pP (h.ok k j hk hj),pEd (F j).s,pP (tot h.all hk hj),qA hoI (hoMv p n F) (k*n+j) (k*n+(j+1)) (hoR p F k j) (by omega) (ho_row p F hj),qZ k,qZ k,pR (hoL n F),qZ n,pI j (by have:=h.ln;omega)]++qR ho_g p (hoL n F),by kernel_rfl⟩)
  ⟨[false],[pF (ltF (show ¬(n:Int)<(n:Int) by omega)),qL hoI (hoMv p n F) (k*n+n) ((k+1)*n) (by rw[Nat.succ_mul]),qZ k]++qR ho_g p (hoL n F),by kernel_rfl⟩ nofun
noncomputable def ho_t(k:Nat):List (Nat×Orc):=if k<p.nc then [(12,⟨nF ho_f,rpI ho_g p (hoL n F) (hoW p n F) n k 0,.ex 2,rpE ho_g p (hoL n F) (hoW p n F) n k⟩)] else []
theorem ho_2(h:RpOk p n fun i=>(F i).s):OrcOk Tryz.prog (lpC ho_f 6) ⟨nF ho_f,rpO ho_g p (hoL n F) (hoW p n F) n 0,.ex 0,rpZ (hoW p n F) (p.nc*n)⟩ :=
 orc (X:=[xAll]) (K:=KPm) (f:=ho_f) (id:=6) (n:=nF ho_f) p.nc (rpO ho_g p (hoL n F) (hoW p n F) n) (fun k=>ho_t p n F k) (e:=.ex 0) (d1:=rpZ (hoW p n F) (p.nc*n)) (by kernel_rfl) (fun k=>by unfold ho_t;by_cases h:k<p.nc<;>simp only[h,if_true,if_false]<;>kernel_rfl) (fun k _=>by
   unfold ho_t
   by_cases hk:k<p.nc
   ·rw[if_pos hk];exact LT.cons (ho_1 p n F h k hk) LT.nil
   ·rw[if_neg hk];exact LT.nil)
  (fun k hk => by
   unfold ho_t
   rw[if_pos hk]
   exact⟨[true],[pT (ltT (show (k:Int)<(p.nc:Int) by omega)),qL hoI (hoMv p n F) (k*n) (k*n+0) rfl,qZ k,qZ k,pR (hoL n F),qZ n,q0]++qR ho_g p (hoL n F)++[qL hoI (hoMv p n F) ((k+1)*n) ((k+1)*n) rfl,pI k (by have:=h.nc;omega)]++qR ho_g p (hoL n F),by kernel_rfl⟩)
  (by
   unfold ho_t
   rw[if_neg (Nat.lt_irrefl _)]
   exact⟨[false],[pF (ltF (show ¬(p.nc:Int)<(p.nc:Int) by omega)),qL hoI (hoMv p n F) (p.nc*n) (p.nc*n) rfl],by kernel_rfl⟩) nofun
theorem ho_ok(h:RpOk p n fun i=>(F i).s):Fok Tryz.prog ho_f [panV p,hoL n F,fnV ho_g] (.one (hoW p n F (p.nc*n))) :=
 fokL [xAll] KPm [(6,⟨nF ho_f,rpO ho_g p (hoL n F) (hoW p n F) n 0,.ex 0,rpZ (hoW p n F) (p.nc*n)⟩)] (LT.cons (ho_2 p n F h) LT.nil) [] ([⟨0*n=0,Nat.zero_mul n⟩,q0]++qR ho_g p (hoL n F)) (by kernel_rfl)
end
def ho_C:Con:=con3 dPan ho_D (dFn ho_g) ho_f (fun p L _=>.one (hoW p L.1 L.2 (p.nc*L.1))) (fun p L _=>[RpOk p L.1 fun i=>(L.2 i).s]) fun p L _ h=>ho_ok p L.1 L.2 h.1
end

set_option maxRecDepth 100000
section
def drR1(n:Nat)(F:Nat->Drw):V1:=rowV 4 drI n F
theorem discP_fok(x y r:Int):Fok Tryz.prog 49 [⟨true,ptI (x,y)⟩,inV r lim] (.one (shdV (discS x y r))):=fokS [] [] [] [] (by kernel_rfl)
def dInt:Dec where
 α:=Int
 C:=fun z=>inV z lim
 d:=fun|⟨false,[.i z _]⟩=>some (z,[])|_=>none
 ok:=by
  intro v a ps h hp W x hr
  split at h<;>cases h
  obtain⟨cs,⟨_,_,rfl,⟨rfl,_,i⟩,rfl⟩,e,h⟩:=hr
  exact⟨_,⟨_,[],rfl,⟨rfl,i64_lim i,i⟩,rfl⟩,e,h⟩
def cDiscP:Con:=con2 dPt dInt 49 (fun p r=>.one (shdV (discS p.1 p.2 r))) (fun _ _=>[]) fun p r _=>discP_fok p.1 p.2 r
def frF(F:Nat->Drw):Nat->Nat
 | 0=>0
 | k+1=>if (F k).c then k+1 else frF F k
theorem frF_le(F:Nat->Drw):∀k,frF F k<=k
 | 0=>Nat.le_refl 0
 | k+1=>by
  unfold frF
  split
  ·exact Nat.le_refl _
  ·have:=frF_le F k;omega
def fDr:FuncId:=17
def dr1(p:Pnl)(n:Nat)(F:Nat->Drw)(o:Bool)(k:Nat):Ds:=⟨[(7,.le (inV (frF F k:Int) 2000)),(1,.eq (drR1 n F)),(2,.eq ⟨false,[.b o]⟩),(3,.eq (ptrN 0)),(14,.eq (drR1 n F)),(15,.le (inV (n:Int) lim)),(16,.le (inV (k:Int) 2000))],mbP p⟩
def dr1e(p:Pnl)(n:Nat)(F:Nat->Drw)(o:Bool):Ds:=⟨[(7,.le (inV (frF F n:Int) 2000)),(1,.eq (drR1 n F)),(2,.eq ⟨false,[.b o]⟩),(3,.eq (ptrN 0))],mbP p⟩
def qFr(F:Nat->Drw)(k:Nat)(z:Int)(h:z=frF F (k+1))(hb:k<1000):Pf:=⟨z=(frF F (k+1):Int)/\z.natAbs<=2000,h,by have:=frF_le F (k+1);omega⟩
def qO(o:Bool):Pf:=pR ⟨false,[.b o]⟩
theorem dr1_o(p:Pnl)(n:Nat)(F:Nat->Drw)(o:Bool)(hn:n<=1000):OrcOk Tryz.prog (lpC fDr 6) ⟨nF fDr,dr1 p n F o 0,.ex 0,dr1e p n F o⟩ :=
 orc (X:=[xAll]) (K:=[]) (f:=fDr) (id:=6) (n:=nF fDr) n (dr1 p n F o) (fun _=>[]) (e:=.ex 0) (d1:=dr1e p n F o) (by kernel_rfl) (fun _=>by kernel_rfl) (fun _ _=>LT.nil)
  (fun k hk => by
   have ih:0<=(k:Int)/\(k:Int)<(n:Int):=by omega
   cases h:(F k).c with
   | true=>exact⟨[true,true],[pT (ltT (show (k:Int)<(n:Int) by omega)),pP ih,pT h,qFr F k ((k:Int)+1) (by unfold frF;rw[h];rfl) (by omega),pR (drR1 n F),qO o,pR (ptrN 0),pR (drR1 n F),qZ n,pI k (by omega)]++qP p,by kernel_rfl⟩
   | false=>exact⟨[true,false],[pT (ltT (show (k:Int)<(n:Int) by omega)),pP ih,pF h,⟨(frF F k:Int)=frF F (k+1),by simp[frF,h]⟩,pR (drR1 n F),qO o,pR (ptrN 0),pR (drR1 n F),qZ n,pI k (by omega)]++qP p,by kernel_rfl⟩)
  ⟨[false],[pF (ltF (show ¬(n:Int)<(n:Int) by omega)),qZ (frF F n),pR (drR1 n F),qO o,pR (ptrN 0)]++qP p,by kernel_rfl⟩ nofun
def drB(p:Pnl)(n:Nat)(F:Nat->Drw)(i:Nat):Drw:=if i<p.nc*frF F n then drMv p (frF F n) F i else drMv p (n-frF F n) (fun j=>F (frF F n+j)) (i-p.nc*frF F n)
def drN(p:Pnl)(n:Nat)(F:Nat->Drw):Nat:=p.nc*frF F n+p.nc*(n-frF F n)
def drK(p:Pnl)(n:Nat)(F:Nat->Drw)(i:Nat):Drw:=if i<drN p n F then drB p n F i else ⟨discS (p.m (i-drN p n F)).1 (p.m (i-drN p n F)).2 p.r,false⟩
def dr2(p:Pnl)(n:Nat)(F:Nat->Drw)(k:Nat):Ds:=⟨[(11,.le (drsO (drN p n F+k) (drK p n F))),(3,.eq (ptrN 0)),(41,.eq (rowV 2 ptI p.nm p.m)),(42,.le (inV p.nm lim)),(43,.le (inV (k:Int) 2000))],mbP p⟩
def KDr:List Con:=[cDiscP,dr_C]
def dr2r(p:Pnl)(k:Nat):List It:=[.i (discS (p.m k).1 (p.m k).2 p.r).k lim,edD (discS (p.m k).1 (p.m k).2 p.r).n (discS (p.m k).1 (p.m k).2 p.r).e,.i (discS (p.m k).1 (p.m k).2 p.r).r lim,.b false]
theorem dr2_row(p:Pnl)(n:Nat)(F:Nat->Drw)(k:Nat):(dr2r p k).map nrmR=drI (drK p n F (drN p n F+k)):=by
 unfold drK
 rw[if_neg (by omega),Nat.add_sub_cancel_left]
 rfl
def dr2e(p:Pnl)(n:Nat)(F:Nat->Drw):Ds:=⟨[(11,.le (drsO (drN p n F+p.nm) (drK p n F)))],[]⟩
structure DrOk (p:Pnl) (n:Nat) (F:Nat->Drw):Prop where
 rp:RpOk p n fun i=>(F i).s
 nm:p.nc*n+p.nm<=1000
theorem drN_eq(p:Pnl)(n:Nat)(F:Nat->Drw):drN p n F=p.nc*n:=by
 have:=frF_le F n
 unfold drN
 rw[<- Nat.mul_add]
 congr 1
 omega
theorem dr2_o(p:Pnl)(n:Nat)(F:Nat->Drw)(h:DrOk p n F):OrcOk Tryz.prog (lpC fDr 24) ⟨nF fDr,dr2 p n F 0,.ex 2,dr2e p n F⟩ :=
 orc (X:=[xAll]) (K:=KDr) (f:=fDr) (id:=24) (n:=nF fDr) p.nm (dr2 p n F) (fun _=>[]) (e:=.ex 2) (d1:=dr2e p n F) (by kernel_rfl) (fun _=>by kernel_rfl) (fun _ _=>LT.nil)
  (fun k hk => by
   have hN:=drN_eq p n F
   have hm:=h.nm
   exact⟨[true],[pT (ltT (show (k:Int)<(p.nm:Int) by omega)),pP (show 0<=(k:Int)/\(k:Int)<(p.nm:Int) by omega),pP (show drN p n F+k+1<=1000 by omega),qA drI (drK p n F) (drN p n F+k) (drN p n F+(k+1)) (dr2r p k) rfl (dr2_row p n F k),pR (ptrN 0),pR (rowV 2 ptI p.nm p.m),qZ p.nm,pI k (by omega)]++qP p,by kernel_rfl⟩)
  ⟨[false],[pF (ltF (show ¬(p.nm:Int)<(p.nm:Int) by omega)),qL drI (drK p n F) (drN p n F+p.nm) (drN p n F+p.nm) rfl],by kernel_rfl⟩ nofun
theorem ol_v{V W:World}{T:TypeId}{z n:Nat}{f g:Nat->List It}{x:Value}(h:∀i,i<n->f i=g i)(hr:RepA V W (fun _=>0) 0 (.one ⟨false,[.ol T z n f]⟩) x):RepA V W (fun _=>0) 0 (.one ⟨false,[.ol T z n g]⟩) x:=by
 obtain⟨cs,⟨c1,_,e1,h1,h2⟩,h3⟩:=hr
 exact⟨cs,⟨c1,_,e1,by obtain⟨v,e,h1⟩:=h1;exact⟨v,e,ol_cg (fun i hi cs hc=>by rw[<- h i hi];exact hc) h1⟩,h2⟩,h3⟩
def qPO(p:Pnl):List Pf:=[⟨∀j,j<p.nc->moI (p.c j)=moI (p.c j),fun _ _=>rfl⟩,⟨∀j,j<p.nt->shIs (p.t j)=shIs (p.t j),fun _ _=>rfl⟩,⟨∀j,j<p.nm->ptI (p.m j)=ptI (p.m j),fun _ _=>rfl⟩]
def qDO(n:Nat)(F:Nat->Drw):Pf:=⟨∀j,j<n->drI (F j)=drI (F j),fun _ _=>rfl⟩
theorem RpOk.front{p:Pnl}{n:Nat}{S:Nat->Sh}(h:RpOk p n S){f:Nat}(hf:f<=n):RpOk p f S :=
 ⟨h.nc,by have:=h.ln;omega,Nat.le_trans (Nat.mul_le_mul_left _ hf) h.all,fun k j hk hj=>h.ok k j hk (by omega)⟩
theorem RpOk.back{p:Pnl}{n:Nat}{S:Nat->Sh}(h:RpOk p n S){f:Nat}(hf:f<=n):RpOk p (n-f) fun i=>S (f+i) :=
 ⟨h.nc,by have:=h.ln;omega,Nat.le_trans (Nat.mul_le_mul_left _ (by omega)) h.all,fun k j hk hj=>h.ok k (f+j) hk (by omega)⟩
def drRaw(p:Pnl)(n:Nat)(F:Nat->Drw):Nat->List It:=apF (p.nc*frF F n) (fun i=>drI (drMv p (frF F n) F i)) (fun i=>drI (drMv p (n-frF F n) (fun j=>F (frF F n+j)) i))
theorem drRaw_eq(p:Pnl)(n:Nat)(F:Nat->Drw)(i:Nat):drRaw p n F i=drI (drB p n F i):=by
 unfold drRaw apF drB
 split<;>rfl
theorem drRaw_k(p:Pnl)(n:Nat)(F:Nat->Drw)(i:Nat)(h:i<drN p n F):drRaw p n F i=drI (drK p n F i):=by
 rw[drRaw_eq]
 unfold drK
 rw[if_pos h]
def drPf(p:Pnl)(n:Nat)(F:Nat->Drw)(h:DrOk p n F):List Pf :=
 [pP (show 0<=(frF F n:Int)/\(frF F n:Int)<=(n:Int) by have:=frF_le F n;omega),pP (h.rp.front (frF_le F n))]++qPO p++[qDO (frF F n) F,pP (show 0<=(frF F n:Int)/\(frF F n:Int)<=(n:Int) by have:=frF_le F n;omega),pP (h.rp.back (frF_le F n))]++qPO p++[qDO (n-frF F n) fun j=>F (frF F n+j),pP (show p.nc*frF F n+p.nc*(n-frF F n)<=1000 by have:=drN_eq p n F;unfold drN at this;have:=h.nm;omega)]
def drPa(p:Pnl)(n:Nat)(F:Nat->Drw)(o:Bool):List Pf:=[q0,pR (drR1 n F),qO o,pR (ptrN 0),pR (drR1 n F),qZ n,q0]++qP p
noncomputable def drLp(p:Pnl)(n:Nat)(F:Nat->Drw)(o:Bool):List (Nat×Orc):=[(6,⟨nF fDr,dr1 p n F o 0,.ex 0,dr1e p n F o⟩),(24,⟨nF fDr,dr2 p n F 0,.ex 2,dr2e p n F⟩)]
theorem drLt(p:Pnl)(n:Nat)(F:Nat->Drw)(o:Bool)(h:DrOk p n F):LT fDr (drLp p n F o):=LT.cons (dr1_o p n F o h.rp.ln) (LT.cons (dr2_o p n F h) LT.nil)
theorem drT_ok(p:Pnl)(n:Nat)(F:Nat->Drw)(h:DrOk p n F):Fok Tryz.prog fDr [panV p,drR1 n F,⟨false,[.b true]⟩] (.one (drsO (drN p n F+p.nm) (drK p n F))) :=
 fokL [xAll] KDr (drLp p n F true) (drLt p n F true h) [] (drPa p n F true++drPf p n F h++[⟨p.nc*frF F n+p.nc*(n-frF F n)=drN p n F+0/\∀i,i<p.nc*frF F n+p.nc*(n-frF F n)->drRaw p n F i=(fun i=>drI (drK p n F i)) i,rfl,fun i hi=>drRaw_k p n F i hi⟩,pR (ptrN 0),pR (rowV 2 ptI p.nm p.m),qZ p.nm,q0]++qP p) (by kernel_rfl)
theorem drF_raw(p:Pnl)(n:Nat)(F:Nat->Drw)(h:DrOk p n F):Fok Tryz.prog fDr [panV p,drR1 n F,⟨false,[.b false]⟩] (.one ⟨false,[.ol 72 4 (drN p n F) (drRaw p n F)]⟩) :=
 fokL [xAll] KDr (drLp p n F false) (drLt p n F false h) [] (drPa p n F false++drPf p n F h) (by kernel_rfl)
theorem drF_ok(p:Pnl)(n:Nat)(F:Nat->Drw)(h:DrOk p n F):Fok Tryz.prog fDr [panV p,drR1 n F,⟨false,[.b false]⟩] (.one (drsO (drN p n F) (drK p n F))) :=
 (drF_raw p n F h).mono fun V W x hr=>ol_v (fun i hi=>drRaw_k p n F i hi) hr
end

set_option maxRecDepth 100000
section
def fCl:FuncId:=61
theorem z0I:I64 0:=by unfold I64;omega
theorem clone_ok(n:Nat)(e:Nat->Ed)(h1:1<=n)(hn:n<=1000):Fok Tryz.prog fCl [⟨false,[roE n e]⟩] (.one ⟨false,[edD n e]⟩):=by
 intro W vals hv
 obtain⟨v,_,rfl,⟨cs,⟨_,_,rfl,⟨u,rfl,hr⟩,rfl⟩,rfl,_⟩,rfl⟩:=hv
 obtain⟨p,c,rfl,k1,k2,k3⟩:=id hr
 have S:ShAt W ⟨0,n,e,0⟩ p c:=⟨z0I,z0I,k1,k2,hr⟩
 refine (cloneEd n e p c W S.edr h1 hn).mono ?_
 rintro x w' ⟨_,rfl,g,c',cur,rfl,_,hb,h2,h3,h4,hx⟩
 have hsz:n*7<=cur.size:=by
  have:=congrArg List.length h4
  rw[rowL_len,List.length_take,Array.length_toList] at this
  omega
 refine⟨_,rfl,⟨_,⟨[_],[],rfl,⟨_,rfl,_,c',rfl,h2,h3,fun i hi=>⟨g,0,cur,(0,0),rfl,hb,?_,⟨cur.toList.drop (i*7+7),?_⟩,?_⟩⟩,rfl⟩,rfl,fun _=>rfl⟩,hx⟩
 ·have := Nat.mul_le_mul_right 7 (show i + 1 <= n from hi)
  omega
 ·have e1 : cur.toList = rowL e n ++ cur.toList.drop (n * 7) := by rw [<- h4, List.take_append_drop]
  have:=row_mid e hi (cur.toList.drop (n*7))
  rw[<- e1] at this
  rw[Nat.zero_add,<- List.drop_drop]
  show _=edL (e i)++_
  rw[<- this,List.take_append_drop]
 ·obtain ⟨g, o, xs, T, _, _, _, cs, d, _, k⟩ := k3 i hi
  exact (repF_ints (l:=e7 (e i)) k).2
def dEds:Dec where
 α:=Nat×(Nat->Ed)
 C:=fun a=>⟨false,[roE a.1 a.2]⟩
 d:=fun|⟨false,[i]⟩=>(toRo i).map fun nf=>((nf.1,fun j=>edAt (nf.2 j)),[∀j,j<nf.1->isEd (nf.2 j)=true])|_=>none
 ok:=by
  intro v a ps h hp W x hr
  split at h
  ·rename_i i
   cases hq:toRo i with
   | none=>simp[hq] at h
   | some nf =>
    obtain⟨n,f⟩:=nf
    simp only[hq,Option.map_some,Option.some.injEq,Prod.mk.injEq] at h
    obtain⟨rfl,rfl⟩:=h
    exact RepI.val (toRo_rep hq hp.1 hr.scal)
  ·cases h
def cClo:Con:=con1 dEds fCl (fun a=>.one ⟨false,[edD a.1 a.2]⟩) (fun a=>[1<=a.1/\a.1<=1000]) fun a h=>clone_ok a.1 a.2 h.1.1 h.1.2
def fHo:FuncId:=20
def KHoP:List Con:=[cClo,ho_C]
def hoK(p:Pnl)(n:Nat)(F:Nat->Hol)(y:Int)(i:Nat):Hol:=if i<p.nc*n then hoMv p n F i else ⟨p.t (i-p.nc*n),1,y,false⟩
def hoS(p:Pnl)(n:Nat)(F:Nat->Hol)(y:Int)(k:Nat):Ds:=⟨[(7,.le (hosO (p.nc*n+k) (hoK p n F y))),(2,.eq (inV y lim)),(3,.eq (ptrN 0)),(14,.eq (rowV 3 shIs p.nt p.t)),(15,.le (inV p.nt lim)),(16,.le (inV (k:Int) 2000))],mbP p⟩
def hoSr(p:Pnl)(y:Int)(k:Nat):List It:=[.i (p.t k).k lim,edD (p.t k).n (p.t k).e,.i (p.t k).r lim,.k 1,.i y lim,.b false]
theorem hoS_row(p:Pnl)(n:Nat)(F:Nat->Hol)(y:Int)(k:Nat):(hoSr p y k).map nrmR=hoI (hoK p n F y (p.nc*n+k)):=by
 unfold hoK
 rw[if_neg (by omega),Nat.add_sub_cancel_left]
 rfl
def hoSe(p:Pnl)(n:Nat)(F:Nat->Hol)(y:Int):Ds:=⟨[(7,.le (hosO (p.nc*n+p.nt) (hoK p n F y)))],[]⟩
structure HoOk (p:Pnl) (n:Nat) (F:Nat->Hol):Prop where
 rp:RpOk p n fun i=>(F i).s
 nt:p.nc*n+p.nt<=1000
 t:∀i,i<p.nt->1<=(p.t i).n/\(p.t i).n<=1000
theorem hoS_o(p:Pnl)(n:Nat)(F:Nat->Hol)(y:Int)(h:HoOk p n F):OrcOk Tryz.prog (lpC fHo 6) ⟨nF fHo,hoS p n F y 0,.ex 0,hoSe p n F y⟩ :=
 orc (X:=[xAll]) (K:=KHoP) (f:=fHo) (id:=6) (n:=nF fHo) p.nt (hoS p n F y) (fun _=>[]) (e:=.ex 0) (d1:=hoSe p n F y) (by kernel_rfl) (fun _=>by kernel_rfl) (fun _ _=>LT.nil)
  (fun k hk => by
   have hm:=h.nt
   exact⟨[true],[pT (ltT (show (k:Int)<(p.nt:Int) by omega)),pP (show 0<=(k:Int)/\(k:Int)<(p.nt:Int) by omega),pP (h.t k hk),pEd (p.t k),pP (show p.nc*n+k+1<=1000 by omega),qA hoI (hoK p n F y) (p.nc*n+k) (p.nc*n+(k+1)) (hoSr p y k) rfl (hoS_row p n F y k),pR (inV y lim),pR (ptrN 0),pR (rowV 3 shIs p.nt p.t),qZ p.nt,pI k (by omega)]++qP p,by kernel_rfl⟩)
  ⟨[false],[pF (ltF (show ¬(p.nt:Int)<(p.nt:Int) by omega)),qL hoI (hoK p n F y) (p.nc*n+p.nt) (p.nc*n+p.nt) rfl],by kernel_rfl⟩ nofun
theorem hoK_lo(p:Pnl)(n:Nat)(F:Nat->Hol)(y:Int)(i:Nat)(h:i<p.nc*n):(fun i=>hoI (hoMv p n F i)) i=(fun i=>hoI (hoK p n F y i)) i:=by
 show _=hoI (hoK p n F y i)
 unfold hoK
 rw[if_pos h]
theorem ho_fok(p:Pnl)(n:Nat)(F:Nat->Hol)(y:Int)(h:HoOk p n F):Fok Tryz.prog fHo [panV p,rowV 6 hoI n F,inV y lim] (.one (hosO (p.nc*n+p.nt) (hoK p n F y))) :=
 fokL [xAll] KHoP [(6,⟨nF fHo,hoS p n F y 0,.ex 0,hoSe p n F y⟩)] (LT.cons (hoS_o p n F y h) LT.nil) [] ([pP h.rp]++qPO p++[⟨∀j,j<n->hoI (F j)=hoI (F j),fun _ _=>rfl⟩,⟨p.nc*n=p.nc*n+0/\∀i,i<p.nc*n->(fun i=>hoI (hoMv p n F i)) i=(fun i=>hoI (hoK p n F y i)) i,rfl,fun i hi=>hoK_lo p n F y i hi⟩,pR (inV y lim),pR (ptrN 0),pR (rowV 3 shIs p.nt p.t),qZ p.nt,q0]++qP p) (by kernel_rfl)
def cHoles:Con:=con3 dPan dHos dIn fHo (fun p L y=>.one (hosO (p.nc*L.1+p.nt) (hoK p L.1 L.2 y))) (fun p L _=>[HoOk p L.1 L.2]) fun p L y h=>ho_fok p L.1 L.2 y h.1
end

set_option maxRecDepth 100000
section
theorem wpList_make1{P:Program}(w:World){ops:Array Oper}{rest:List Oper}{o:Oper}{a:Act}{Q:Exit->Act->World->Prop}
  (hg:o.guard=none) (l c:Operand) (t:TypeId) (hop:o.op=Op.makeSlice t l c)
  (e:TypeId) (i:TypeInfo) (z:Value) (n:Nat) (h1:P.underlying t=some (.slice e)) (h2:P.info? e=some i) (h3:i.zero=some z) (h4:i.size=n) (h5:i.bytes<=1000)
  (hl:a.eval l=.int .i64 1) (hc:a.eval c=.int .i64 1)
  (hK:wpList P ops Q rest (a.put o.dst (.slice (some ⟨w.heap.size,0,none⟩) 1 1)) (w.alloc (.cells (madeCells z.cells n) e))) :
  wpList P ops Q (o::rest) a w:=by
 refine wpList_plain hg fun K hK'=>?_
 have hr:=run_make (P:=P) w t e i z h1 h2 h3 .i64 .i64 1 1 (by decide) (by decide) (by omega) (by decide)
 unfold Oper.wp
 simp only[execOp,hop,hl,hc,Sem.run_bind,hr,Result.andThen,Sem.run_pure]
 rw[show (1:Int).toNat*i.size=n by rw[h4];simp]
 exact hK' _ _ hK
theorem made0:madeCells #[.int .i64 0,.int .i64 0,.int .i64 0,.bool false] 4=#[.int .i64 0,.int .i64 0,.int .i64 0,.bool false]:=by kernel_rfl
theorem infoMo:(Tryz.prog.info? 74).map (fun i=>(i.zero,i.size,i.bytes))=some (some (.agg #[.int .i64 0,.int .i64 0,.int .i64 0,.bool false]),4,32):=by kernel_rfl
def oneP:Pnl:=⟨1,fun _=>⟨0,0,0,false⟩,0,fun _=>⟨0,0,fun _=>⟨0,0,0,0,0,0,0⟩,0⟩,0,fun _=>(0,0),0⟩
theorem single_ok:Fok Tryz.prog 25 [] (.one (panO oneP)):=by
 rintro W _ rfl
 obtain⟨i,hi,hz0,hz1,hz2⟩:=info_parts infoMo
 go_enter Tryz.func25,Tryz.ntmps25
 go_wp2_with (at_make;refine wpList_make1 _ rfl _ _ 39 rfl 74 i (.agg #[.int .i64 0,.int .i64 0,.int .i64 0,.bool false]) 4 Tryz.underlying39 hi hz0 hz1 (by omega) rfl rfl ?_)
 rw[made0]
 refine bodyPost_ret (v:=.agg #[.slice (some ⟨W.heap.size+1,0,none⟩) 1 1,.slice none 0 0,.slice none 0 0,.int .i64 0]) (by simp only[results,Tryz.results25];go_simp) rfl ?_
 refine⟨_,rfl,⟨_,⟨[_],_,rfl,⟨_,rfl,.inr ⟨W.heap.size+1,1,_,rfl,⟨by omega,fun b hb=>absurd hb (Nat.not_lt_zero _)⟩,heap_new (by simp),Nat.le_refl _,by unfold maxLen;omega,rfl,?_,fun i hi=>?_⟩⟩,[_],_,rfl,⟨_,rfl,.inl ⟨rfl,rfl⟩⟩,[_],_,rfl,⟨_,rfl,.inl ⟨rfl,rfl⟩⟩,[_],[],rfl,⟨rfl,by decide,z0I⟩,rfl⟩,rfl,nofun⟩,((Below.refl _ _).alloc (Nat.le_refl _) _).alloc (by simp) _⟩
 ·intro v hv
  simp only[List.mem_cons,List.not_mem_nil,or_false] at hv
  rcases hv with rfl|rfl|rfl|rfl<;>exact fun z h=>nomatch h
 ·obtain rfl : i = 0 := Nat.lt_one_iff.1 hi
  exact⟨_,[],rfl,rfl,[_],_,rfl,⟨rfl,by decide,z0I⟩,[_],_,rfl,⟨rfl,by decide,z0I⟩,[_],_,rfl,⟨rfl,by decide,z0I⟩,[_],[],rfl,⟨rfl,rfl⟩,rfl⟩
def cSingle:Con where
 f:=25
 g:=fun | []=>some (.one (panO oneP),[])|_=>none
 ok:=by
  intro args res ps h hp
  split at h<;>cases h
  exact single_ok
end

set_option maxRecDepth 100000
section
def outQ(c:Cs):Sh:=if (madeS c.o).k=2 then madeS c.o else rectS 0 0 60 30
theorem madeS_n(L:List Int)(h:(madeS L).k=2):(madeS L).n=3\/(madeS L).n=4\/(madeS L).n=8:=by
 unfold madeS at *
 simp only at *
 split
 ·exact .inr (.inl rfl)
 split
 ·exact .inr (.inr rfl)
 split
 ·exact .inl rfl
 exfalso
 rename_i h1 h2 h3
 rw[if_neg h1,if_neg h2,if_neg h3] at h
 split at h<;>cases h
theorem mv0_bd{t x y:Int}{B:Nat}(ht:0<=t/\t<4)(hx:x.natAbs<=B)(hy:y.natAbs<=B):(mvP ⟨0,0,t,false⟩ (x,y)).1.natAbs<=B/\(mvP ⟨0,0,t,false⟩ (x,y)).2.natAbs<=B:=by
 unfold mvP
 have m0:modZ 0 4=0:=by decide
 have m1:modZ 1 4=1:=by decide
 have m2:modZ 2 4=2:=by decide
 have m3:modZ 3 4=3:=by decide
 obtain rfl|rfl|rfl|rfl:t=0\/t=1\/t=2\/t=3:=by omega
 all_goals
  simp only[tn0 m0,tn1 m1,tn2 m2,tn3 m3,Bool.false_eq_true,if_false]
  omega
theorem xN_bd{e:Nat->Ed}{B:Nat}:∀k,(∀i,i<=k->((e i).ax.natAbs<=B/\(e i).ay.natAbs<=B)/\(e i).bx.natAbs<=B/\(e i).by'.natAbs<=B)->((x0N e k).natAbs<=B/\(y0N e k).natAbs<=B)/\(x1N e k).natAbs<=B/\(y1N e k).natAbs<=B
 | 0,h=>by
  have:=h 0 (Nat.le_refl 0)
  unfold x0N y0N x1N y1N
  omega
 | k+1,h=>by
  have:=xN_bd k fun i hi=>h i (by omega)
  have:=h (k+1) (Nat.le_refl _)
  unfold x0N y0N x1N y1N
  omega
def EndsB(B:Nat)(s:Sh):Prop:=∀i,i<s.n->(((s.e i).ax.natAbs<=B/\(s.e i).ay.natAbs<=B)/\(s.e i).bx.natAbs<=B/\(s.e i).by'.natAbs<=B)/\(s.e i).cx.natAbs<=B/\(s.e i).cy.natAbs<=B
theorem outOk_of{o:Sh}(hn:o.n=3\/o.n=4\/o.n=8)(hr:o.r=0)(h:EndsB 4000 o):OutOk o where
 mv:=fun t h0 h1=>⟨by show o.n=1\/_;omega,fun i hi=>by
  obtain⟨⟨⟨a1,a2⟩,a3,a4⟩,a5,a6⟩:=h i hi
  have c0:4000<=c40:=by decide
  have z:(0:Int).natAbs<=c40:=Nat.zero_le _
  exact⟨rfl,⟨⟨⟨z,z⟩,by simp only;omega⟩,by simp only;omega,by simp only;omega⟩,⟨⟨⟨z,z⟩,by simp only;omega⟩,by simp only;omega,by simp only;omega⟩,⟨⟨⟨z,z⟩,by simp only;omega⟩,by simp only;omega,by simp only;omega⟩⟩⟩
 bx:=fun t h0 h1=>by
  have b:=xN_bd (e:=fun i=>mvE9 ⟨0,0,t,false⟩ (o.e i)) (B:=4000) (o.n-1) fun i hi=>by
   obtain⟨⟨⟨a1,a2⟩,a3,a4⟩,_⟩:=h i (by omega)
   exact⟨mv0_bd ⟨h0,h1⟩ a1 a2,mv0_bd ⟨h0,h1⟩ a3 a4⟩
  exact⟨by show 1<=o.n;omega,by show o.n<=1000;omega,hr,b.1.1,b.1.2,b.2.1,b.2.2⟩
theorem ends_of{s:Sh}(h:FineS s):EndsB 3000 s:=fun i hi=>by
 have:=h.2.1 i hi
 unfold EdSm Sm3 at this
 omega
theorem outOk(c:Cs):OutOk (outQ c):=by
 unfold outQ
 split
 ·rename_i h
  have f:=made_fine c.o
  exact outOk_of (madeS_n c.o h) (f.1.r.2 h) fun i hi=>by have:=ends_of f i hi;omega
 ·exact outOk_of (.inr (.inl rfl)) rfl fun i hi=>by
   have:=ends_of (rect_fine (x:=0) (y:=0) (u:=60) (v:=30) (by omega) (by omega) (by omega) (by omega)) i hi
   omega
def fMc:FuncId:=11
def KMc:List Con:=[cMd10,dRect,d40]
def panQ(c:Cs):Pnl:=pnQ (outQ c) c.p
theorem mk_ok(c:Cs):Fok Tryz.prog fMc [csV c] (.tup [shdV (outQ c),panO (panQ c)]):=by
 have ho:=outOk c
 unfold panQ
 by_cases h:(madeS c.o).k=2
 ·have e : outQ c = madeS c.o := by unfold outQ; rw [if_pos h]
  rw[e] at ho ⊢
  exact fokX [xAll,xNext] KMc [false] [pF (neF h),pP ho,pEd (madeS c.o)] (by kernel_rfl)
 ·have e : outQ c = rectS 0 0 60 30 := by unfold outQ; rw [if_neg h]
  rw[e] at ho ⊢
  exact fokX [xAll,xNext] KMc [true] [pT (neT h),pP ho,pEd (rectS 0 0 60 30)] (by kernel_rfl)
end

set_option maxRecDepth 100000
section
def toShF(l:List It):Option (Sh×List Prop) :=
 match l with
 | [i,.fs _ m n z,k]=>(match asI i,asI k with
  | some x,some y=>if z=7/\(m.all fun i=>i.n==1)=true/\((List.range n).all fun i=>isEd ((m.drop (i*7)).take 7))=true then some (⟨x.1,n,fun i=>edAt ((m.drop (i*7)).take 7),y.1⟩,[]) else none
  | _,_=>none)
 | l=>toSh l
theorem toShF_rep{V W:World}{r:Nat->Nat}{k:Nat}{l:List It}{s:Sh}{ps:List Prop}{x:Value}(h:toShF l=some (s,ps))(hp:All ps)(hr:RepV V W r k ⟨true,l⟩ x):RepV V W r k (shpV s) x:=by
 unfold toShF at h
 split at h
 ·rename_i i o m n z k
  split at h
  ·rename_i x y hx hy
   split at h
   ·rename_i hc
    obtain⟨rfl,c1,c2⟩:=hc
    cases h
    have ht:toSh [i,.fs o m n 7,k]=some (⟨x.1,n,fun i=>edAt ((m.drop (i*7)).take 7),y.1⟩,[∀i,i<n->isEd ((m.drop (i*7)).take 7)=true]):=by
     unfold toSh toRo
     simp only[hx,hy,c1,and_self,if_true]
    exact toSh_rep ht ⟨fun i hi=>List.all_eq_true.1 c2 i (List.mem_range.2 hi),trivial⟩ hr
   ·cases h
  ·cases h
 ·exact toSh_rep h hp hr
def sh2F(f:FuncId)(g:Sh->Sh->AV)(h:∀s u,Fok Tryz.prog f [shpV s,shpV u] (g s u)):Con where
 f:=f
 g:=fun | [⟨true,l⟩,⟨true,m⟩]=>(match toShF l,toShF m with|some z,some y=>some (g z.1 y.1,z.2++y.2)|_,_=>none)|_=>none
 ok:=by
  intro args res ps h' hp
  split at h'<;>try cases h'
  split at h'<;>cases h'
  rename_i he hq
  obtain⟨p1,p2⟩:=All.app hp
  exact (h _ _).pre fun W=>rvs_1 (fun v hv=>toShF_rep he p1 hv) (rvs_1 (fun v hv=>toShF_rep hq p2 hv) rvs_0)
def cGapF:Con:=sh2F 32 (fun s u=>ofV (ofQ s u)) gapOf_fok
def cmpG(g:Gp)(z:Int):Int:=cmpRt g.d ⟨z,0,zero,ofZ 1⟩
def touchQ(a b:Sh):Bool:=(ofQ a b).2&&decide (cmpG (ofQ a b).1 0<=0)
def KTo:List Con:=[cGapF,cCmpInt]
theorem touch_fok(s u:Sh):Fok Tryz.prog 35 [shpV s,shpV u] (.one (blV (touchQ s u))):=by
 cases h:(ofQ s u).2 with
 | false=>exact Fok.bb (show touchQ s u=false by unfold touchQ;rw[h];rfl) (fok KTo [false] [pEd s,pEd u,pF h] (by kernel_rfl))
 | true=>exact Fok.bb (show touchQ s u=decide (cmpG (ofQ s u).1 0<=0) by unfold touchQ;rw[h];rfl) (fok KTo [true] [pEd s,pEd u,pT h] (by kernel_rfl))
def cTouch:Con:=sh2F 35 (fun s u=>.one (blV (touchQ s u))) touch_fok
end

set_option maxRecDepth 100000
section
def fCk:FuncId:=27
def ICk:List FuncId:=[66,67,69,71,72,74,75,76,78,79,80,82,83,73,77,81]
def IAp:List FuncId:=[125,127,126,186]
def fAp:FuncId:=84
def KAp:List Con:=[cBoxQ,cTouch]
def ixA(i:Int)(n:Nat)(h:0<=i/\i<(n:Int)):Pf:=⟨0<=i/\i<(n:Int),h⟩
theorem ap10(C M:Nat->Sh)(h:(C 0).n<=1000):Fok Tryz.prog fAp [rowV 3 shIs 1 C,rowV 3 shIs 0 M] (.one (blV true)) :=
  fokI [xAll] KAp IAp [true,false,false,false] [pT (show decide ((0:Int)<((1:Nat):Int))=true by decide),ixA 0 1 (by decide),pEd (C 0),pP h,pP (show 0<=(0:Int)/\(0:Int)<=((1:Nat):Int) by decide),pF (show decide ((0:Int)<(((0:Int).toNat:Nat):Int))=false by decide),pF (show decide ((0:Int)<((0:Nat):Int))=false by decide),pF (show decide ((0:Int)+1<((1:Nat):Int))=false by decide)] (by kernel_rfl)
def lssT(i:Int)(n:Nat)(h:decide (i<(n:Int))=true):Pf:=pT h
def lssF(i:Int)(n:Nat)(h:decide (i<(n:Int))=false):Pf:=pF h
def leA(i:Int)(n:Nat)(h:0<=i/\i<=(n:Int)):Pf:=⟨0<=i/\i<=(n:Int),h⟩
def ap2pre(C M:Nat->Sh)(n0:(C 0).n<=1000)(n1:(C 1).n<=1000)(t0:touchQ (C 0) (M 0)=false):List Pf :=
  [lssT 0 2 (by decide),ixA 0 2 (by decide),pEd (C 0),pP n0,leA 0 2 (by decide),lssF 0 (0:Int).toNat (by decide),lssT 0 1 (by decide),ixA 0 1 (by decide),pEd (C 0),pEd (M 0),pF t0,lssF (0+1) 1 (by decide),
   lssT (0+1) 2 (by decide),ixA (0+1) 2 (by decide),pEd (C 1),pP n1,leA (0+1) 2 (by decide),lssT 0 ((0:Int)+1).toNat (by decide),ixA 0 ((0:Int)+1).toNat (by decide),pEd (C 0),pP n0]
theorem ap21(C M:Nat->Sh)(n0:(C 0).n<=1000)(n1:(C 1).n<=1000)(t0:touchQ (C 0) (M 0)=false)(x:decide (bX0 (C 1)<=bX1 (C 0))=false)(t1:touchQ (C 1) (M 0)=false):Fok Tryz.prog fAp [rowV 3 shIs 2 C,rowV 3 shIs 1 M] (.one (blV true)) :=
  fokI [xAll] KAp IAp [true,false,true,false,false,true,true,false,false,true,false,false,false] (ap2pre C M n0 n1 t0++[pF x,lssF (0+1) ((0:Int)+1).toNat (by decide),lssT 0 1 (by decide),ixA 0 1 (by decide),pEd (C 1),pEd (M 0),pF t1,lssF (0+1) 1 (by decide),lssF (0+1+1) 2 (by decide)]) (by kernel_rfl)
theorem ap21x(C M:Nat->Sh)(n0:(C 0).n<=1000)(n1:(C 1).n<=1000)(t0:touchQ (C 0) (M 0)=false)(x1:decide (bX0 (C 1)<=bX1 (C 0))=true)(x2:decide (bX0 (C 0)<=bX1 (C 1))=true)(x3:decide (bY0 (C 1)<=bY1 (C 0))=true)(x4:decide (bY0 (C 0)<=bY1 (C 1))=true):Fok Tryz.prog fAp [rowV 3 shIs 2 C,rowV 3 shIs 1 M] (.one (blV false)) :=
  fokI [xAll] KAp IAp [true,false,true,false,false,true,true,true,true,true,true] (ap2pre C M n0 n1 t0++[pT x1,pT x2,pT x3,pT x4]) (by kernel_rfl)
def apQ(L:Nat×(Nat->Sh)):Bool:=if L.1=2 then !(decide (bX0 (L.2 1)<=bX1 (L.2 0))) else true
def ApOk(L R:Nat×(Nat->Sh)):Prop :=
  (L.1=1/\R.1=0/\(L.2 0).n<=1000)\/(L.1=2/\R.1=1/\((L.2 0).n<=1000/\(L.2 1).n<=1000/\touchQ (L.2 0) (R.2 0)=false) /\
    ((decide (bX0 (L.2 1)<=bX1 (L.2 0))=false/\touchQ (L.2 1) (R.2 0)=false)\/(decide (bX0 (L.2 1)<=bX1 (L.2 0))=true/\decide (bX0 (L.2 0)<=bX1 (L.2 1))=true/\decide (bY0 (L.2 1)<=bY1 (L.2 0))=true/\decide (bY0 (L.2 0)<=bY1 (L.2 1))=true)))
theorem apart_ok(L R:Nat×(Nat->Sh))(h:ApOk L R):Fok Tryz.prog fAp [rowV 3 shIs L.1 L.2,rowV 3 shIs R.1 R.2] (.one (blV (apQ L))):=by
  obtain⟨n,C⟩:=L
  obtain⟨m,M⟩:=R
  unfold ApOk at h
  simp only at h
  rcases h with⟨rfl,rfl,h⟩|⟨rfl,rfl,⟨n0,n1,t0⟩,h⟩
  . exact ap10 C M h
  . unfold apQ
    simp only[if_true]
    rcases h with⟨x,t1⟩|⟨x1,x2,x3,x4⟩
    . rw[x];exact ap21 C M n0 n1 t0 x t1
    . rw[x1];exact ap21x C M n0 n1 t0 x1 x2 x3 x4
def cApart:Con:=con2 dShs dShs fAp (fun L _=>.one (blV (apQ L))) (fun L R=>[ApOk L R]) fun L R h=>apart_ok L R h.1
def KChk:List Con:=[cShChk,cShMv,cDiscP,cApart]
end

set_option maxRecDepth 100000
section
def mvR(m:Mot)(s:Sh):List It:=[.i (mvS m s).k lim,edD (mvS m s).n (mvS m s).e,.i (mvS m s).r lim]
def cpF(m:Mot)(s:Sh):Nat->List It:=fun j=>([mvR m s].getD j []).map nrmR
def m00:Mot:=⟨0,0,0,false⟩
def wrp(n:Nat)(h:0<=IntKind.i64.wrap ((n:Int)-1)/\IntKind.i64.wrap ((n:Int)-1)<(n:Int)):Pf:=⟨_,h⟩
def z0F:Nat->List It:=fun _=>[]
theorem cp_row(m:Mot)(s:Sh):∀j,j<1->cpF m s j=shIs (shR (cpF m s j)):=fun j hj=>by
  obtain rfl:j=0:=Nat.lt_one_iff.1 hj
  rfl
structure ChkOk (m:Mot) (s:Sh):Prop where
  k:s.k=2
  c:chkS s=0
  mv:MvOk s m
  d:chkS (mvS m s)=0
theorem cp_apart(s:Sh)(h:ChkOk m00 s):ApOk (1,fun j=>shR (cpF m00 s j)) (0,fun j=>shR (z0F j)):=.inl ⟨rfl,rfl,h.mv.hi⟩
theorem chk_one(o:Sh)(h:ChkOk m00 o):Fok Tryz.prog fCk [panV oneP,shpV o] (.one (inV 0 lim)) :=
  fokI [xAll] KChk ICk [false,true,true,true,true,false,false,false,false,false,true,true,false,true,false,true]
    [pEd o,pF (neF h.c),pT (b_T h.k),pT (show decide (((1:Nat):Int)>0)=true by decide),pT (show decide (((1:Nat):Int)<=8)=true by decide),lssT 0 1 (by decide),ixA 0 1 (by decide),pF (show m00.m=false from rfl),pF (show decide (m00.t<0)=false by decide),pF (show decide (m00.t>3)=false by decide),pP h.mv,pEd o,pP (show 1<=1000 by decide),wrp 1 (by decide),pEd (mvS m00 o),pF (neF h.d),lssF (0+1) 1 (by decide),
     pT (show decide (((0:Nat):Int)<=40)=true by decide),pT (show decide (((0:Nat):Int)<=16)=true by decide),lssF 0 0 (by decide),pT (show ((((0:Nat):Int))==0)=true by decide),lssF 0 0 (by decide),pP (cp_apart o h),⟨∀j,j<1->cpF m00 o j=shIs (shR (cpF m00 o j)),cp_row m00 o⟩,⟨∀j,j<0->z0F j=shIs (shR (z0F j)),fun j hj=>absurd hj (Nat.not_lt_zero j)⟩,pT (show apQ (1,fun j=>shR (cpF m00 o j))=true from rfl)] (by kernel_rfl)
def mvX(x:Int):Mot:=⟨x,0,1,false⟩
def exTb:Sh:=⟨1,1,fun _=>⟨1,45,0,45,20,0,0⟩,1⟩
def exP(x:Int):Pnl:=⟨2,fun j=>[m00,mvX x].getD j m00,1,fun _=>exTb,1,fun _=>(45,50),3⟩
def cp2F(m m':Mot)(s:Sh):Nat->List It:=apF 1 (cpF m s) (cpF m' s)
theorem cp2_row(m m':Mot)(s:Sh):∀j,j<2->cp2F m m' s j=shIs (shR (cp2F m m' s j)):=fun j hj=>by
  rcases (by omega:j=0\/j=1) with rfl|rfl<;>rfl
def exDc:Sh:=discS 45 50 3
def dcR:List It:=[.i exDc.k lim,edD exDc.n exDc.e,.i exDc.r lim]
def dcF:Nat->List It:=fun j=>([dcR].getD j []).map nrmR
theorem dc_row:∀j,j<1->dcF j=shIs (shR (dcF j)):=fun j hj=>by
  obtain rfl:j=0:=Nat.lt_one_iff.1 hj
  rfl
structure ExOk (x:Int) (o:Sh):Prop where
  o0:ChkOk m00 o
  o1:ChkOk (mvX x) o
  ap:ApOk (2,fun j=>shR (cp2F m00 (mvX x) o j)) (1,fun j=>shR (dcF j))
theorem exTb_ok:chkS exTb=0:=by decide
theorem exDc_ok:chkS exDc=0:=by decide
def exQ(x:Int)(o:Sh):Bool:=apQ (2,fun j=>shR (cp2F m00 (mvX x) o j))
def exBits(b:Bool):List Bool:=[false,true,true,true,true,false,false,false,false,true,false,false,false,false,false,true,true,true,false,true,true,false,false,true,true,true,false,false,b]
def exPf(x:Int)(o:Sh)(h:ExOk x o):List Pf :=
  [pEd o,pF (neF h.o0.c),pT (b_T h.o0.k),pT (show decide (((2:Nat):Int)>0)=true by decide),pT (show decide (((2:Nat):Int)<=8)=true by decide),lssT 0 2 (by decide),ixA 0 2 (by decide),pF (show m00.m=false from rfl),pF (show decide (m00.t<0)=false by decide),pF (show decide (m00.t>3)=false by decide),pP h.o0.mv,pEd o,pP (show 1<=1000 by decide),wrp 1 (by decide),pEd (mvS m00 o),pF (neF h.o0.d),lssT (0+1) 2 (by decide),ixA (0+1) 2 (by decide),
   pF (show (mvX x).m=false from rfl),pF (show decide ((mvX x).t<0)=false from rfl),pF (show decide ((mvX x).t>3)=false from rfl),pP h.o1.mv,pEd o,pP (show 1+1<=1000 by decide),pP (Nat.le_refl 1),wrp (1+1) (by decide),pEd (mvS (mvX x) o),pF (neF h.o1.d),lssF (0+1+1) 2 (by decide),
   pT (show decide (((1:Nat):Int)<=40)=true by decide),pT (show decide (((1:Nat):Int)<=16)=true by decide),lssT 0 1 (by decide),ixA 0 1 (by decide),pEd exTb,pF (neF exTb_ok),pT (b_T (show exTb.k=1 from rfl)),pT (show decide (exTb.r>0)=true by decide),lssF (0+1) 1 (by decide),pF (show (((1:Nat):Int)==0)=false by decide),pT (show decide ((3:Int) >= 1)=true by decide),pT (show decide ((3:Int)<=4194304)=true by decide),lssT 0 1 (by decide),ixA 0 1 (by decide),
   pP (show 1<=1000 by decide),wrp 1 (by decide),pEd exDc,pF (neF exDc_ok),lssF (0+1) 1 (by decide),pP h.ap,⟨∀j,j<2->cp2F m00 (mvX x) o j=shIs (shR (cp2F m00 (mvX x) o j)),cp2_row m00 (mvX x) o⟩,⟨∀j,j<1->dcF j=shIs (shR (dcF j)),dc_row⟩]
theorem chk_exT(x:Int)(o:Sh)(h:ExOk x o)(hq:exQ x o=true):Fok Tryz.prog fCk [panV (exP x),shpV o] (.one (inV 0 lim)) :=
  fokI [xAll] KChk ICk (exBits true) (exPf x o h++[pT hq]) (by kernel_rfl)
theorem chk_exF(x:Int)(o:Sh)(h:ExOk x o)(hq:exQ x o=false):Fok Tryz.prog fCk [panV (exP x),shpV o] (.one (inV 74 lim)) :=
  fokI [xAll] KChk ICk (exBits false) (exPf x o h++[pF hq]) (by kernel_rfl)
end

set_option maxRecDepth 100000
section
def exR0(x:Int):Nat->List It:=fun i=>([[.k 0,.k 0,.k 0,.b false],[.i x lim,.k 0,.k 1,.b false]].getD i []).map nrmR
def exE:List (Int×Nat):=e7 ⟨1,45,0,45,20,0,0⟩
def exR1:Nat->List It:=fun i=>([[.k 1,.d (.ed 1 fun q=>[exE].getD q []),.k 1]].getD i []).map nrmR
def exR2:Nat->List It:=fun i=>([[.k 45,.k 50]].getD i []).map nrmR
theorem ex_raw(x:Int):Fok Tryz.prog 47 [inV x lim] (.one ⟨true,[.ol 74 4 2 (exR0 x),.ol 30 3 1 exR1,.ol 24 2 1 exR2,.i 3 lim]⟩) :=
 fokX [xAll] [] [] [] (by kernel_rfl)
theorem ex_ok(x:Int):Fok Tryz.prog 47 [inV x lim] (.one (panO (exP x))) :=
 (ex_raw x).mono fun V W y hr => by
  obtain⟨cs,⟨c1,_,e1,⟨v1,q1,h1⟩,c2,_,e2,⟨v2,q2,h2⟩,c3,_,e3,⟨v3,q3,h3⟩,h4⟩,h5⟩:=hr
  refine⟨cs,⟨c1,_,e1,⟨v1,q1,ol_cg (fun i hi ds hd=>?_) h1⟩,c2,_,e2,⟨v2,q2,ol_cg (fun i hi ds hd=>?_) h2⟩,c3,_,e3,⟨v3,q3,ol_cg (fun i hi ds hd=>?_) h3⟩,h4⟩,h5⟩
  ·have hi : i < 2 := hi
   rcases (by omega:i=0\/i=1) with rfl|rfl<;>exact hd
  ·obtain rfl : i = 0 := Nat.lt_one_iff.1 hi
   obtain⟨d1,_,f1,g1,d2,_,f2,⟨u,f3,g2⟩,g3⟩:=hd
   exact⟨d1,_,f1,g1,d2,_,f2,⟨u,f3,edC_cg (fun q (hq:q<1)=>by
    obtain rfl:q=0:=Nat.lt_one_iff.1 hq
    rfl) g2⟩,g3⟩
  ·obtain rfl : i = 0 := Nat.lt_one_iff.1 hi
   exact hd
def cExample:Con:=con1 dIn 47 (fun x=>.one (panO (exP x))) (fun _=>[]) fun x _=>ex_ok x
def exO:Sh:=rectS 0 0 40 20
theorem exO_mv(x:Int)(hx:x.natAbs<=1000)(t:Int)(ht:0<=t/\t<4):MvOk exO ⟨x,0,t,false⟩ :=
 ⟨by decide,by decide,(rect_fine (x:=0) (y:=0) (u:=40) (v:=20) (by omega) (by omega) (by omega) (by omega)).1.ok,Nat.le_trans hx (by decide),Nat.zero_le _,by simp only;omega⟩
theorem ex70:ExOk 70 exO/\exQ 70 exO=true:=by
 refine⟨⟨⟨rfl,by decide,exO_mv 0 (by decide) 0 (by decide),by kernel_rfl⟩,⟨rfl,by decide,exO_mv 70 (by decide) 1 (by decide),by kernel_rfl⟩,.inr ⟨rfl,rfl,⟨by decide,by decide,by kernel_rfl⟩,.inl ⟨by kernel_rfl,by kernel_rfl⟩⟩⟩,by kernel_rfl⟩
theorem ex60:ExOk 60 exO/\exQ 60 exO=false:=by
 refine⟨⟨⟨rfl,by decide,exO_mv 0 (by decide) 0 (by decide),by kernel_rfl⟩,⟨rfl,by decide,exO_mv 60 (by decide) 1 (by decide),by kernel_rfl⟩,.inr ⟨rfl,rfl,⟨by decide,by decide,by kernel_rfl⟩,.inr ⟨by kernel_rfl,by kernel_rfl,by kernel_rfl,by kernel_rfl⟩⟩⟩,by kernel_rfl⟩
def chkR(p:Pnl):Int:=if p.nc=2/\(p.c 1).x=60 then 74 else 0
def CkC(p:Pnl)(o:Sh):Prop:=(p=oneP/\ChkOk m00 o)\/((p=exP 70\/p=exP 60)/\o=exO)
theorem chk_ok(p:Pnl)(o:Sh)(h:CkC p o):Fok Tryz.prog fCk [panV p,shpV o] (.one (inV (chkR p) lim)):=by
 rcases h with⟨rfl,h⟩|⟨rfl|rfl,rfl⟩
 ·exact chk_one o h
 ·exact chk_exT 70 exO ex70.1 ex70.2
 ·exact chk_exF 60 exO ex60.1 ex60.2
def cChkP:Con:=con2 dPan dSh fCk (fun p o=>.one (inV (chkR p) lim)) (fun p o=>[CkC p o]) fun p o h=>chk_ok p o h.1
theorem rectP_ok(x y z u:Int):Fok Tryz.prog 48 [dRc.C (x,y,z,u)] (.one (shdV (rectS x y z u))):=fokS [] [] [] [] (by kernel_rfl)
def cRectP:Con:=con1 dRc 48 (fun a=>.one (shdV (rectS a.1 a.2.1 a.2.2.1 a.2.2.2))) (fun _=>[]) fun a _=>rectP_ok a.1 a.2.1 a.2.2.1 a.2.2.2
end
end Go.Proofs.YtghemgdfmldoeaaGreat
