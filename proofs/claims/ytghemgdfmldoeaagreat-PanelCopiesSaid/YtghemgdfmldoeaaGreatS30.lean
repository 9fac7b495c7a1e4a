import Derived.Test.YtghemgdfmldoeaaGreatS29
set_option linter.unusedVariables false
set_option linter.unusedSimpArgs false

namespace Go.Proofs.YtghemgdfmldoeaaGreat
open Go.RowKit

set_option maxRecDepth 100000
section
structure BxT (s:Sh):Prop where
 lo:1<=s.n
 hi:s.n<=1000
 r:s.r=0
 x0:(x0N s.e (s.n-1)).natAbs<=4000
 y0:(y0N s.e (s.n-1)).natAbs<=4000
 x1:(x1N s.e (s.n-1)).natAbs<=4000
 y1:(y1N s.e (s.n-1)).natAbs<=4000
def bxT(s:Sh):V1:=⟨true,[.i (x0N s.e (s.n-1)) 4000,.i (y0N s.e (s.n-1)) 4000,.i (x1N s.e (s.n-1)) 4000,.i (y1N s.e (s.n-1)) 4000]⟩
theorem box9t_ok(s:Sh)(h:BxT s):Fok Tryz.prog 117 [shpV s] (.one (bxT s)):=by
 refine (r9box_ok s h.hi).mono fun V W x hr=>?_
 have w:∀z:Int,z.natAbs<=4000->IntKind.i64.wrap z=z:=fun z hz=>wrap_in (by unfold I64;omega)
 have h0:=h.lo
 rw[boxV,if_neg (by omega),h.r] at hr
 simp only[Int.sub_zero,Int.add_zero,w _ h.x0,w _ h.y0,w _ h.x1,w _ h.y1] at hr
 obtain⟨cs,⟨_,_,rfl,⟨rfl,_,i1⟩,_,_,rfl,⟨rfl,_,i2⟩,_,_,rfl,⟨rfl,_,i3⟩,_,_,rfl,⟨rfl,_,i4⟩,rfl⟩,e,_⟩:=hr
 exact⟨_,⟨_,_,rfl,⟨rfl,h.x0,i1⟩,_,_,rfl,⟨rfl,h.y0,i2⟩,_,_,rfl,⟨rfl,h.x1,i3⟩,_,[],rfl,⟨rfl,h.y1,i4⟩,rfl⟩,e,nofun⟩
def d9BxT:Con:=con1 dSh 117 (fun s=>.one (bxT s)) (fun s=>[BxT s]) fun s h=>box9t_ok s h.1
def trn(o:Sh)(t:Int):Sh:=mvS9 ⟨0,0,t,false⟩ o
def bX(o:Sh)(L:List Int)(k:Nat):Sh:=trn o (nV L (1+3*k) 4)
def pnX(o:Sh)(L:List Int):Nat->Int
 | 0=>0
 | k+1=>pnX o L k+x1N (bX o L k).e (o.n-1)-x0N (bX o L k).e (o.n-1)+10+nV L (1+3*k+2) 10
def pnC(o:Sh)(L:List Int)(k:Nat):Mot:=⟨pnX o L k-x0N (bX o L k).e (o.n-1),5*nV L (1+3*k+1) 4-y0N (bX o L k).e (o.n-1),nV L (1+3*k) 4,false⟩
def pnN(L:List Int):Nat:=(1+nV L 0 3).toNat
def pnI(L:List Int):Nat:=1+3*pnN L
def pnNt(L:List Int):Nat:=(nV L (pnI L) 3).toNat
def pnTe(L:List Int)(k:Nat):Ed :=
 let a:=pnI L+1+4*k
 ⟨1,nV L a 100,-20-nV L (a+1) 10,nV L a 100+nV L (a+3) 30,-20-nV L (a+1) 10,0,0⟩
def pnTr(L:List Int)(k:Nat):Int:=1+nV L (pnI L+1+4*k+2) 3
def pnT(L:List Int)(k:Nat):Sh:=⟨1,1,fun _=>pnTe L k,pnTr L k⟩
def rawT(L:List Int)(k:Nat):List It:=[.i 1 lim,.d (.ed 1 fun q=>[e7 (pnTe L k)].getD q []),.i (pnTr L k) lim]
def rawO(n:Nat)(L:List Int):It:=.ol 30 3 n fun i=>rawT L i
def pnJ(L:List Int):Nat:=pnI L+1+4*pnNt L
def pnNm(L:List Int):Nat:=(nV L (pnJ L) 3).toNat
def pnM(L:List Int)(k:Nat):Int×Int:=(30*nV L (pnJ L+2+2*k) 9,-10-nV L (pnJ L+2+2*k+1) 5)
def pnQ(o:Sh)(L:List Int):Pnl:=⟨pnN L,pnC o L,pnNt L,pnT L,pnNm L,pnM L,2+nV L (pnJ L+1) 3⟩
def f40:FuncId:=51
def K40:List Con:=[d9Mv,d9BxT]
def nilI:It:=.v (.slice none 0 0)
def moO(n:Nat)(f:Nat->Mot):It:=.ol 74 4 n fun i=>moI (f i)
def shO(n:Nat)(f:Nat->Sh):It:=.ol 30 3 n fun i=>shIs (f i)
def ptO(n:Nat)(f:Nat->Int×Int):It:=.ol 24 2 n fun i=>ptI (f i)
def dwM(L:List Int)(k:Nat):Option Mb:=some ⟨105,[.dr L (nK L k)]⟩
def pnB(o:Sh)(L:List Int)(i:Nat)(c:List It):List (Option Mb):=shB o++[some ⟨43,[nilI,nilI,nilI,.k 0]⟩,dwM L i,some ⟨43,c⟩]
def pnP:List (Nat×Rq):=[(2,.eq (ptrN 0)),(4,.eq (ptrN 1)),(5,.eq (ptrN 2)),(6,.eq (ptrN 3))]
def pn1(o:Sh)(L:List Int)(k:Nat):Ds:=⟨(7,.le (inV (pnX o L k) 30000))::(8,.le (inV (pnN L:Int) 2000))::(9,.le (inV (k:Int) 2000))::pnP,pnB o L (1+3*k) [moO k (pnC o L),nilI,nilI,.k 0]⟩
structure OutOk (o:Sh):Prop where
 mv:∀t:Int,0<=t->t<4->Mv9 o ⟨0,0,t,false⟩
 bx:∀t:Int,0<=t->t<4->BxT (trn o t)
theorem pnX_bd{o:Sh}(h:OutOk o)(L:List Int):∀k,(pnX o L k).natAbs<=8020*k
 | 0=>by simp[pnX]
 | k+1=>by
  have ih:=pnX_bd h L k
  have t:=nV_bd L (1+3*k) (m:=4) (by omega)
  have d:=nV_bd L (1+3*k+2) (m:=10) (by omega)
  have b:=h.bx _ t.1 t.2
  have b0:=b.x0
  have b1:=b.x1
  have e0:(trn o (nV L (1+3*k) 4)).n=o.n:=rfl
  rw[e0] at b0 b1
  unfold pnX bX
  omega
theorem pnN_bd(L:List Int):1<=pnN L/\pnN L<=3/\(pnN L:Int)=1+nV L 0 3:=by
 have t:=nV_bd L 0 (m:=3) (by omega)
 unfold pnN
 omega
def pDr(L:List Int)(i j:Nat)(h:i=j):Pf:=⟨It.dr L (nK L i)=.dr L (nK L j),by rw[h]⟩
def pNi:Pf:=⟨nilI=nilI,rfl⟩
def pPn:List Pf:=[pR (ptrN 0),pR (ptrN 1),pR (ptrN 2),pR (ptrN 3)]
def pnCr(o:Sh)(L:List Int)(k:Nat):List It:=[.i (pnX o L k-x0N (bX o L k).e (o.n-1)) 34000,.i (5*nV L (1+3*k+1) 4-y0N (bX o L k).e (o.n-1)) 4020,.i (nV L (1+3*k) 4) 4,.b false]
theorem pn1_r(o:Sh)(h:OutOk o)(L:List Int)(k:Nat)(hk:k<pnN L):Rnd [xAll,xNext] K40 f40 12 [] (nF f40) (pn1 o L k) (pn1 o L (k+1)) .nm:=by
 have t:=nV_bd L (1+3*k) (m:=4) (by omega)
 have n3:=(pnN_bd L).2.1
 have b:=pnX_bd h L (k+1)
 exact⟨[true],[pT (ltT (show (k:Int)<(pnN L:Int) by omega)),pP (h.mv _ t.1 t.2),pEd o,pP (h.bx _ t.1 t.2),pEd (bX o L k),pP (show k+1<=1000 by omega),pP (Nat.le_refl k),⟨pnX o L (k+1)=pnX o L (k+1)/\(pnX o L (k+1)).natAbs<=30000,rfl,by omega⟩,qZ (pnN L),pI k (by omega)]++pPn++pSh o++[pNi,pNi,pNi,pDr L (1+3*k+3) (1+3*(k+1)) rfl,qA moI (pnC o L) k (k+1) (pnCr o L k) rfl rfl,pNi,pNi],by kernel_rfl⟩
def pn1e(o:Sh)(L:List Int):Ds:=⟨pnP,pnB o L (pnI L) [moO (pnN L) (pnC o L),nilI,nilI,.k 0]⟩
def pCt(o:Sh)(L:List Int):Pf:=⟨pnN L=pnN L/\∀i,i<pnN L->(fun i=>moI (pnC o L i)) i=(fun i=>moI (pnC o L i)) i,rfl,fun _ _=>rfl⟩
theorem pn1_o(o:Sh)(h:OutOk o)(L:List Int):OrcOk Tryz.prog (lpC f40 12) ⟨nF f40,pn1 o L 0,.ex 0,pn1e o L⟩ :=
 orc (X:=[xAll,xNext]) (K:=K40) (f:=f40) (id:=12) (n:=nF f40) (pnN L) (pn1 o L) (fun _=>[]) (e:=.ex 0) (d1:=pn1e o L) (by kernel_rfl) (fun _=>by kernel_rfl) (fun _ _=>LT.nil) (pn1_r o h L)
  ⟨[false],[pF (ltF (show ¬(pnN L:Int)<(pnN L:Int) by omega))]++pPn++pSh o++[pNi,pNi,pNi,pDr L (1+3*pnN L) (pnI L) rfl,pCt o L,pNi,pNi],by kernel_rfl⟩ nofun
theorem pnNt_bd(L:List Int):pnNt L<=2/\(pnNt L:Int)=nV L (pnI L) 3:=by
 have t:=nV_bd L (pnI L) (m:=3) (by omega)
 unfold pnNt
 omega
theorem pnNm_bd(L:List Int):pnNm L<=2/\(pnNm L:Int)=nV L (pnJ L) 3:=by
 have t:=nV_bd L (pnJ L) (m:=3) (by omega)
 unfold pnNm
 omega
def pn2(o:Sh)(L:List Int)(j:Nat):Ds:=⟨(8,.le (inV (pnNt L:Int) 2000))::(12,.le (inV (j:Int) 2000))::pnP,pnB o L (pnI L+1+4*j) [moO (pnN L) (pnC o L),rawO j L,nilI,.k 0]⟩
def pn2e(o:Sh)(L:List Int):Ds:=⟨pnP,pnB o L (pnJ L) [moO (pnN L) (pnC o L),rawO (pnNt L) L,nilI,.k 0]⟩
def pnTw(L:List Int)(k:Nat):List It:=[.k 1,.d (.ed 1 fun q=>[e7 (pnTe L k)].getD q []),.i (pnTr L k) 4]
def qRw(L:List Int)(N M:Nat)(h:N=M):Pf:=⟨N=M/\∀i,i<N->(fun i=>rawT L i) i=(fun i=>rawT L i) i,h,fun _ _=>rfl⟩
theorem pn2_o(o:Sh)(L:List Int):OrcOk Tryz.prog (lpC f40 30) ⟨nF f40,pn2 o L 0,.ex 2,pn2e o L⟩ :=
 orc (X:=[xAll,xNext]) (K:=K40) (f:=f40) (id:=30) (n:=nF f40) (pnNt L) (pn2 o L) (fun _=>[]) (e:=.ex 2) (d1:=pn2e o L) (by kernel_rfl) (fun _=>by kernel_rfl) (fun _ _=>LT.nil)
  (fun j hj => by
   have n3:=(pnNt_bd L).1
   exact⟨[true],[pT (ltT (show (j:Int)<(pnNt L:Int) by omega)),pP (show j+1<=1000 by omega),pP (Nat.le_refl j),qZ (pnNt L),pI j (by omega)]++pPn++pSh o++[pNi,pNi,pNi,pDr L (pnI L+1+4*j+4) (pnI L+1+4*(j+1)) rfl,pCt o L,qA (fun i=>i) (rawT L) j (j+1) (pnTw L j) rfl rfl,pNi],by kernel_rfl⟩)
  ⟨[false],[pF (ltF (show ¬(pnNt L:Int)<(pnNt L:Int) by omega))]++pPn++pSh o++[pNi,pNi,pNi,pDr L (pnI L+1+4*pnNt L) (pnJ L) rfl,pCt o L,qRw L (pnNt L) (pnNt L) rfl,pNi],by kernel_rfl⟩ nofun
def pnMk(L:List Int):Int:=2+nV L (pnJ L+1) 3
def pn3(o:Sh)(L:List Int)(j:Nat):Ds:=⟨(8,.le (inV (pnNm L:Int) 2000))::(14,.le (inV (j:Int) 2000))::pnP,pnB o L (pnJ L+2+2*j) [moO (pnN L) (pnC o L),rawO (pnNt L) L,ptO j (pnM L),.i (pnMk L) lim]⟩
def pn3e(o:Sh)(L:List Int):Ds:=⟨pnP,pnB o L (pnJ L+2+2*pnNm L) [moO (pnN L) (pnC o L),rawO (pnNt L) L,ptO (pnNm L) (pnM L),.i (pnMk L) lim]⟩
def pnMw(L:List Int)(k:Nat):List It:=[.i (30*nV L (pnJ L+2+2*k) 9) 270,.i (-10-nV L (pnJ L+2+2*k+1) 5) 15]
theorem pn3_o(o:Sh)(L:List Int):OrcOk Tryz.prog (lpC f40 44) ⟨nF f40,pn3 o L 0,.ex 4,pn3e o L⟩ :=
 orc (X:=[xAll,xNext]) (K:=K40) (f:=f40) (id:=44) (n:=nF f40) (pnNm L) (pn3 o L) (fun _=>[]) (e:=.ex 4) (d1:=pn3e o L) (by kernel_rfl) (fun _=>by kernel_rfl) (fun _ _=>LT.nil)
  (fun j hj => by
   have n3:=(pnNm_bd L).1
   exact⟨[true],[pT (ltT (show (j:Int)<(pnNm L:Int) by omega)),pP (show j+1<=1000 by omega),pP (Nat.le_refl j),qZ (pnNm L),pI j (by omega)]++pPn++pSh o++[pNi,pNi,pNi,pDr L (pnJ L+2+2*j+2) (pnJ L+2+2*(j+1)) rfl,pCt o L,qRw L (pnNt L) (pnNt L) rfl,qA ptI (pnM L) j (j+1) (pnMw L j) rfl rfl,qZ (pnMk L)],by kernel_rfl⟩)
  ⟨[false],[pF (ltF (show ¬(pnNm L:Int)<(pnNm L:Int) by omega))]++pPn++pSh o++[pNi,pNi,pNi,pDr L (pnJ L+2+2*pnNm L) (pnJ L+2+2*pnNm L) rfl,pCt o L,qRw L (pnNt L) (pnNt L) rfl,qL ptI (pnM L) (pnNm L) (pnNm L) rfl,qZ (pnMk L)],by kernel_rfl⟩ nofun
def z0:Pf:=⟨(0:Nat)=0,rfl⟩
theorem pn_raw(o:Sh)(h:OutOk o)(L:List Int):Fok Tryz.prog f40 [shpV o,⟨false,[.ds L]⟩] (.one ⟨true,[moO (pnN L) (pnC o L),rawO (pnNt L) L,ptO (pnNm L) (pnM L),.i (pnMk L) lim]⟩) :=
 fokL [xAll,xNext] K40 [(12,⟨nF f40,pn1 o L 0,.ex 0,pn1e o L⟩),(30,⟨nF f40,pn2 o L 0,.ex 2,pn2e o L⟩),(44,⟨nF f40,pn3 o L 0,.ex 4,pn3e o L⟩)] (LT.cons (pn1_o o h L) (LT.cons (pn2_o o L) (LT.cons (pn3_o o L) LT.nil))) []
  ([⟨(0 : Int) = pnX o L 0, rfl⟩, ⟨1 + nV L 0 3 = (pnN L : Int), (pnN_bd L).2.2.symm⟩, q0] ++ pPn ++ pSh o ++ [pNi, pNi, pNi, pDr L 1 (1 + 3 * 0) rfl, z0, pNi, pNi,
   ⟨nV L (pnI L) 3=(pnNt L:Int),(pnNt_bd L).2.symm⟩,q0]++pPn++pSh o++[pNi,pNi,pNi,pDr L (pnI L+1) (pnI L+1+4*0) rfl,pCt o L,z0,pNi,
   ⟨nV L (pnJ L) 3=(pnNm L:Int),(pnNm_bd L).2.symm⟩,q0]++pPn++pSh o++[pNi,pNi,pNi,pDr L (pnJ L+2) (pnJ L+2+2*0) rfl,pCt o L,qRw L (pnNt L) (pnNt L) rfl,z0,qZ (pnMk L)]) (by kernel_rfl)
def panO(p:Pnl):V1:=⟨true,[moO p.nc p.c,shO p.nt p.t,ptO p.nm p.m,.i p.r lim]⟩
theorem ol_cg{V W:World}{r:Nat->Nat}{k:Nat}{T:TypeId}{z n:Nat}{f g:Nat->List It}{v:Value}(h:∀i,i<n->∀cs,RepN W (f i) cs->RepN W (g i) cs):OlC V W r k T z n f v->OlC V W r k T z n g v
 | .inl e=>.inl e
 | .inr ⟨b,c,xs,e,h1,h2,h3,h4,h5,h6,h7⟩=>.inr ⟨b,c,xs,e,h1,h2,h3,h4,h5,h6,fun i hi=>by
  obtain⟨cs,d,k1,k2,k3⟩:=h7 i hi
  exact⟨cs,d,k1,k2,h i hi cs k3⟩⟩
theorem pn_ok(o:Sh)(h:OutOk o)(L:List Int):Fok Tryz.prog f40 [shpV o,⟨false,[.ds L]⟩] (.one (panO (pnQ o L))) :=
 (pn_raw o h L).mono fun V W x hr => by
  obtain⟨cs,⟨c1,_,e1,h1,c2,_,e2,⟨v,e3,h2⟩,h3⟩,h4⟩:=hr
  refine⟨cs,⟨c1,_,e1,h1,c2,_,e2,⟨v,e3,ol_cg (fun i hi ds hd=>?_) h2⟩,h3⟩,h4⟩
  obtain⟨d1,_,f1,g1,d2,_,f2,⟨u,f3,g2⟩,g3⟩:=hd
  exact⟨d1,_,f1,g1,d2,_,f2,⟨u,f3,edC_cg (fun q (hq:q<1)=>by
   obtain rfl:q=0:=Nat.lt_one_iff.1 hq
   rfl) g2⟩,g3⟩
def dDs:Dec where
 α:=List Int
 C:=fun L=>⟨false,[.ds L]⟩
 d:=fun|⟨false,[.ds L]⟩=>some (L,[])|_=>none
 ok:=by
  intro v a ps h hp W x hr
  split at h<;>cases h
  exact hr
def d40:Con:=con2 dSh dDs f40 (fun o L=>.one (panO (pnQ o L))) (fun o _=>[OutOk o]) fun o L h=>pn_ok o h.1 L
end

section
abbrev InF:=FuncId->List V1->List (Option Mb)->List Bool->Option (V1×List (Option Mb)×List Prop×List Bool)
def stI(m m':List (Option Mb)):It->Bool
 | .i _ _ | .k _ | .v _ | .b _ | .p _ _ | .fp _ | .fn _ _ | .ro _ _ _ | .ds _=>true
 | .sl b _ _=>(mb m b).isSome&&(mb m' b).isSome
 | _=>false
def stA(m m':List (Option Mb)):AV->AV
 | .und=>.und
 | .one u=>if u.l.all (stI m m') then .one u else .any
 | _=>.any
def inCall(P:Program)(I:FuncId->Bool)(o:Oper)(s:St):Option (FuncId×List V1) :=
 match o.op with
 | .call c=>match calleeF c.callee with
  | some (.inl x)=>match fnA s x,evVs s c.args.toList with
   | some (f,cap),some l=>if (I f&&((P.funcs[f]?).bind (·.body)).isSome)=true then some (f,l++cap.map fun p=>⟨false,[.p p.1 p.2]⟩) else none
   | _,_=>none
  | _=>none
 | _=>none
def iOps(P:Program)(E:Env)(call:CallF)(I:FuncId->Bool)(inl:InF)(ops:Array Oper):List Oper->St->List Bool->Option (St×List Prop×List Bool)
 | [],s,q=>some (s,[],q)
 | o::l,s,q=>match gdA ops o s q with
  | none=>none
  | some (false,s,ps,q)=>(iOps P E call I inl ops l (put s o.dst .und) q).map fun r=>(r.1,ps++r.2.1,r.2.2)
  | some (true,s,ps,q)=>match inCall P I o s with
   | some (f,args)=>match inl f args s.m q with
    | none=>none
    | some (v,m',ps',q)=>(iOps P E call I inl ops l (put ⟨⟨s.t.n,s.t.r.mapD (stA s.m m') s.t.dp⟩,m',0⟩ o.dst (.one v)) q).map fun r=>(r.1,(ps++ps')++r.2.1,r.2.2)
   | none=>match aDo P E call o s q with
    | none=>none
    | some (v,s,ob,q)=>(iOps P E call I inl ops l (put s o.dst v) q).map fun r=>(r.1,(ps++ob.ps)++r.2.1,r.2.2)
def iCode(P:Program)(E:Env)(call:CallF)(I:FuncId->Bool)(inl:InF):Code->St->List Bool->Option (Ex×St×List Prop×List Bool)
 | .seq a b,s,q=>match iCode P E call I inl a s q with
  | none=>none
  | some (.nm,s,ps,q)=>(iCode P E call I inl b s q).map fun r=>(r.1,r.2.1,ps++r.2.2.1,r.2.2.2)
  | r=>r
 | .cond c x y,s,q=>match evI s c,q with
  | some (.b true),q=>iCode P E call I inl x s q
  | some (.b false),q=>iCode P E call I inl y s q
  | some (.v (.bool b)),true::q=>(iCode P E call I inl x s q).map fun r=>(r.1,r.2.1,(b=true)::r.2.2.1,r.2.2.2)
  | some (.v (.bool b)),false::q=>(iCode P E call I inl y s q).map fun r=>(r.1,r.2.1,(b=false)::r.2.2.1,r.2.2.2)
  | _,_=>none
 | .loop c,s,q=>aLoop (fun s q=>iCode P E call I inl c s q) 100 s q
 | .block id c,s,q=>(iCode P E call I inl c s q).map fun r=>((match r.1 with | .ex k=>if k=id then .nm else .ex k|e=>e),r.2)
 | .region id ops d,s,q=>match d with
  | false=>(iOps P E call I inl ops ops.toList { s with al:=0 } q).map fun r=>(.nm,r.1,r.2.1,r.2.2)
  | true=>aCode P E call (.region id ops true) s q
 | c,s,q=>aCode P E call c s q
def iFun(P:Program)(E:Env)(call:CallF)(I:FuncId->Bool):Nat->InF
 | 0=>fun _ _ _ _=>none
 | n+1=>fun f args m q=>match P.funcs[f]? with
  | none=>none
  | some fn=>match fn.body with
   | none=>none
   | some c=>match iCode P E call I (iFun P E call I n) c ⟨⟨args.length+(fn.ntmps-args.length),(Tr.full 12).fill 0 (args.map .one)⟩,m,0⟩ q with
    | none=>none
    | some (e,s,ps,q)=>match e with
     | .ex _=>none
     | _=>match aRess P s fn.results.toList with
      | some [v]=>some (v,s.m,ps,q)
      | _=>none
section
variable {P:Program} {E:Env} {call:CallF} {I:FuncId->Bool} {inl:InF} {ops:Array Oper}
def InOk(P:Program)(inl:InF):Prop:=∀f args m q v m' ps q',inl f args m q=some (v,m',ps,q')->All ps->∀(V w:World) (r:Nat->Nat) (cm:Nat->List Value) (vals:List Value),RM V r cm m w->RepVs V w r m.length args vals ->
 Calls P f vals.toArray w fun e w'=>∃x,e=.returned x/\∃r' cm',Ag m r cm m' r' cm'/\RM V r' cm' m' w'/\RepV V w' r' m'.length v x
theorem st_I{V w w':World}{m m':List (Option Mb)}{r r':Nat->Nat}{cm cm':Nat->List Value}(hM:RM V r cm m w)(hM':RM V r' cm' m' w')(hA:Ag m r cm m' r' cm'){i:It}(h:stI m m' i=true){cs:List Value}(hr:RepI V w r m.length i cs):RepI V w' r' m'.length i cs:=by
 cases i with
 | p b o=>exact⟨Nat.lt_of_lt_of_le hr.1 hA.1,by rw[(hA.2 b hr.1).1];exact hr.2⟩
 | fn f l =>
  refine⟨fun p hp=>Nat.lt_of_lt_of_le (hr.1 p hp) hA.1,?_⟩
  rw[hr.2]
  congr 3
  exact List.map_congr_left fun p hp=>by rw[(hA.2 p.1 (hr.1 p hp)).1]
 | sl b n z =>
  obtain⟨hb,c,xs,T,e,h1,h2,h3⟩:=hr
  simp only[stI,Bool.and_eq_true] at h
  obtain⟨x,hx⟩:=Option.isSome_iff_exists.1 h.1
  obtain⟨y,hy⟩:=Option.isSome_iff_exists.1 h.2
  have k1:=(hM.blk b x hx).1
  have k2:=(hM'.blk b y hy).1
  obtain⟨a1,a2⟩:=hA.2 b hb
  rw[h1] at k1
  simp only[Option.some.injEq,Obj.cells.injEq] at k1
  refine⟨Nat.lt_of_lt_of_le hb hA.1,c,(cm' b).toArray,y.T,by rw[a1];exact e,k2,?_,h3⟩
  rw[h2,k1.1]
  simp[a2]
 | i z B=>exact hr
 | k n=>exact hr
 | v x=>exact hr
 | b k=>exact hr
 | fp l=>exact hr
 | ro z n f=>exact hr
 | ds L=>exact hr
 | _=>cases h
theorem st_T{V w w':World}{s:St}{m':List (Option Mb)}{r r':Nat->Nat}{cm cm':Nat->List Value}{a:Act}(hM:RM V r cm s.m w)(hM':RM V r' cm' m' w')(hA:Ag s.m r cm m' r' cm')(hT:RT V w r s.m.length s.t a):RT V w' r' m'.length ⟨s.t.n,s.t.r.mapD (stA s.m m') s.t.dp⟩ a :=
 ⟨hT.1,fun i v hv=>by
  obtain⟨h1,h2⟩:=Tm.get_lt hv
  have h1:i<s.t.n:=h1
  obtain⟨u,h3,h4⟩:=Tr.mapD_get (dp_lt h1) h2
  have hu:s.t.get i=some u:=by
   unfold Tm.get
   rw[show Nat.blt i s.t.n=true by simpa[Nat.blt_eq] using h1]
   exact h3
  have:=hT.2 i u hu
  subst h4
  unfold stA
  split
  ·exact this
  ·rename_i u
   split
   ·rename_i hs
    obtain⟨cs,g1,g2⟩:=this
    exact⟨cs,g1.impM fun i hi cs hc=>st_I hM hM' hA (List.all_eq_true.1 hs i hi) hc,g2⟩
   ·trivial
  ·trivial⟩
theorem iOps_seq{m0:List (Option Mb)}{r0:Nat->Nat}{cm0:Nat->List Value}{V:World}(hs:Sound P E call)(hI:InOk P inl){Q:Exit->Act->World->Prop}:∀ {l:List Oper} {s s':St} {q q':List Bool} {ps:List Prop} {a:Act} {w:World},iOps P E call I inl ops l s q=some (s',ps,q')->All ps->JR m0 r0 cm0 V s a w ->
  (∀a' W,JR m0 r0 cm0 V s' a' W->Q .normal a' W)->wpList P ops Q l a w
 | [],s,s',q,q',ps,a,w,h,_,hJ,hQ=>by
  unfold iOps at h
  cases h
  exact hQ _ _ hJ
 | o::l,s,s',q,q',ps,a,w,h,hp,hJ,hQ=>by
  obtain⟨r,cm,hA,hJ⟩:=hJ
  unfold iOps at h
  unfold wpList
  split at h
  ·cases h
  ·rename_i sg ps1 q1 hg
   cases h2:iOps P E call I inl ops l (put sg o.dst .und) q1 with
   | none=>simp[h2] at h
   | some z =>
    obtain⟨z1,z2,z3⟩:=z
    simp only[h2,Option.map_some,Option.some.injEq,Prod.mk.injEq] at h
    obtain⟨rfl,rfl,rfl⟩:=h
    obtain⟨p1,p2⟩:=All.app hp
    obtain⟨hJ,hw⟩:=hJ.gd hg p1
    rw[if_neg (by rw[hw];decide)]
    exact iOps_seq hs hI h2 p2 ⟨r,cm,by rw[put_m,gdA_m hg];exact hA,J.put hJ.1.1 hJ.2 hJ.1.2 rfl⟩ hQ
  ·rename_i sg ps1 q1 hg
   split at h
   ·rename_i f args hc
    split at h
    ·cases h
    ·rename_i v m' ps2 q2 hq
     cases h2:iOps P E call I inl ops l (put ⟨⟨sg.t.n,sg.t.r.mapD (stA sg.m m') sg.t.dp⟩,m',0⟩ o.dst (.one v)) q2 with
     | none=>simp[h2] at h
     | some z =>
      obtain⟨z1,z2,z3⟩:=z
      simp only[h2,Option.map_some,Option.some.injEq,Prod.mk.injEq] at h
      obtain⟨rfl,rfl,rfl⟩:=h
      obtain⟨p12,p2⟩:=All.app hp
      obtain⟨p1,p3⟩:=All.app p12
      obtain⟨⟨⟨hM,hD⟩,hT⟩,hw⟩:=hJ.gd hg p1
      rw[<- gdA_m hg] at hA
      unfold inCall at hc
      split at hc
      ·rename_i cl ho
       split at hc
       ·rename_i x hcl
        replace hcl:=calleeF_l hcl
        split at hc
        ·rename_i g cap lv hfn hlv
         split at hc
         ·rename_i hb
          simp only[Option.some.injEq,Prod.mk.injEq] at hc
          obtain⟨rfl,rfl⟩:=hc
          rw[Bool.and_eq_true] at hb
          obtain⟨cb,hcb⟩:=Option.isSome_iff_exists.1 hb.2
          obtain⟨fn,k1,k2⟩:=call_body hcb
          obtain⟨h3,h4⟩:=fnA_rep hT hfn
          have hv:=(evVs_rep hT hlv).app (caps_rep h3)
          rw[if_pos hw]
          refine .inl (Gives.wp (R:=fun x w'=>∃r' cm',Ag sg.m r cm m' r' cm'/\RM V r' cm' m' w'/\RepV V w' r' m'.length v x) (gives_enter (run_enter hs.nm k1 k2 ho hcl h4 w) ?_) ?_)
          ·have e:cl.args.map a.eval++(cap.map fun p=>Value.pointer (some ⟨r p.1,p.2,none⟩)).toArray=(cl.args.toList.map a.eval++cap.map fun p=>Value.pointer (some ⟨r p.1,p.2,none⟩)).toArray:=by
            apply Array.toList_inj.1;simp
           rw[e]
           exact hI _ _ _ _ _ _ _ _ hq p3 V w r cm _ hM hv
          ·rintro x w' ⟨r', cm', hB, hM', hr⟩
           exact iOps_seq hs hI h2 p2 ⟨r',cm',by rw[put_m];exact hA.trans hB,J.put hM' (st_T hM hM' hB hT) hD hr⟩ hQ
         ·cases hc
        ·cases hc
       ·cases hc
      ·cases hc
   ·split at h
    ·cases h
    ·rename_i v s1 ob q2 hd
     cases h2:iOps P E call I inl ops l (put s1 o.dst v) q2 with
     | none=>simp[h2] at h
     | some z =>
      obtain⟨z1,z2,z3⟩:=z
      simp only[h2,Option.map_some,Option.some.injEq,Prod.mk.injEq] at h
      obtain⟨rfl,rfl,rfl⟩:=h
      obtain⟨p12,p2⟩:=All.app hp
      obtain⟨p1,p3⟩:=All.app p12
      obtain⟨hJ,hw⟩:=hJ.gd hg p1
      rw[<- gdA_m hg] at hA
      rw[if_pos hw]
      refine .inl ((aDo_seq hs hJ hd p3).wp ?_)
      rintro x w' ⟨r',cm',hB,⟨h1,h3⟩,h4⟩
      exact iOps_seq hs hI h2 p2 ⟨r',cm',by rw[put_m];exact hA.trans hB,J.put h1 h3 hJ.1.2 h4⟩ hQ
theorem iCode_wp{m0:List (Option Mb)}{r0:Nat->Nat}{cm0:Nat->List Value}(hs:Sound P E call)(hI:InOk P inl):∀ {c:Code} {V:World} {s s':St} {q q':List Bool} {e:Ex} {ps:List Prop} {a:Act} {w:World} {Q:Exit->Act->World->Prop},iCode P E call I inl c s q=some (e,s',ps,q')->All ps->JR m0 r0 cm0 V s a w ->
  (∀a' W,JR m0 r0 cm0 V s' a' W->Q e.go a' W)->c.wp P Q a w
 | .seq x y,V,s,s',q,q',e,ps,a,w,Q,h,hp,hJ,hQ=>by
  unfold iCode at h
  refine wp_seq ?_
  split at h
  ·cases h
  ·rename_i s1 ps1 q1 h1
   cases h2:iCode P E call I inl y s1 q1 with
   | none=>simp[h2] at h
   | some z =>
    obtain⟨e2,s2,ps2,q2⟩:=z
    simp only[h2,Option.map_some,Option.some.injEq,Prod.mk.injEq] at h
    obtain⟨rfl,rfl,rfl,rfl⟩:=h
    obtain⟨p1,p2⟩:=All.app hp
    exact iCode_wp hs hI h1 p1 hJ fun a' W hW=>iCode_wp hs hI h2 p2 hW hQ
  ·rename_i hne
   refine iCode_wp hs hI h hp hJ fun a' W hW=>?_
   cases e with
   | nm=>exact absurd h (hne _ _ _)
   | rt=>exact hQ _ _ hW
   | ex k=>exact hQ _ _ hW
 | .cond c x y,V,s,s',q,q',e,ps,a,w,Q,h,hp,hJ,hQ=>by
  unfold iCode at h
  obtain⟨r,cm,hA,hj⟩:=hJ
  split at h
  ·rename_i q1 hb
   have hv:a.eval c=.bool true:=by simpa using (show [a.eval c]=[Value.bool true] from evI_rep hj.2 hb)
   exact wp_cond_true hv (iCode_wp hs hI h hp ⟨r,cm,hA,hj⟩ hQ)
  ·rename_i q1 hb
   have hv:a.eval c=.bool false:=by simpa using (show [a.eval c]=[Value.bool false] from evI_rep hj.2 hb)
   exact wp_cond_false hv (iCode_wp hs hI h hp ⟨r,cm,hA,hj⟩ hQ)
  ·rename_i b q1 hb
   have hv:a.eval c=.bool b:=by have:=(evI_rep hj.2 hb).1;simpa using this
   cases h2:iCode P E call I inl x s q1 with
   | none=>simp[h2] at h
   | some z =>
    obtain⟨e2,s2,ps2,q2⟩:=z
    simp only[h2,Option.map_some,Option.some.injEq,Prod.mk.injEq] at h
    obtain⟨rfl,rfl,rfl,rfl⟩:=h
    exact wp_cond_true (by rw[hv,hp.1]) (iCode_wp hs hI h2 hp.2 ⟨r,cm,hA,hj⟩ hQ)
  ·rename_i b q1 hb
   have hv:a.eval c=.bool b:=by have:=(evI_rep hj.2 hb).1;simpa using this
   cases h2:iCode P E call I inl y s q1 with
   | none=>simp[h2] at h
   | some z =>
    obtain⟨e2,s2,ps2,q2⟩:=z
    simp only[h2,Option.map_some,Option.some.injEq,Prod.mk.injEq] at h
    obtain⟨rfl,rfl,rfl,rfl⟩:=h
    exact wp_cond_false (by rw[hv,hp.1]) (iCode_wp hs hI h2 hp.2 ⟨r,cm,hA,hj⟩ hQ)
  ·cases h
 | .block id c,V,s,s',q,q',e,ps,a,w,Q,h,hp,hJ,hQ=>by
  unfold iCode at h
  cases h2:iCode P E call I inl c s q with
  | none=>simp[h2] at h
  | some z =>
   obtain⟨e2,s2,ps2,q2⟩:=z
   simp only[h2,Option.map_some,Option.some.injEq,Prod.mk.injEq] at h
   obtain⟨rfl,rfl,rfl,rfl⟩:=h
   refine wp_block (iCode_wp hs hI h2 hp hJ fun a' W hW=>?_)
   have:=hQ a' W hW
   cases e2 with
   | nm=>exact this
   | rt=>exact this
   | ex k =>
    simp only at this
    show if k=id then Q .normal a' W else Q (.exit k) a' W
    split at this
    ·rw[if_pos (by assumption)];exact this
    ·rw[if_neg (by assumption)];exact this
 | .region id ops d,V,s,s',q,q',e,ps,a,w,Q,h,hp,hJ,hQ=>by
  unfold iCode at h
  cases d with
  | false =>
   simp only at h
   cases h2:iOps P E call I inl ops ops.toList { s with al:=0 } q with
   | none=>simp[h2] at h
   | some z =>
    obtain⟨s2,ps2,q2⟩:=z
    simp only[h2,Option.map_some,Option.some.injEq,Prod.mk.injEq] at h
    obtain⟨rfl,rfl,rfl,rfl⟩:=h
    have:=wp_region_lit (id:=id) (l:=ops.toList) (iOps_seq (ops:=ops.toList.toArray) (Q:=Q) (s:={ s with al:=0 }) hs hI (by simpa using h2) hp hJ hQ)
    simpa using this
  | true=>exact aCode_wpR hs h hp hJ hQ
 | .loop c,V,s,s',q,q',e,ps,a,w,Q,h,hp,hJ,hQ=>by
  unfold iCode at h
  have key:∀(n:Nat) (s:St) (q:List Bool) (ps:List Prop) (a:Act) (w:World),aLoop (fun s q=>iCode P E call I inl c s q) n s q=some (e,s',ps,q')->All ps->JR m0 r0 cm0 V s a w->Code.rounds P c Q n a w:=by
   intro n
   induction n with
   | zero=>intro s q ps a w h;unfold aLoop at h;cases h
   | succ n ih =>
    intro s q ps a w h hp hJ
    unfold aLoop at h
    rw[rounds_succ]
    split at h
    ·cases h
    ·rename_i s1 ps1 q1 h1
     cases h2:aLoop (fun s q=>iCode P E call I inl c s q) n s1 q1 with
     | none=>simp[h2] at h
     | some z =>
      obtain⟨e2,s2,ps2,q2⟩:=z
      simp only[h2,Option.map_some,Option.some.injEq,Prod.mk.injEq] at h
      obtain⟨rfl,rfl,rfl,rfl⟩:=h
      obtain⟨p1,p2⟩:=All.app hp
      exact iCode_wp hs hI h1 p1 hJ fun a' W hW=>ih _ _ _ _ _ h2 p2 hW
    ·rename_i hne
     refine iCode_wp hs hI h hp hJ fun a' W hW=>?_
     cases e with
     | nm=>exact absurd h (hne _ _ _)
     | rt=>exact hQ _ _ hW
     | ex k=>exact hQ _ _ hW
  exact wp_loop_rounds _ (key _ _ _ _ _ _ h hp hJ)
 | .skip,V,s,s',q,q',e,ps,a,w,Q,h,hp,hJ,hQ=>by unfold iCode at h;exact aCode_wpR hs h hp hJ hQ
 | .label _,V,s,s',q,q',e,ps,a,w,Q,h,hp,hJ,hQ=>by unfold iCode at h;exact aCode_wpR hs h hp hJ hQ
 | .ret,V,s,s',q,q',e,ps,a,w,Q,h,hp,hJ,hQ=>by unfold iCode at h;exact aCode_wpR hs h hp hJ hQ
 | .exit _,V,s,s',q,q',e,ps,a,w,Q,h,hp,hJ,hQ=>by unfold iCode at h;exact aCode_wpR hs h hp hJ hQ
 | .rangeFunc _ _ _ _,V,s,s',q,q',e,ps,a,w,Q,h,hp,hJ,hQ=>by unfold iCode at h;exact aCode_wpR hs h hp hJ hQ
 | .scope _,V,s,s',q,q',e,ps,a,w,Q,h,hp,hJ,hQ=>by unfold iCode at h;exact aCode_wpR hs h hp hJ hQ
 | .goto _,V,s,s',q,q',e,ps,a,w,Q,h,hp,hJ,hQ=>by unfold iCode at h;exact aCode_wpR hs h hp hJ hQ
 | .refuse _,V,s,s',q,q',e,ps,a,w,Q,h,hp,hJ,hQ=>by unfold iCode at h;exact aCode_wpR hs h hp hJ hQ
theorem start_JR{V w:World}{m:List (Option Mb)}{r:Nat->Nat}{cm:Nat->List Value}{args:List V1}{vals:List Value}{n:Nat}(hM:RM V r cm m w)(h:RepVs V w r m.length args vals):J V r cm ⟨⟨args.length+(n-args.length),(Tr.full 12).fill 0 (args.map .one)⟩,m,0⟩ { tmps:=vals.toArray++Array.replicate (n-vals.toArray.size) undef,defers:=[] } w:=by
 have hl:=h.len
 refine⟨⟨hM,rfl⟩,by simp[hl],fun i v hi=>?_⟩
 rcases Tr.fill_get (Tm.get_lt hi).2 with⟨_,hi⟩|⟨hi,hge⟩
 ·rw [Nat.sub_zero, List.getElem?_map] at hi
  cases hv:args[i]? with
  | none=>simp[hv] at hi
  | some u =>
   simp only[hv,Option.map_some,Option.some.injEq] at hi
   subst hi
   have hlt:=(List.getElem?_eq_some_iff.1 hv).1
   have:=h.get hv
   have hlt2:i<vals.length:=by omega
   simp only[Array.getD_eq_getD_getElem?]
   rw[Array.getElem?_append_left (by simpa using hlt2)]
   simpa[RepA] using this
 ·obtain rfl := Tr.full_get hi
  simp only[List.length_map] at hge
  have hge:vals.length<=i:=by omega
  simp only[Array.getD_eq_getD_getElem?]
  rw[Array.getElem?_append_right (by simpa using hge)]
  show _=undef
  simp only[Array.getElem?_replicate]
  split<;>rfl
theorem iFun_ok(hs:Sound P E call):∀n,InOk P (iFun P E call I n)
 | 0=>fun _ _ _ _ _ _ _ _ h=>by unfold iFun at h;cases h
 | n+1=>fun f args m q v m' ps q' h hp V w r cm vals hM hv=>by
  unfold iFun at h
  split at h
  ·cases h
  ·rename_i fn hf
   split at h
   ·cases h
   ·rename_i c hc
    split at h
    ·cases h
    ·rename_i e s' ps' q1 hcode
     refine calls_of_wp hf hc ?_
     split at h
     ·cases h
     ·rename_i hex
      split at h
      ·rename_i u hl
       simp only[Option.some.injEq,Prod.mk.injEq] at h
       obtain⟨rfl,rfl,rfl,rfl⟩:=h
       refine iCode_wp (m0:=m) (r0:=r) (cm0:=cm) hs (iFun_ok hs n) hcode hp ⟨r,cm,.rfl,start_JR hM hv⟩ fun a' W' ⟨r',cm',hA,hJ⟩=>?_
       have:a'.defers=[]/\∃x,(results fn a'.tmps).run P W'=.ok x W'/\∃y,Ending.returned x=.returned y/\∃r' cm',Ag m r cm s'.m r' cm'/\RM V r' cm' s'.m W'/\RepV V W' r' s'.m.length u y:=by
        obtain⟨xs,h1,h2⟩:=aRess_run hJ hl
        obtain⟨x,ys,e1,h3,h4⟩:=h1
        cases h4
        subst e1
        refine⟨hJ.1.2,x,?_,x,rfl,r',cm',hA,hJ.1.1,h3⟩
        rw[results_eq,Sem.run_bind,Array.mapM_eq_mapM_toList,Sem.run_map,h2]
        rfl
       cases e with
       | nm=>exact this
       | rt=>exact this
       | ex k=>exact absurd rfl (hex k)
      ·cases h
theorem toO_vs{W:World}:∀ {l:List V1} {xs:List Value},RepVs W W (fun _=>0) 0 l xs->RepVs W W (fun _=>0) 0 (l.map toOV) xs
 | [],_,e=>e
 | _::_,_,⟨x,ys,e,h1,h2⟩=>⟨x,ys,e,toO_v h1,toO_vs h2⟩
end
theorem fokI{f:FuncId}{args:List V1}{res:V1}(X:List Eff)(K:List Con)(I:List FuncId)(q:List Bool)(pf:List Pf)(h:(iFun Tryz.prog (env X) (callK X K) I.contains 12 f (args.map toOV) [] q).map (fun z=>(laxV z.1,z.1.l.all (It.rk 0),z.2.2))=some (res,true,pf.map Pf.p,[])):Fok Tryz.prog f args (.one res):=by
 cases hz:iFun Tryz.prog (env X) (callK X K) I.contains 12 f (args.map toOV) [] q with
 | none=>rw[hz] at h;cases h
 | some z =>
  obtain⟨v,m',ps,q'⟩:=z
  rw[hz] at h
  simp only[Option.map_some,Option.some.injEq,Prod.mk.injEq] at h
  obtain⟨rfl,hk,rfl,rfl⟩:=h
  intro W vals hv
  refine (iFun_ok (snd_ok X K) 12 f _ [] q v m' _ [] hz (all_pf pf) W W (fun _=>0) (fun _=>[]) vals ⟨Below.refl _ _,fun b x hb=>absurd (mb_lt hb) (Nat.not_lt_zero b),fun b x hb=>absurd (mb_lt hb) (Nat.not_lt_zero b),fun b c x y hb=>absurd (mb_lt hb) (Nat.not_lt_zero b),fun b hb=>absurd hb (Nat.not_lt_zero b)⟩ (toO_vs hv)).mono ?_
  rintro e w' ⟨x,rfl,r',cm',_,hM,hr⟩
  exact⟨x,rfl,lax_v (rk0_v hk hr),hM.ext⟩
end
theorem aOps_pur{P:Program}{E:Env}{call:CallF}{ops:Array Oper}{V w0:World}(hs:Sound P E call){Q:Act->World->Prop}{F:World->Prop}(hF:∀W,F W->Ext w0 W)(hF0:F w0){own:List Nat}:∀ {l:List Oper} {s s':St} {q q':List Bool} {ob:Ob} {a:Act} {r:Nat->Nat} {cm:Nat->List Value},(∀o∈l,fkind o=0)->aOps P E call ops noQ l s q=some (s',ob,q')->All ob.ps->s.al=0->J V r cm s a w0 ->
  (∀a' W,JJ V s' a' W->Q a' W)->WpF P ops (fun W=>Ext w0 W) Q l a own F
 | [],s,s',q,q',ob,a,r,cm,_,h,_,_,hJ,hQ=>by
  unfold aOps at h
  cases h
  exact fun W hW=>hQ _ _ ⟨r,cm,J.mono _ _ hJ (hF W hW)⟩
 | o::l,s,s',q,q',ob,a,r,cm,hk,h,hp,h0,hJ,hQ=>by
  have hk':=fun x hx=>hk x (List.mem_cons_of_mem _ hx)
  have hko:=hk o (List.mem_cons_self ..)
  unfold aOps at h
  split at h
  ·cases h
  ·rename_i sg ps q1 hg
   simp only[noQ,Bool.false_eq_true,if_false] at h
   cases h2:aOps P E call ops noQ l (put sg o.dst .und) q1 with
   | none=>rw[h2] at h;cases h
   | some z =>
    obtain⟨z1,z2,z3⟩:=z
    rw[h2] at h
    simp only[Option.map_some,Option.some.injEq,Prod.mk.injEq] at h
    obtain⟨rfl,rfl,rfl⟩:=h
    obtain⟨p1,p2⟩:=All.app hp
    obtain⟨hJ,hw⟩:=hJ.gd hg p1
    exact .pure undef (.inr ⟨hw,rfl⟩) (aOps_pur hs hF hF0 hk' h2 p2 (by rw[put_al,gdA_al hg];exact h0) (J.put hJ.1.1 hJ.2 hJ.1.2 rfl) hQ)
  ·rename_i sg ps q1 hg
   split at h
   ·cases h
   ·rename_i v s1 ob1 q2 hd
    cases h2:aOps P E call ops noQ l (put s1 o.dst v) q2 with
    | none=>rw[h2] at h;cases h
    | some z =>
     obtain⟨z1,z2,z3⟩:=z
     rw[h2] at h
     simp only[Option.map_some,Option.some.injEq,Prod.mk.injEq] at h
     obtain⟨rfl,rfl,rfl⟩:=h
     obtain⟨p1,p2⟩:=All.app hp
     obtain⟨p3,p4⟩:=All.app p1
     obtain⟨hJ,hw⟩:=hJ.gd hg p3
     have hm:=hJ.1.1
     obtain⟨e1,_,x,hx,hv⟩:=aDo_pure (r:=r) (cm:=cm) (F:=fun W=>Ext w0 W) (S:=fun W=>Ext w0 W) hs.eq (fun _=>⟨w0,Below.refl _ _,fun _ h=>h,fun _ h=>h⟩) ⟨⟨w0,Below.refl _ _⟩,fun W hW=>(J.mono _ _ hJ hW).2⟩ (fun b m hb W hW=>((J.mono _ _ hJ hW).1.1.blk b m hb).2) (fun W hW=>Ext.step hm.ext hW) hko hd p4 (fun b m _ hb W hW=>((J.mono _ _ hJ hW).1.1.blk b m hb).1)
     subst e1
     exact .pure x (.inl ⟨hw,hx⟩) (aOps_pur hs hF hF0 hk' h2 p2 (by rw[put_al,gdA_al hg];exact h0) (J.put hJ.1.1 hJ.2 hJ.1.2 (hv w0 (Below.refl _ _))) hQ)
noncomputable def purR(X:List Eff)(K:List Con)(f:FuncId)(id n:Nat)(d d':Ds)(q:List Bool):Option (List Prop) :=
 match lpC f id with
 | .region _ ops true=>if floatB ops&&(ops.toList.all fun o=>fkind o==0)&&Tryz.prog.follows .mixedOrders then (match aOps Tryz.prog (env X) (callK X K) ops noQ ops.toList { mkS n d with al:=0 } q with
  | some (s,ob,[])=>if s.t.n=n then (leS s d').map (ob.ps++·) else none
  | _=>none) else none
 | _=>none
theorem orc_pur{X:List Eff}{K:List Con}{f:FuncId}{id n:Nat}{d d':Ds}(q:List Bool)(pf:List Pf)(h:purR X K f id n d d' q=some (pf.map Pf.p)):OrcOk Tryz.prog (lpC f id) ⟨n,d,.nm,d'⟩:=by
 have hp:=all_pf pf
 generalize pf.map Pf.p=ps at h hp
 unfold purR at h
 split at h
 ·rename_i k ops hc
  split at h
  ·rename_i hb
   simp only[Bool.and_eq_true,List.all_eq_true,beq_iff_eq] at hb
   split at h
   ·rename_i s ob hr
    split at h
    ·rename_i hn
     cases h2:leS s d' with
     | none=>simp[h2] at h
     | some ps2 =>
      simp only[h2,Option.map_some,Option.some.injEq] at h
      subst h
      obtain⟨p1,p2⟩:=All.app hp
      intro V a w Q hJ hQ
      obtain⟨r,cm,hJ⟩:=hJ
      rw[hc]
      have:=wp_region_G (id:=k) (l:=ops.toList) (Q:=Q) (a:=a) (w:=w) (fun W=>Ext w W) (fun _=>True) hb.2 (by simpa using hb.1.1) ⟨Below.refl _ _,trivial⟩ (fun W W' hW hx=>⟨Ext.step hW.1 hx,trivial⟩) (fun W hW=>hW.size)
       (aOps_pur (snd_ok X K) (fun W hW=>hW.1) ⟨Below.refl _ _,trivial⟩ (ops:=ops.toList.toArray) (s:={ mkS n d with al:=0 }) hb.1.2 (by simpa using hr) p1 rfl hJ fun a' W hW=>hQ a' W (le_J h2 p2 hn hW))
      simpa using this
    ·cases h
   ·cases h
  ·cases h
 ·cases h
def rebD(m:List (Option Mb)):List (Nat×Rq)->Option (List (Nat×Rq))
 | []=>some []
 | x::l=>match argVs m [x.2.v],rebD m l with
  | some [v],some r=>some ((x.1,.eq v)::r)
  | _,_=>none
theorem rebD_rep{V W:World}{r:Nat->Nat}{cm:Nat->List Value}{m:List (Option Mb)}(hM:RM V r cm m W){a:Act}:∀ {l l':List (Nat×Rq)},rebD m l=some l'->(∀x∈l,RepV V W r m.length x.2.v (a.tmps.getD x.1 undef))->∀x∈l',RepV W W (fun _=>0) 0 x.2.v (a.tmps.getD x.1 undef)
 | [],_,h,_,x,hx=>by cases h;cases hx
 | y::l,l',h,hr,x,hx=>by
  unfold rebD at h
  split at h
  ·rename_i v r hv hl
   cases h
   rcases List.mem_cons.1 hx with rfl|hx
   ·obtain ⟨x, ys, e, h1, h2⟩ := argVs_rep hM hv ⟨_, [], rfl, hr y (List.mem_cons_self ..), rfl⟩
    cases h2
    obtain⟨rfl,_⟩:=List.cons.inj e
    exact h1
   ·exact rebD_rep hM hl (fun z hz=>hr z (List.mem_cons_of_mem _ hz)) x hx
  ·cases h
noncomputable def rebR(X:List Eff)(K:List Con)(f:FuncId)(id n:Nat)(d:Ds)(t:Nat)(v:V1)(q:List Bool):Option (List Prop) :=
 match lpC f id with
 | .region _ ops true=>(match rebD d.m d.l with
  | some l=>if (d.l.all fun x=>offT ops.toList x.1&&!(x.1==t))&&v.l.all (It.rk 0) then runD X K ops.toList n ⟨l,[]⟩ ⟨[(t,.eq v)],[]⟩ q else none
  | none=>none)
 | _=>none
theorem orc_reb{X:List Eff}{K:List Con}{f:FuncId}{id n:Nat}{d:Ds}{t:Nat}{v:V1}(hG:(d.l.map fun x=>(mkS n d).t.get x.1)=d.l.map fun x=>some (.one x.2.v))(hT:(mkS n ⟨[(t,.eq v)],[]⟩).t.get t=some (.one v))(q:List Bool)(pf:List Pf)(h:rebR X K f id n d t v q=some (pf.map Pf.p)):OrcOk Tryz.prog (lpC f id) ⟨n,d,.nm,⟨(t,.eq v)::d.l,d.m⟩⟩:=by
 have hG:=fun x hx=>List.map_inj_left.1 hG x hx
 unfold rebR at h
 split at h
 ·rename_i k ops hc
  split at h
  ·rename_i l hl
   split at h
   ·rename_i hb
    simp only[Bool.and_eq_true,List.all_eq_true] at hb
    intro V a w Q hJ hQ
    obtain⟨r,cm,⟨hM,hd⟩,hR⟩:=hJ
    rw[hc]
    have hold:=old_J (n:=n) (a:=a) hR.1 (rebD_rep hM hl fun x hx=>hR.2 x.1 _ (hG x hx))
    have:=regD_wp (id:=k) (ops:=ops.toList) (a:=a) pf h hold (Q:=Q) (fun a' W hJ' hoff=>?_)
    ·simpa using this
    ·obtain ⟨r', cm', ⟨hM', hd'⟩, hR'⟩ := hJ'
     refine hQ _ _ ⟨r,cm,⟨hM.step hM'.ext,hd⟩,hR'.1,fun i u hu=>?_⟩
     rcases Tr.sets_get (Tm.get_lt hu).2 with rfl|⟨x,hx,rfl⟩
     ·trivial
     ·rcases List.mem_cons.1 hx with e | hx
      ·cases e
       exact rk0_v (List.all_eq_true.2 hb.2) (hR'.2 t _ hT)
      ·have h1 := hR.2 i _ (hG (i, x) hx)
       have h2:=hoff i (by have:=hb.1 (i,x) hx;simp only at this;exact this.1)
       show RepV V W r d.m.length x.v ((dfA a.defers a').tmps.getD i undef)
       show RepV V W r d.m.length x.v (a'.tmps.getD i undef)
       rw[h2]
       exact RepA.imp (v:=.one x.v) (RepI.ext hM'.ext) h1
   ·cases h
  ·cases h
 ·cases h
end Go.Proofs.YtghemgdfmldoeaaGreat
