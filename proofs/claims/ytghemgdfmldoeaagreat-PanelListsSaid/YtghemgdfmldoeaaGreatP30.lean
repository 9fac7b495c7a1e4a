import Derived.Test.YtghemgdfmldoeaaGreatP29
set_option linter.unusedVariables false
set_option linter.unusedSimpArgs false
namespace Go.Proofs.YtghemgdfmldoeaaGreat
open Go.RowKit
set_option maxRecDepth 100000
section
structure EI (s:Sh):Prop where
 lo:1<=s.n
 hi:s.n<=1000
 r:s.r=0
 x0:(iM s.e (s.n-1)).natAbs<=4000
 y0:(jc s.e (s.n-1)).natAbs<=4000
 x1:(jw s.e (s.n-1)).natAbs<=4000
 y1:(jO s.e (s.n-1)).natAbs<=4000
def MR(s:Sh):V1:=⟨true,[.i (iM s.e (s.n-1)) 4000,.i (jc s.e (s.n-1)) 4000,.i (jw s.e (s.n-1)) 4000,.i (jO s.e (s.n-1)) 4000]⟩
theorem VZ(s:Sh)(h:EI s):ae Tryz.prog 117 [bh s] (.one (MR s)):=by
 refine (a3Y s h.hi).mono λV W x hr=>?_
 have w:∀z:Int,z.natAbs<=4000->IntKind.i64.wrap z=z:=λz hz=>wrap_in (by unfold I64;omega)
 have h0:=h.lo;rw[qc,if_neg (by omega),h.r] at hr;simp only[Int.sub_zero,Int.add_zero,w _ h.x0,w _ h.y0,w _ h.x1,w _ h.y1] at hr;obtain⟨cs,⟨_,_,rfl,⟨rfl,_,i1⟩,_,_,rfl,⟨rfl,_,i2⟩,_,_,rfl,⟨rfl,_,i3⟩,_,_,rfl,⟨rfl,_,i4⟩,rfl⟩,e,_⟩:=hr;exact⟨_,⟨_,_,rfl,⟨rfl,h.x0,i1⟩,_,_,rfl,⟨rfl,h.y0,i2⟩,_,_,rfl,⟨rfl,h.x1,i3⟩,_,[],rfl,⟨rfl,h.y1,i4⟩,rfl⟩,e,nofun⟩
def Yn:ah:=qe qh 117 (λs=>.one (MR s)) (λs=>[EI s]) λs h=>VZ s h.1
def KW(o:Sh)(t:Int):Sh:=Iy ⟨0,0,t,false⟩ o
def bX(o:Sh)(L:List Int)(k:Nat):Sh:=KW o (nV L (1+3*k) 4)
def nQ(o:Sh)(L:List Int):Nat->Int
 | 0=>0|k+1=>nQ o L k+jw (bX o L k).e (o.n-1)-iM (bX o L k).e (o.n-1)+10+nV L (1+3*k+2) 10
def nP(o:Sh)(L:List Int)(k:Nat):bG:=⟨nQ o L k-iM (bX o L k).e (o.n-1),5*nV L (1+3*k+1) 4-jc (bX o L k).e (o.n-1),nV L (1+3*k) 4,false⟩
def fF(L:List Int):Nat:=(1+nV L 0 3).toNat
def kE(L:List Int):Nat:=1+3*fF L
def fo(L:List Int):Nat:=(nV L (kE L) 3).toNat
def Jk(L:List Int)(k:Nat):Ed :=
 let a:=kE L+1+4*k
 ⟨1,nV L a 100,-20-nV L (a+1) 10,nV L a 100+nV L (a+3) 30,-20-nV L (a+1) 10,0,0⟩
def Jl(L:List Int)(k:Nat):Int:=1+nV L (kE L+1+4*k+2) 3
def pnT(L:List Int)(k:Nat):Sh:=⟨1,1,λ_=>Jk L k,Jl L k⟩
def DL(L:List Int)(k:Nat):List It:=[.i 1 lim,.d (.ed 1 λq=>[e7 (Jk L k)].getD q []),.i (Jl L k) lim]
def zC(n:Nat)(L:List Int):It:=.ol 30 3 n λi=>DL L i
def iJ(L:List Int):Nat:=kE L+1+4*fo L
def iK(L:List Int):Nat:=(nV L (iJ L) 3).toNat
def wx(L:List Int)(k:Nat):Int×Int:=(30*nV L (iJ L+2+2*k) 9,-10-nV L (iJ L+2+2*k+1) 5)
def Jj(o:Sh)(L:List Int):Pnl:=⟨fF L,nP o L,fo L,pnT L,iK L,wx L,2+nV L (iJ L+1) 3⟩
def iF:FuncId:=51
def xr:List ah:=[Yo,Yn]
def g8:It:=.v (.slice none 0 0)
def mK(n:Nat)(f:Nat->bG):It:=.ol 74 4 n λi=>aX (f i)
def Kx(n:Nat)(f:Nat->Sh):It:=.ol 30 3 n λi=>bY (f i)
def wC(n:Nat)(f:Nat->Int×Int):It:=.ol 24 2 n λi=>ptI (f i)
def YU(L:List Int)(k:Nat):Option Mb:=some ⟨105,[.dr L (nK L k)]⟩
def ww(o:Sh)(L:List Int)(i:Nat)(c:List It):List (Option Mb):=lU o++[some ⟨43,[g8,g8,g8,.k 0]⟩,YU L i,some ⟨43,c⟩]
def wz:List (Nat×Rq):=[(2,.eq (ak 0)),(4,.eq (ak 1)),(5,.eq (ak 2)),(6,.eq (ak 3))]
def zm(o:Sh)(L:List Int)(k:Nat):Ds:=⟨(7,.le (aj (nQ o L k) 30000))::(8,.le (aj (fF L:Int) 2000))::(9,.le (aj (k:Int) 2000))::wz,ww o L (1+3*k) [mK k (nP o L),g8,g8,.k 0]⟩
structure rB (o:Sh):Prop where
 mv:∀t:Int,0<=t->t<4->EX o ⟨0,0,t,false⟩
 bx:∀t:Int,0<=t->t<4->EI (KW o t)
theorem Q6{o:Sh}(h:rB o)(L:List Int):∀k,(nQ o L k).natAbs<=8020*k
 | 0=>by simp[nQ]|k+1=>by
  have ih:=Q6 h L k;have t:=eG L (1+3*k) (m:=4) (by omega);have d:=eG L (1+3*k+2) (m:=10) (by omega);have b:=h.bx _ t.1 t.2;have b0:=b.x0;have b1:=b.x1;have e0:(KW o (nV L (1+3*k) 4)).n=o.n:=rfl;rw[e0] at b0 b1;unfold nQ bX;omega
theorem Dq(L:List Int):1<=fF L/\fF L<=3/\(fF L:Int)=1+nV L 0 3:=by
 have t:=eG L 0 (m:=3) (by omega);unfold fF;omega
def qN(L:List Int)(i j:Nat)(h:i=j):Pf:=⟨It.dr L (nK L i)=.dr L (nK L j),by rw[h]⟩
def cw:Pf:=⟨g8=g8,rfl⟩
def qQ:List Pf:=[pR (ak 0),pR (ak 1),pR (ak 2),pR (ak 3)]
def a3v(o:Sh)(L:List Int)(k:Nat):List It:=[.i (nQ o L k-iM (bX o L k).e (o.n-1)) 34000,.i (5*nV L (1+3*k+1) 4-jc (bX o L k).e (o.n-1)) 4020,.i (nV L (1+3*k) 4) 4,.b false]
theorem a3s(o:Sh)(h:rB o)(L:List Int)(k:Nat)(hk:k<fF L):Rnd [aJ,dZ] xr iF 12 [] (nF iF) (zm o L k) (zm o L (k+1)) .nm:=by
 have t:=eG L (1+3*k) (m:=4) (by omega);have n3:=(Dq L).2.1;have b:=Q6 h L (k+1);exact⟨[true],[pT (aZ (show (k:Int)<(fF L:Int) by omega)),pP (h.mv _ t.1 t.2),bN o,pP (h.bx _ t.1 t.2),bN (bX o L k),pP (show k+1<=1000 by omega),pP (Nat.le_refl k),⟨nQ o L (k+1)=nQ o L (k+1)/\(nQ o L (k+1)).natAbs<=30000,rfl,by omega⟩,qZ (fF L),pI k (by omega)]++qQ++fk o++[cw,cw,cw,qN L (1+3*k+3) (1+3*(k+1)) rfl,qA aX (nP o L) k (k+1) (a3v o L k) rfl rfl,cw,cw],by kernel_rfl⟩
def Je(o:Sh)(L:List Int):Ds:=⟨wz,ww o L (kE L) [mK (fF L) (nP o L),g8,g8,.k 0]⟩
def uA(o:Sh)(L:List Int):Pf:=⟨fF L=fF L/\∀i,i<fF L->(λi=>aX (nP o L i)) i=(λi=>aX (nP o L i)) i,rfl,λ_ _=>rfl⟩
theorem a3r(o:Sh)(h:rB o)(L:List Int):bJ Tryz.prog (bm iF 12) ⟨nF iF,zm o L 0,.ex 0,Je o L⟩ :=
 bW (X:=[aJ,dZ]) (K:=xr) (f:=iF) (id:=12) (n:=nF iF) (fF L) (zm o L) (λ_=>[]) (e:=.ex 0) (d1:=Je o L) (by kernel_rfl) (λ_=>by kernel_rfl) (λ_ _=>LT.nil) (a3s o h L)
  ⟨[false],[pF (ce (show ¬(fF L:Int)<(fF L:Int) by omega))]++qQ++fk o++[cw,cw,cw,qN L (1+3*fF L) (kE L) rfl,uA o L,cw,cw],by kernel_rfl⟩ nofun
theorem Du(L:List Int):fo L<=2/\(fo L:Int)=nV L (kE L) 3:=by
 have t:=eG L (kE L) (m:=3) (by omega);unfold fo;omega
theorem Dt(L:List Int):iK L<=2/\(iK L:Int)=nV L (iJ L) 3:=by
 have t:=eG L (iJ L) (m:=3) (by omega);unfold iK;omega
def Jf(o:Sh)(L:List Int)(j:Nat):Ds:=⟨(8,.le (aj (fo L:Int) 2000))::(12,.le (aj (j:Int) 2000))::wz,ww o L (kE L+1+4*j) [mK (fF L) (nP o L),zC j L,g8,.k 0]⟩
def Jg(o:Sh)(L:List Int):Ds:=⟨wz,ww o L (iJ L) [mK (fF L) (nP o L),zC (fo L) L,g8,.k 0]⟩
def a3x(L:List Int)(k:Nat):List It:=[.k 1,.d (.ed 1 λq=>[e7 (Jk L k)].getD q []),.i (Jl L k) 4]
def DK(L:List Int)(N M:Nat)(h:N=M):Pf:=⟨N=M/\∀i,i<N->(λi=>DL L i) i=(λi=>DL L i) i,h,λ_ _=>rfl⟩
theorem a3t(o:Sh)(L:List Int):bJ Tryz.prog (bm iF 30) ⟨nF iF,Jf o L 0,.ex 2,Jg o L⟩ :=
 bW (X:=[aJ,dZ]) (K:=xr) (f:=iF) (id:=30) (n:=nF iF) (fo L) (Jf o L) (λ_=>[]) (e:=.ex 2) (d1:=Jg o L) (by kernel_rfl) (λ_=>by kernel_rfl) (λ_ _=>LT.nil)
  (λj hj => by
   have n3:=(Du L).1;exact⟨[true],[pT (aZ (show (j:Int)<(fo L:Int) by omega)),pP (show j+1<=1000 by omega),pP (Nat.le_refl j),qZ (fo L),pI j (by omega)]++qQ++fk o++[cw,cw,cw,qN L (kE L+1+4*j+4) (kE L+1+4*(j+1)) rfl,uA o L,qA (λi=>i) (DL L) j (j+1) (a3x L j) rfl rfl,cw],by kernel_rfl⟩)
  ⟨[false],[pF (ce (show ¬(fo L:Int)<(fo L:Int) by omega))]++qQ++fk o++[cw,cw,cw,qN L (kE L+1+4*fo L) (iJ L) rfl,uA o L,DK L (fo L) (fo L) rfl,cw],by kernel_rfl⟩ nofun
def wy(L:List Int):Int:=2+nV L (iJ L+1) 3
def Jh(o:Sh)(L:List Int)(j:Nat):Ds:=⟨(8,.le (aj (iK L:Int) 2000))::(14,.le (aj (j:Int) 2000))::wz,ww o L (iJ L+2+2*j) [mK (fF L) (nP o L),zC (fo L) L,wC j (wx L),.i (wy L) lim]⟩
def Ji(o:Sh)(L:List Int):Ds:=⟨wz,ww o L (iJ L+2+2*iK L) [mK (fF L) (nP o L),zC (fo L) L,wC (iK L) (wx L),.i (wy L) lim]⟩
def a3w(L:List Int)(k:Nat):List It:=[.i (30*nV L (iJ L+2+2*k) 9) 270,.i (-10-nV L (iJ L+2+2*k+1) 5) 15]
theorem a3u(o:Sh)(L:List Int):bJ Tryz.prog (bm iF 44) ⟨nF iF,Jh o L 0,.ex 4,Ji o L⟩ :=
 bW (X:=[aJ,dZ]) (K:=xr) (f:=iF) (id:=44) (n:=nF iF) (iK L) (Jh o L) (λ_=>[]) (e:=.ex 4) (d1:=Ji o L) (by kernel_rfl) (λ_=>by kernel_rfl) (λ_ _=>LT.nil)
  (λj hj => by
   have n3:=(Dt L).1;exact⟨[true],[pT (aZ (show (j:Int)<(iK L:Int) by omega)),pP (show j+1<=1000 by omega),pP (Nat.le_refl j),qZ (iK L),pI j (by omega)]++qQ++fk o++[cw,cw,cw,qN L (iJ L+2+2*j+2) (iJ L+2+2*(j+1)) rfl,uA o L,DK L (fo L) (fo L) rfl,qA ptI (wx L) j (j+1) (a3w L j) rfl rfl,qZ (wy L)],by kernel_rfl⟩)
  ⟨[false],[pF (ce (show ¬(iK L:Int)<(iK L:Int) by omega))]++qQ++fk o++[cw,cw,cw,qN L (iJ L+2+2*iK L) (iJ L+2+2*iK L) rfl,uA o L,DK L (fo L) (fo L) rfl,qL ptI (wx L) (iK L) (iK L) rfl,qZ (wy L)],by kernel_rfl⟩ nofun
def z0:Pf:=⟨(0:Nat)=0,rfl⟩
theorem a3z(o:Sh)(h:rB o)(L:List Int):ae Tryz.prog iF [bh o,⟨false,[.ds L]⟩] (.one ⟨true,[mK (fF L) (nP o L),zC (fo L) L,wC (iK L) (wx L),.i (wy L) lim]⟩) :=
 cD [aJ,dZ] xr [(12,⟨nF iF,zm o L 0,.ex 0,Je o L⟩),(30,⟨nF iF,Jf o L 0,.ex 2,Jg o L⟩),(44,⟨nF iF,Jh o L 0,.ex 4,Ji o L⟩)] (LT.cons (a3r o h L) (LT.cons (a3t o L) (LT.cons (a3u o L) LT.nil))) []
  ([⟨(0 : Int) = nQ o L 0, rfl⟩, ⟨1 + nV L 0 3 = (fF L : Int), (Dq L).2.2.symm⟩, q0] ++ qQ ++ fk o ++ [cw, cw, cw, qN L 1 (1 + 3 * 0) rfl, z0, cw, cw,
   ⟨nV L (kE L) 3=(fo L:Int),(Du L).2.symm⟩,q0]++qQ++fk o++[cw,cw,cw,qN L (kE L+1) (kE L+1+4*0) rfl,uA o L,z0,cw,
   ⟨nV L (iJ L) 3=(iK L:Int),(Dt L).2.symm⟩,q0]++qQ++fk o++[cw,cw,cw,qN L (iJ L+2) (iJ L+2+2*0) rfl,uA o L,DK L (fo L) (fo L) rfl,z0,qZ (wy L)]) (by kernel_rfl)
def ff(p:Pnl):V1:=⟨true,[mK p.nc p.c,Kx p.nt p.t,wC p.nm p.m,.i p.r lim]⟩
theorem qK{V W:World}{r:Nat->Nat}{k:Nat}{T:TypeId}{z n:Nat}{f g:Nat->List It}{v:Value}(h:∀i,i<n->∀cs,cE W (f i) cs->cE W (g i) cs):eb V W r k T z n f v->eb V W r k T z n g v
 | .inl e=>.inl e|.inr ⟨b,c,xs,e,h1,h2,h3,h4,h5,h6,h7⟩=>.inr ⟨b,c,xs,e,h1,h2,h3,h4,h5,h6,λi hi=>by
  obtain⟨cs,d,k1,k2,k3⟩:=h7 i hi;exact⟨cs,d,k1,k2,h i hi cs k3⟩⟩
theorem a3y(o:Sh)(h:rB o)(L:List Int):ae Tryz.prog iF [bh o,⟨false,[.ds L]⟩] (.one (ff (Jj o L))) :=
 (a3z o h L).mono λV W x hr => by
  obtain⟨cs,⟨c1,_,e1,h1,c2,_,e2,⟨v,e3,h2⟩,h3⟩,h4⟩:=hr;refine⟨cs,⟨c1,_,e1,h1,c2,_,e2,⟨v,e3,qK (λi hi ds hd=>?_) h2⟩,h3⟩,h4⟩;obtain⟨d1,_,f1,g1,d2,_,f2,⟨u,f3,g2⟩,g3⟩:=hd;exact⟨d1,_,f1,g1,d2,_,f2,⟨u,f3,GN (λq (hq:q<1)=>by
   obtain rfl:q=0:=Nat.lt_one_iff.1 hq;rfl) g2⟩,g3⟩
def Ys:gg where
 α:=List Int
 C:=λL=>⟨false,[.ds L]⟩
 d:=fun|⟨false,[.ds L]⟩=>some (L,[])|_=>none
 ok:=by
  intro v a ps h hp W x hr;split at h<;>cases h;exact hr
def Yh:ah:=gi qh Ys iF (λo L=>.one (ff (Jj o L))) (λo _=>[rB o]) λo L h=>a3y o h.1 L
end
section
abbrev xp:=FuncId->List V1->List (Option Mb)->List Bool->Option (V1×List (Option Mb)×List Prop×List Bool)
def Ky(m m':List (Option Mb)):It->Bool
 | .i _ _ | .k _ | .v _ | .b _ | .p _ _ | .fp _ | .fn _ _ | .ro _ _ _ | .ds _=>true|.sl b _ _=>(mb m b).isSome&&(mb m' b).isSome|_=>false
def stA(m m':List (Option Mb)):AV->AV
 | .und=>.und|.one u=>if u.l.all (Ky m m') then .one u else .any|_=>.any
def O7(P:Program)(I:FuncId->Bool)(o:Oper)(s:St):Option (FuncId×List V1) :=
 match o.op with
 | .call c=>match vg c.callee with
  | some (.inl x)=>match vC s x,qm s c.args.toList with
   | some (f,cap),some l=>if (I f&&((P.funcs[f]?).bind (·.body)).isSome)=true then some (f,l++cap.map λp=>⟨false,[.p p.1 p.2]⟩) else none
   | _,_=>none
  | _=>none
 | _=>none
def nA(P:Program)(E:Env)(call:gw)(I:FuncId->Bool)(inl:xp)(ops:Array Oper):List Oper->St->List Bool->Option (St×List Prop×List Bool)
 | [],s,q=>some (s,[],q)
 | o::l,s,q=>match qt ops o s q with
  | none=>none
  | some (false,s,ps,q)=>(nA P E call I inl ops l (put s o.dst .und) q).map λr=>(r.1,ps++r.2.1,r.2.2)
  | some (true,s,ps,q)=>match O7 P I o s with
   | some (f,args)=>match inl f args s.m q with
    | none=>none
    | some (v,m',ps',q)=>(nA P E call I inl ops l (put ⟨⟨s.t.n,s.t.r.mapD (stA s.m m') s.t.dp⟩,m',0⟩ o.dst (.one v)) q).map λr=>(r.1,(ps++ps')++r.2.1,r.2.2)
   | none=>match oC P E call o s q with
    | none=>none
    | some (v,s,ob,q)=>(nA P E call I inl ops l (put s o.dst v) q).map λr=>(r.1,(ps++ob.ps)++r.2.1,r.2.2)
def eS(P:Program)(E:Env)(call:gw)(I:FuncId->Bool)(inl:xp):Code->St->List Bool->Option (Ex×St×List Prop×List Bool)
 | .seq a b,s,q=>match eS P E call I inl a s q with
  | none=>none
  | some (.nm,s,ps,q)=>(eS P E call I inl b s q).map λr=>(r.1,r.2.1,ps++r.2.2.1,r.2.2.2)
  | r=>r
 | .cond c x y,s,q=>match evI s c,q with
  | some (.b true),q=>eS P E call I inl x s q
  | some (.b false),q=>eS P E call I inl y s q
  | some (.v (.bool b)),true::q=>(eS P E call I inl x s q).map λr=>(r.1,r.2.1,(b=true)::r.2.2.1,r.2.2.2)
  | some (.v (.bool b)),false::q=>(eS P E call I inl y s q).map λr=>(r.1,r.2.1,(b=false)::r.2.2.1,r.2.2.2)
  | _,_=>none
 | .loop c,s,q=>jT (λs q=>eS P E call I inl c s q) 100 s q
 | .block id c,s,q=>(eS P E call I inl c s q).map λr=>((match r.1 with | .ex k=>if k=id then .nm else .ex k|e=>e),r.2)
 | .region id ops d,s,q=>match d with
  | false=>(nA P E call I inl ops ops.toList { s with al:=0 } q).map λr=>(.nm,r.1,r.2.1,r.2.2)
  | true=>dM P E call (.region id ops true) s q
 | c,s,q=>dM P E call c s q
def vH(P:Program)(E:Env)(call:gw)(I:FuncId->Bool):Nat->xp
 | 0=>λ_ _ _ _=>none|n+1=>λf args m q=>match P.funcs[f]? with|none=>none|some fn=>match fn.body with|none=>none|some c=>match eS P E call I (vH P E call I n) c ⟨⟨args.length+(fn.ntmps-args.length),(Tr.full 12).fill 0 (args.map .one)⟩,m,0⟩ q with|none=>none|some (e,s,ps,q)=>match e with|.ex _=>none|_=>match qa P s fn.results.toList with|some [v]=>some (v,s.m,ps,q)|_=>none
section
variable {P:Program} {E:Env} {call:gw} {I:FuncId->Bool} {inl:xp} {ops:Array Oper}
def EP(P:Program)(inl:xp):Prop:=∀f args m q v m' ps q',inl f args m q=some (v,m',ps,q')->aw ps->∀(V w:World) (r:Nat->Nat) (cm:Nat->List Value) (vals:List Value),RM V r cm m w->aV V w r m.length args vals ->
 Calls P f vals.toArray w λe w'=>∃x,e=.returned x/\∃r' cm',Ag m r cm m' r' cm'/\RM V r' cm' m' w'/\au V w' r' m'.length v x
theorem a6p{V w w':World}{m m':List (Option Mb)}{r r':Nat->Nat}{cm cm':Nat->List Value}(hM:RM V r cm m w)(hM':RM V r' cm' m' w')(hA:Ag m r cm m' r' cm'){i:It}(h:Ky m m' i=true){cs:List Value}(hr:af V w r m.length i cs):af V w' r' m'.length i cs:=by
 cases i with|p b o=>exact⟨Nat.lt_of_lt_of_le hr.1 hA.1,by rw[(hA.2 b hr.1).1];exact hr.2⟩|fn f l =>
  refine⟨λp hp=>Nat.lt_of_lt_of_le (hr.1 p hp) hA.1,?_⟩;rw[hr.2];congr 3;exact List.map_congr_left λp hp=>by rw[(hA.2 p.1 (hr.1 p hp)).1]|sl b n z =>
  obtain⟨hb,c,xs,T,e,h1,h2,h3⟩:=hr;simp only[Ky,Bool.and_eq_true] at h;obtain⟨x,hx⟩:=Option.isSome_iff_exists.1 h.1;obtain⟨y,hy⟩:=Option.isSome_iff_exists.1 h.2;have k1:=(hM.blk b x hx).1;have k2:=(hM'.blk b y hy).1;obtain⟨a1,a2⟩:=hA.2 b hb;rw[h1] at k1;simp only[Option.some.injEq,Obj.cells.injEq] at k1;refine⟨Nat.lt_of_lt_of_le hb hA.1,c,(cm' b).toArray,y.T,by rw[a1];exact e,k2,?_,h3⟩;rw[h2,k1.1];simp[a2]|i z B=>exact hr|k n=>exact hr|v x=>exact hr|b k=>exact hr|fp l=>exact hr|ro z n f=>exact hr|ds L=>exact hr|_=>cases h
theorem a6q{V w w':World}{s:St}{m':List (Option Mb)}{r r':Nat->Nat}{cm cm':Nat->List Value}{a:Act}(hM:RM V r cm s.m w)(hM':RM V r' cm' m' w')(hA:Ag s.m r cm m' r' cm')(hT:RT V w r s.m.length s.t a):RT V w' r' m'.length ⟨s.t.n,s.t.r.mapD (stA s.m m') s.t.dp⟩ a :=
 ⟨hT.1,λi v hv=>by
  obtain⟨h1,h2⟩:=Tm.get_lt hv;have h1:i<s.t.n:=h1;obtain⟨u,h3,h4⟩:=Tr.mapD_get (Gl h1) h2;have hu:s.t.get i=some u:=by
   unfold Tm.get;rw[show Nat.blt i s.t.n=true by simpa[Nat.blt_eq] using h1];exact h3
  have:=hT.2 i u hu;subst h4;unfold stA;split
  ·exact this
  ·rename_i u;split
   ·rename_i hs;obtain⟨cs,g1,g2⟩:=this;exact⟨cs,g1.impM λi hi cs hc=>a6p hM hM' hA (List.all_eq_true.1 hs i hi) hc,g2⟩
   ·trivial
  ·trivial⟩
theorem BZ{m0:List (Option Mb)}{r0:Nat->Nat}{cm0:Nat->List Value}{V:World}(hs:iP P E call)(hI:EP P inl){Q:Exit->Act->World->Prop}:∀ {l:List Oper} {s s':St} {q q':List Bool} {ps:List Prop} {a:Act} {w:World},nA P E call I inl ops l s q=some (s',ps,q')->aw ps->JR m0 r0 cm0 V s a w ->
  (∀a' W,JR m0 r0 cm0 V s' a' W->Q .normal a' W)->wpList P ops Q l a w
 | [],s,s',q,q',ps,a,w,h,_,hJ,hQ=>by
  unfold nA at h;cases h;exact hQ _ _ hJ
 | o::l,s,s',q,q',ps,a,w,h,hp,hJ,hQ=>by
  obtain⟨r,cm,hA,hJ⟩:=hJ;unfold nA at h;unfold wpList;split at h
  ·cases h
  ·rename_i sg ps1 q1 hg;cases h2:nA P E call I inl ops l (put sg o.dst .und) q1 with
   | none=>simp[h2] at h
   | some z =>
    obtain⟨z1,z2,z3⟩:=z;simp only[h2,Option.map_some,Option.some.injEq,Prod.mk.injEq] at h;obtain⟨rfl,rfl,rfl⟩:=h;obtain⟨p1,p2⟩:=aw.app hp;obtain⟨hJ,hw⟩:=hJ.gd hg p1;rw[if_neg (by rw[hw];decide)];exact BZ hs hI h2 p2 ⟨r,cm,by rw[fg,mG hg];exact hA,J.put hJ.1.1 hJ.2 hJ.1.2 rfl⟩ hQ
  ·rename_i sg ps1 q1 hg;split at h
   ·rename_i f args hc;split at h
    ·cases h
    ·rename_i v m' ps2 q2 hq;cases h2:nA P E call I inl ops l (put ⟨⟨sg.t.n,sg.t.r.mapD (stA sg.m m') sg.t.dp⟩,m',0⟩ o.dst (.one v)) q2 with
     | none=>simp[h2] at h
     | some z =>
      obtain⟨z1,z2,z3⟩:=z;simp only[h2,Option.map_some,Option.some.injEq,Prod.mk.injEq] at h;obtain⟨rfl,rfl,rfl⟩:=h;obtain⟨p12,p2⟩:=aw.app hp;obtain⟨p1,p3⟩:=aw.app p12;obtain⟨⟨⟨hM,hD⟩,hT⟩,hw⟩:=hJ.gd hg p1;rw[<- mG hg] at hA;unfold O7 at hc;split at hc
      ·rename_i cl ho;split at hc
       ·rename_i x hcl;replace hcl:=Bo hcl;split at hc
        ·rename_i g cap lv hfn hlv;split at hc
         ·rename_i hb;simp only[Option.some.injEq,Prod.mk.injEq] at hc;obtain⟨rfl,rfl⟩:=hc;rw[Bool.and_eq_true] at hb;obtain⟨cb,hcb⟩:=Option.isSome_iff_exists.1 hb.2;obtain⟨fn,k1,k2⟩:=Bn hcb;obtain⟨h3,h4⟩:=Hg hT hfn;have hv:=(mC hT hlv).app (Bq h3);rw[if_pos hw];refine .inl (aL.wp (R:=λx w'=>∃r' cm',Ag sg.m r cm m' r' cm'/\RM V r' cm' m' w'/\au V w' r' m'.length v x) (tU (sX hs.nm k1 k2 ho hcl h4 w) ?_) ?_)
          ·have e:cl.args.map a.eval++(cap.map λp=>Value.pointer (some ⟨r p.1,p.2,none⟩)).toArray=(cl.args.toList.map a.eval++cap.map λp=>Value.pointer (some ⟨r p.1,p.2,none⟩)).toArray:=by
            apply Array.toList_inj.1;simp
           rw[e];exact hI _ _ _ _ _ _ _ _ hq p3 V w r cm _ hM hv
          ·rintro x w' ⟨r', cm', hB, hM', hr⟩;exact BZ hs hI h2 p2 ⟨r',cm',by rw[fg];exact hA.trans hB,J.put hM' (a6q hM hM' hB hT) hD hr⟩ hQ
         ·cases hc
        ·cases hc
       ·cases hc
      ·cases hc
   ·split at h
    ·cases h
    ·rename_i v s1 ob q2 hd;cases h2:nA P E call I inl ops l (put s1 o.dst v) q2 with
     | none=>simp[h2] at h
     | some z =>
      obtain⟨z1,z2,z3⟩:=z;simp only[h2,Option.map_some,Option.some.injEq,Prod.mk.injEq] at h;obtain⟨rfl,rfl,rfl⟩:=h;obtain⟨p12,p2⟩:=aw.app hp;obtain⟨p1,p3⟩:=aw.app p12;obtain⟨hJ,hw⟩:=hJ.gd hg p1;rw[<- mG hg] at hA;rw[if_pos hw];refine .inl ((Fb hs hJ hd p3).wp ?_);rintro x w' ⟨r',cm',hB,⟨h1,h3⟩,h4⟩;exact BZ hs hI h2 p2 ⟨r',cm',by rw[fg];exact hA.trans hB,J.put h1 h3 hJ.1.2 h4⟩ hQ
theorem nz{m0:List (Option Mb)}{r0:Nat->Nat}{cm0:Nat->List Value}(hs:iP P E call)(hI:EP P inl):∀ {c:Code} {V:World} {s s':St} {q q':List Bool} {e:Ex} {ps:List Prop} {a:Act} {w:World} {Q:Exit->Act->World->Prop},eS P E call I inl c s q=some (e,s',ps,q')->aw ps->JR m0 r0 cm0 V s a w ->
  (∀a' W,JR m0 r0 cm0 V s' a' W->Q e.go a' W)->c.wp P Q a w
 | .seq x y,V,s,s',q,q',e,ps,a,w,Q,h,hp,hJ,hQ=>by
  unfold eS at h;refine wp_seq ?_;split at h
  ·cases h
  ·rename_i s1 ps1 q1 h1;cases h2:eS P E call I inl y s1 q1 with
   | none=>simp[h2] at h
   | some z =>
    obtain⟨e2,s2,ps2,q2⟩:=z;simp only[h2,Option.map_some,Option.some.injEq,Prod.mk.injEq] at h;obtain⟨rfl,rfl,rfl,rfl⟩:=h;obtain⟨p1,p2⟩:=aw.app hp;exact nz hs hI h1 p1 hJ λa' W hW=>nz hs hI h2 p2 hW hQ
  ·rename_i hne;refine nz hs hI h hp hJ λa' W hW=>?_
   cases e with
   | nm=>exact absurd h (hne _ _ _)
   | rt=>exact hQ _ _ hW
   | ex k=>exact hQ _ _ hW
 | .cond c x y,V,s,s',q,q',e,ps,a,w,Q,h,hp,hJ,hQ=>by
  unfold eS at h;obtain⟨r,cm,hA,hj⟩:=hJ;split at h
  ·rename_i q1 hb;have hv:a.eval c=.bool true:=by simpa using (show [a.eval c]=[Value.bool true] from gU hj.2 hb)
   exact wp_cond_true hv (nz hs hI h hp ⟨r,cm,hA,hj⟩ hQ)
  ·rename_i q1 hb;have hv:a.eval c=.bool false:=by simpa using (show [a.eval c]=[Value.bool false] from gU hj.2 hb)
   exact wp_cond_false hv (nz hs hI h hp ⟨r,cm,hA,hj⟩ hQ)
  ·rename_i b q1 hb;have hv:a.eval c=.bool b:=by have:=(gU hj.2 hb).1;simpa using this
   cases h2:eS P E call I inl x s q1 with
   | none=>simp[h2] at h
   | some z =>
    obtain⟨e2,s2,ps2,q2⟩:=z;simp only[h2,Option.map_some,Option.some.injEq,Prod.mk.injEq] at h;obtain⟨rfl,rfl,rfl,rfl⟩:=h;exact wp_cond_true (by rw[hv,hp.1]) (nz hs hI h2 hp.2 ⟨r,cm,hA,hj⟩ hQ)
  ·rename_i b q1 hb;have hv:a.eval c=.bool b:=by have:=(gU hj.2 hb).1;simpa using this
   cases h2:eS P E call I inl y s q1 with
   | none=>simp[h2] at h
   | some z =>
    obtain⟨e2,s2,ps2,q2⟩:=z;simp only[h2,Option.map_some,Option.some.injEq,Prod.mk.injEq] at h;obtain⟨rfl,rfl,rfl,rfl⟩:=h;exact wp_cond_false (by rw[hv,hp.1]) (nz hs hI h2 hp.2 ⟨r,cm,hA,hj⟩ hQ)
  ·cases h
 | .block id c,V,s,s',q,q',e,ps,a,w,Q,h,hp,hJ,hQ=>by
  unfold eS at h;cases h2:eS P E call I inl c s q with
  | none=>simp[h2] at h
  | some z =>
   obtain⟨e2,s2,ps2,q2⟩:=z;simp only[h2,Option.map_some,Option.some.injEq,Prod.mk.injEq] at h;obtain⟨rfl,rfl,rfl,rfl⟩:=h;refine wp_block (nz hs hI h2 hp hJ λa' W hW=>?_);have:=hQ a' W hW;cases e2 with
   | nm=>exact this
   | rt=>exact this
   | ex k =>
    simp only at this;show if k=id then Q .normal a' W else Q (.exit k) a' W
    split at this
    ·rw[if_pos (by assumption)];exact this
    ·rw[if_neg (by assumption)];exact this
 | .region id ops d,V,s,s',q,q',e,ps,a,w,Q,h,hp,hJ,hQ=>by
  unfold eS at h;cases d with
  | false =>
   simp only at h;cases h2:nA P E call I inl ops ops.toList { s with al:=0 } q with
   | none=>simp[h2] at h
   | some z =>
    obtain⟨s2,ps2,q2⟩:=z;simp only[h2,Option.map_some,Option.some.injEq,Prod.mk.injEq] at h;obtain⟨rfl,rfl,rfl,rfl⟩:=h;have:=wp_region_lit (id:=id) (l:=ops.toList) (BZ (ops:=ops.toList.toArray) (Q:=Q) (s:={ s with al:=0 }) hs hI (by simpa using h2) hp hJ hQ);simpa using this
  | true=>exact iv hs h hp hJ hQ
 | .loop c,V,s,s',q,q',e,ps,a,w,Q,h,hp,hJ,hQ=>by
  unfold eS at h;have key:∀(n:Nat) (s:St) (q:List Bool) (ps:List Prop) (a:Act) (w:World),jT (λs q=>eS P E call I inl c s q) n s q=some (e,s',ps,q')->aw ps->JR m0 r0 cm0 V s a w->Code.rounds P c Q n a w:=by
   intro n;induction n with
   | zero=>intro s q ps a w h;unfold jT at h;cases h
   | succ n ih =>
    intro s q ps a w h hp hJ;unfold jT at h;rw[rounds_succ];split at h
    ·cases h
    ·rename_i s1 ps1 q1 h1;cases h2:jT (λs q=>eS P E call I inl c s q) n s1 q1 with
     | none=>simp[h2] at h
     | some z =>
      obtain⟨e2,s2,ps2,q2⟩:=z;simp only[h2,Option.map_some,Option.some.injEq,Prod.mk.injEq] at h;obtain⟨rfl,rfl,rfl,rfl⟩:=h;obtain⟨p1,p2⟩:=aw.app hp;exact nz hs hI h1 p1 hJ λa' W hW=>ih _ _ _ _ _ h2 p2 hW
    ·rename_i hne;refine nz hs hI h hp hJ λa' W hW=>?_
     cases e with
     | nm=>exact absurd h (hne _ _ _)
     | rt=>exact hQ _ _ hW
     | ex k=>exact hQ _ _ hW
  exact wp_loop_rounds _ (key _ _ _ _ _ _ h hp hJ)
 | .skip,V,s,s',q,q',e,ps,a,w,Q,h,hp,hJ,hQ=>by unfold eS at h;exact iv hs h hp hJ hQ
 | .label _,V,s,s',q,q',e,ps,a,w,Q,h,hp,hJ,hQ=>by unfold eS at h;exact iv hs h hp hJ hQ
 | .ret,V,s,s',q,q',e,ps,a,w,Q,h,hp,hJ,hQ=>by unfold eS at h;exact iv hs h hp hJ hQ
 | .exit _,V,s,s',q,q',e,ps,a,w,Q,h,hp,hJ,hQ=>by unfold eS at h;exact iv hs h hp hJ hQ
 | .rangeFunc _ _ _ _,V,s,s',q,q',e,ps,a,w,Q,h,hp,hJ,hQ=>by unfold eS at h;exact iv hs h hp hJ hQ
 | .scope _,V,s,s',q,q',e,ps,a,w,Q,h,hp,hJ,hQ=>by unfold eS at h;exact iv hs h hp hJ hQ
 | .goto _,V,s,s',q,q',e,ps,a,w,Q,h,hp,hJ,hQ=>by unfold eS at h;exact iv hs h hp hJ hQ
 | .refuse _,V,s,s',q,q',e,ps,a,w,Q,h,hp,hJ,hQ=>by unfold eS at h;exact iv hs h hp hJ hQ
theorem a6r{V w:World}{m:List (Option Mb)}{r:Nat->Nat}{cm:Nat->List Value}{args:List V1}{vals:List Value}{n:Nat}(hM:RM V r cm m w)(h:aV V w r m.length args vals):J V r cm ⟨⟨args.length+(n-args.length),(Tr.full 12).fill 0 (args.map .one)⟩,m,0⟩ { tmps:=vals.toArray++Array.replicate (n-vals.toArray.size) undef,defers:=[] } w:=by
 have hl:=h.len;refine⟨⟨hM,rfl⟩,by simp[hl],λi v hi=>?_⟩;rcases Tr.fill_get (Tm.get_lt hi).2 with⟨_,hi⟩|⟨hi,hge⟩
 ·rw [Nat.sub_zero, List.getElem?_map] at hi;cases hv:args[i]? with
  | none=>simp[hv] at hi
  | some u =>
   simp only[hv,Option.map_some,Option.some.injEq] at hi;subst hi;have hlt:=(List.getElem?_eq_some_iff.1 hv).1;have:=h.get hv;have hlt2:i<vals.length:=by omega
   simp only[Array.getD_eq_getD_getElem?];rw[Array.getElem?_append_left (by simpa using hlt2)];simpa[bT] using this
 ·obtain rfl := Tr.full_get hi;simp only[List.length_map] at hge;have hge:vals.length<=i:=by omega
  simp only[Array.getD_eq_getD_getElem?];rw[Array.getElem?_append_right (by simpa using hge)];show _=undef;simp only[Array.getElem?_replicate];split<;>rfl
theorem O6(hs:iP P E call):∀n,EP P (vH P E call I n)
 | 0=>λ_ _ _ _ _ _ _ _ h=>by unfold vH at h;cases h|n+1=>λf args m q v m' ps q' h hp V w r cm vals hM hv=>by
  unfold vH at h;split at h
  ·cases h
  ·rename_i fn hf;split at h
   ·cases h
   ·rename_i c hc;split at h
    ·cases h
    ·rename_i e s' ps' q1 hcode;refine calls_of_wp hf hc ?_;split at h
     ·cases h
     ·rename_i hex;split at h
      ·rename_i u hl;simp only[Option.some.injEq,Prod.mk.injEq] at h;obtain⟨rfl,rfl,rfl,rfl⟩:=h;refine nz (m0:=m) (r0:=r) (cm0:=cm) hs (O6 hs n) hcode hp ⟨r,cm,.rfl,a6r hM hv⟩ λa' W' ⟨r',cm',hA,hJ⟩=>?_
       have:a'.defers=[]/\∃x,(results fn a'.tmps).run P W'=.ok x W'/\∃y,Ending.returned x=.returned y/\∃r' cm',Ag m r cm s'.m r' cm'/\RM V r' cm' s'.m W'/\au V W' r' s'.m.length u y:=by
        obtain⟨xs,h1,h2⟩:=AH hJ hl;obtain⟨x,ys,e1,h3,h4⟩:=h1;cases h4;subst e1;refine⟨hJ.1.2,x,?_,x,rfl,r',cm',hA,hJ.1.1,h3⟩;rw[D2,Sem.run_bind,Array.mapM_eq_mapM_toList,Sem.run_map,h2];rfl
       cases e with|nm=>exact this|rt=>exact this|ex k=>exact absurd rfl (hex k)
      ·cases h
theorem Up{W:World}:∀ {l:List V1} {xs:List Value},aV W W (λ_=>0) 0 l xs->aV W W (λ_=>0) 0 (l.map pL) xs
 | [],_,e=>e|_::_,_,⟨x,ys,e,h1,h2⟩=>⟨x,ys,e,Uo h1,Up h2⟩
end
theorem vE{f:FuncId}{args:List V1}{res:V1}(X:List Eff)(K:List ah)(I:List FuncId)(q:List Bool)(pf:List Pf)(h:(vH Tryz.prog (env X) (m9 X K) I.contains 12 f (args.map pL) [] q).map (λz=>(yP z.1,z.1.l.all (It.rk 0),z.2.2))=some (res,true,pf.map Pf.p,[])):ae Tryz.prog f args (.one res):=by
 cases hz:vH Tryz.prog (env X) (m9 X K) I.contains 12 f (args.map pL) [] q with|none=>rw[hz] at h;cases h|some z =>
  obtain⟨v,m',ps,q'⟩:=z;rw[hz] at h;simp only[Option.map_some,Option.some.injEq,Prod.mk.injEq] at h;obtain⟨rfl,hk,rfl,rfl⟩:=h;intro W vals hv;refine (O6 (od X K) 12 f _ [] q v m' _ [] hz (ku pf) W W (λ_=>0) (λ_=>[]) vals ⟨Below.refl _ _,λb x hb=>absurd (cZ hb) (Nat.not_lt_zero b),λb x hb=>absurd (cZ hb) (Nat.not_lt_zero b),λb c x y hb=>absurd (cZ hb) (Nat.not_lt_zero b),λb hb=>absurd hb (Nat.not_lt_zero b)⟩ (Up hv)).mono ?_;rintro e w' ⟨x,rfl,r',cm',_,hM,hr⟩;exact⟨x,rfl,Ij (JU hk hr),hM.ext⟩
end
theorem Ff{P:Program}{E:Env}{call:gw}{ops:Array Oper}{V w0:World}(hs:iP P E call){Q:Act->World->Prop}{F:World->Prop}(hF:∀W,F W->ac w0 W)(hF0:F w0){own:List Nat}:∀ {l:List Oper} {s s':St} {q q':List Bool} {ob:Ob} {a:Act} {r:Nat->Nat} {cm:Nat->List Value},(∀o∈l,av o=0)->ct P E call ops fE l s q=some (s',ob,q')->aw ob.ps->s.al=0->J V r cm s a w0 ->
  (∀a' W,JJ V s' a' W->Q a' W)->aG P ops (λW=>ac w0 W) Q l a own F
 | [],s,s',q,q',ob,a,r,cm,_,h,_,_,hJ,hQ=>by
  unfold ct at h;cases h;exact λW hW=>hQ _ _ ⟨r,cm,J.mono _ _ hJ (hF W hW)⟩
 | o::l,s,s',q,q',ob,a,r,cm,hk,h,hp,h0,hJ,hQ=>by
  have hk':=λx hx=>hk x (List.mem_cons_of_mem _ hx)
  have hko:=hk o (List.mem_cons_self ..);unfold ct at h;split at h
  ·cases h
  ·rename_i sg ps q1 hg;simp only[fE,Bool.false_eq_true,if_false] at h;cases h2:ct P E call ops fE l (put sg o.dst .und) q1 with
   | none=>rw[h2] at h;cases h
   | some z =>
    obtain⟨z1,z2,z3⟩:=z;rw[h2] at h;simp only[Option.map_some,Option.some.injEq,Prod.mk.injEq] at h;obtain⟨rfl,rfl,rfl⟩:=h;obtain⟨p1,p2⟩:=aw.app hp;obtain⟨hJ,hw⟩:=hJ.gd hg p1;exact .pure undef (.inr ⟨hw,rfl⟩) (Ff hs hF hF0 hk' h2 p2 (by rw[eJ,vF hg];exact h0) (J.put hJ.1.1 hJ.2 hJ.1.2 rfl) hQ)
  ·rename_i sg ps q1 hg;split at h
   ·cases h
   ·rename_i v s1 ob1 q2 hd;cases h2:ct P E call ops fE l (put s1 o.dst v) q2 with
    | none=>rw[h2] at h;cases h
    | some z =>
     obtain⟨z1,z2,z3⟩:=z;rw[h2] at h;simp only[Option.map_some,Option.some.injEq,Prod.mk.injEq] at h;obtain⟨rfl,rfl,rfl⟩:=h;obtain⟨p1,p2⟩:=aw.app hp;obtain⟨p3,p4⟩:=aw.app p1;obtain⟨hJ,hw⟩:=hJ.gd hg p3;have hm:=hJ.1.1;obtain⟨e1,_,x,hx,hv⟩:=AG (r:=r) (cm:=cm) (F:=λW=>ac w0 W) (S:=λW=>ac w0 W) hs.eq (λ_=>⟨w0,Below.refl _ _,λ_ h=>h,λ_ h=>h⟩) ⟨⟨w0,Below.refl _ _⟩,λW hW=>(J.mono _ _ hJ hW).2⟩ (λb m hb W hW=>((J.mono _ _ hJ hW).1.1.blk b m hb).2) (λW hW=>ac.step hm.ext hW) hko hd p4 (λb m _ hb W hW=>((J.mono _ _ hJ hW).1.1.blk b m hb).1);subst e1
     exact .pure x (.inl ⟨hw,hx⟩) (Ff hs hF hF0 hk' h2 p2 (by rw[eJ,vF hg];exact h0) (J.put hJ.1.1 hJ.2 hJ.1.2 (hv w0 (Below.refl _ _))) hQ)
noncomputable def Ri(X:List Eff)(K:List ah)(f:FuncId)(id n:Nat)(d d':Ds)(q:List Bool):Option (List Prop) :=
 match bm f id with
 | .region _ ops true=>if fN ops&&(ops.toList.all λo=>av o==0)&&Tryz.prog.follows .mixedOrders then (match ct Tryz.prog (env X) (m9 X K) ops fE ops.toList { bI n d with al:=0 } q with
  | some (s,ob,[])=>if s.t.n=n then (kU s d').map (ob.ps++·) else none
  | _=>none) else none
 | _=>none
theorem a2S{X:List Eff}{K:List ah}{f:FuncId}{id n:Nat}{d d':Ds}(q:List Bool)(pf:List Pf)(h:Ri X K f id n d d' q=some (pf.map Pf.p)):bJ Tryz.prog (bm f id) ⟨n,d,.nm,d'⟩:=by
 have hp:=ku pf;generalize pf.map Pf.p=ps at h hp;unfold Ri at h;split at h
 ·rename_i k ops hc;split at h
  ·rename_i hb;simp only[Bool.and_eq_true,List.all_eq_true,beq_iff_eq] at hb;split at h
   ·rename_i s ob hr;split at h
    ·rename_i hn;cases h2:kU s d' with|none=>simp[h2] at h|some ps2 =>
      simp only[h2,Option.map_some,Option.some.injEq] at h;subst h;obtain⟨p1,p2⟩:=aw.app hp;intro V a w Q hJ hQ;obtain⟨r,cm,hJ⟩:=hJ;rw[hc];have:=EB (id:=k) (l:=ops.toList) (Q:=Q) (a:=a) (w:=w) (λW=>ac w W) (λ_=>True) hb.2 (by simpa using hb.1.1) ⟨Below.refl _ _,trivial⟩ (λW W' hW hx=>⟨ac.step hW.1 hx,trivial⟩) (λW hW=>hW.size)
       (Ff (od X K) (λW hW=>hW.1) ⟨Below.refl _ _,trivial⟩ (ops:=ops.toList.toArray) (s:={ bI n d with al:=0 }) hb.1.2 (by simpa using hr) p1 rfl hJ λa' W hW=>hQ a' W (vR h2 p2 hn hW))
      simpa using this
    ·cases h
   ·cases h
  ·cases h
 ·cases h
theorem PN:∀(n:Nat) {c d:Code},d∈eB (nT n c)->d∈eB c
 | 0,_,_,h=>h|n+1,c,d,h=>by
  cases c with|seq a b=>exact List.mem_append_right _ (PN n h)|_=>cases h
theorem a02{f:FuncId}{L:List (Nat×bO)}(hL:LT f L)(hk:qG f L=true)(n:Nat):eO Tryz.prog (eB (nT n (dC Tryz.prog f))) L:=by
 have g:eO Tryz.prog (oY f) L:=by
  cases L with|nil=>exact eO.nil|cons x L=>exact LT.ok (ui hk x (List.mem_cons_self ..)) hL (ui hk)
 rw[Iq] at g;exact λc hc=>g c (PN n hc)
end Go.Proofs.YtghemgdfmldoeaaGreat
