import Derived.Test.YtghemgdfmldoeaaGreatP36
import Derived.Laws.MakeOwn
import Derived.OwnWalk
set_option linter.unusedVariables false
set_option linter.unusedSimpArgs false
namespace Go.Proofs.YtghemgdfmldoeaaGreat
open Go.RowKit
set_option maxRecDepth 100000
section
theorem a7c{P:Program}(w:World){ops:Array Oper}{rest:List Oper}{o:Oper}{a:Act}{Q:Exit->Act->World->Prop}
  (hg:o.guard=none) (l c:Operand) (t:TypeId) (hop:o.op=Op.makeSlice t l c)
  (e:TypeId) (i:TypeInfo) (z:Value) (n:Nat) (h1:P.underlying t=some (.slice e)) (h2:P.info? e=some i) (h3:i.zero=some z) (h4:i.size=n) (h5:i.bytes<=1000)
  (hl:a.eval l=.int .i64 1) (hc:a.eval c=.int .i64 1)
  (hK:wpList P ops Q rest (a.put o.dst (.slice (some ⟨w.heap.size,0,none⟩) 1 1)) (w.alloc (.cells (madeCells z.cells n) e))) :
  wpList P ops Q (o::rest) a w:=by
 refine wpList_plain hg λK hK'=>?_
 have hr:=run_make (P:=P) w t e i z h1 h2 h3 .i64 .i64 1 1 (by decide) (by decide) (by omega) (by decide);unfold Oper.wp;simp only[execOp,hop,hl,hc,Sem.run_bind,hr,Result.andThen,Sem.run_pure];rw[show (1:Int).toNat*i.size=n by rw[h4];simp];exact hK' _ _ hK
theorem a06:madeCells #[.int .i64 0,.int .i64 0,.int .i64 0,.bool false] 4=#[.int .i64 0,.int .i64 0,.int .i64 0,.bool false]:=by kernel_rfl
theorem a0s:(Tryz.prog.info? 74).map (λi=>(i.zero,i.size,i.bytes))=some (some (.agg #[.int .i64 0,.int .i64 0,.int .i64 0,.bool false]),4,32):=by kernel_rfl
def mQ:Pnl:=⟨1,λ_=>⟨0,0,0,false⟩,0,λ_=>⟨0,0,λ_=>⟨0,0,0,0,0,0,0⟩,0⟩,0,λ_=>(0,0),0⟩
theorem a6h:ae Tryz.prog 25 [] (.one (ff mQ)):=by
 rintro W _ rfl;obtain⟨i,hi,hz0,hz1,hz2⟩:=info_parts a0s;go_enter Tryz.func25,Tryz.ntmps25;go_wp2_with (at_make;refine a7c _ rfl _ _ 39 rfl 74 i (.agg #[.int .i64 0,.int .i64 0,.int .i64 0,.bool false]) 4 Tryz.underlying39 hi hz0 hz1 (by omega) rfl rfl ?_);rw[a06];refine bodyPost_ret (v:=.agg #[.slice (some ⟨W.heap.size+1,0,none⟩) 1 1,.slice none 0 0,.slice none 0 0,.int .i64 0]) (by simp only[results,Tryz.results25];go_simp) rfl ?_
 refine⟨_,rfl,⟨_,⟨[_],_,rfl,⟨_,rfl,.inr ⟨W.heap.size+1,1,_,rfl,⟨by omega,λb hb=>absurd hb (Nat.not_lt_zero _)⟩,tX (by simp),Nat.le_refl _,by unfold maxLen;omega,rfl,?_,λi hi=>?_⟩⟩,[_],_,rfl,⟨_,rfl,.inl ⟨rfl,rfl⟩⟩,[_],_,rfl,⟨_,rfl,.inl ⟨rfl,rfl⟩⟩,[_],[],rfl,⟨rfl,by decide,xh⟩,rfl⟩,rfl,nofun⟩,((Below.refl _ _).alloc (Nat.le_refl _) _).alloc (by simp) _⟩
 ·intro v hv;simp only[List.mem_cons,List.not_mem_nil,or_false] at hv;rcases hv with rfl|rfl|rfl|rfl<;>exact λz h=>nomatch h
 ·obtain rfl : i = 0 := Nat.lt_one_iff.1 hi;exact⟨_,[],rfl,rfl,[_],_,rfl,⟨rfl,by decide,xh⟩,[_],_,rfl,⟨rfl,by decide,xh⟩,[_],_,rfl,⟨rfl,by decide,xh⟩,[_],[],rfl,⟨rfl,rfl⟩,rfl⟩
def FR:ah where
 f:=25;g:=λ| []=>some (.one (ff mQ),[])|_=>none
 ok:=by
  intro args res ps h hp;split at h<;>cases h;exact a6h
end
end Go.Proofs.YtghemgdfmldoeaaGreat
set_option maxRecDepth 100000
namespace Go.Proofs.YtghemgdfmldoeaaGreat.W
open Go.RowKit
def shOs(s:Sh):List It:=[.i s.k lim,pE s.n s.e,.i s.r lim]
def Y0(l:List It):Ed:=match l with
 | [.i k _,.i ax _,.i ay _,.i bx _,.i by' _,.i cx _,.i cy _]=>⟨k,ax,ay,bx,by',cx,cy⟩|_=>⟨0,0,0,0,0,0,0⟩
def TW(l:List It):Sh:=match l with
 | [.i k _,.ro _ n f,.i r _]=>⟨k,n,λi=>Y0 (f i),r⟩|_=>⟨0,0,λ_=>⟨0,0,0,0,0,0,0⟩,0⟩
def lQ(p:Pnl):List It:=[.ro 4 p.nc λi=>aX (p.c i),.ro 3 p.nt λi=>shOs (p.t i),.ro 2 p.nm λi=>ptI (p.m i),.i p.r lim]
def panV(p:Pnl):V1:=⟨true,lQ p⟩
def Ac:List It->Option (Pnl×List Prop)
 | [a,b,c,d]=>match pM 4 a,pM 3 b,pM 2 c,asI d with
  | some (nc,fc),some (nt,ft),some (nm,fm),some z=>some (⟨nc,λi=>vV (fc i),nt,λi=>TW (ft i),nm,λi=>wA (fm i),z.1⟩,[∀j,j<nc->fc j=aX (vV (fc j)),∀j,j<nt->ft j=shOs (TW (ft j)),∀j,j<nm->fm j=ptI (wA (fm j))])
  | _,_,_,_=>none
 | _=>none
def dPan:gg where
 α:=Pnl
 C:=panV;d:=fun|⟨true,l⟩=>Ac l|_=>none
 ok:=by
  intro v a ps h hp W x hr;split at h
  ·unfold Ac at h;split at h
   ·split at h <;> cases h;rename_i z ha hb hc hd;obtain⟨p1,p2,p3,_⟩:=hp;obtain⟨cs,⟨c1,_,rfl,h1,c2,_,rfl,h2,c3,_,rfl,h3,c4,_,rfl,h4,rfl⟩,e,_⟩:=hr;exact⟨_,⟨c1,_,rfl,uN ha p1 h1,c2,_,rfl,uN hb p2 h2,c3,_,rfl,uN hc p3 h3,c4,[],rfl,vc hd h4,rfl⟩,e,nofun⟩
   ·cases h
  ·cases h
def dQ(p:Pnl):List (Option Mb):=[some ⟨43,lQ p⟩]
def i9(f:FuncId)(p:Pnl)(L:V1)(O:Nat->V1)(n k:Nat):Ds:=⟨(7,.le (O (k*n)))::(14,.le (aj (k:Int) 2000))::wN f p L,dQ p⟩
def iY(f:FuncId)(p:Pnl)(L:V1)(O:Nat->V1)(n k:Nat):Ds:=⟨(7,.le (O ((k+1)*n)))::(14,.le (aj (k:Int) 2000))::wN f p L,dQ p⟩
def iZ(f:FuncId)(p:Pnl)(L:V1)(O:Nat->V1)(n k j:Nat):Ds:=⟨(7,.le (O (k*n+j)))::(8,.le (aj (k:Int) 2000))::(14,.le (aj (k:Int) 2000))::(17,.eq L)::(18,.le (aj (n:Int) lim))::(19,.le (aj (j:Int) 2000))::wN f p L,dQ p⟩
def qP(p:Pnl):List Pf:=[jJ (.ro 4 p.nc λi=>aX (p.c i)),jJ (.ro 3 p.nt λi=>shOs (p.t i)),jJ (.ro 2 p.nm λi=>ptI (p.m i)),qZ p.r]
def qR(f:FuncId)(p:Pnl)(L:V1):List Pf:=[pR L,pR (oS f),pR ⟨false,[.p 0 0]⟩,pR (cN 4 aX p.nc p.c),qZ p.nc]++qP p
def tH(p:Pnl)(n:Nat)(F:Nat->aI)(o:Bool)(k:Nat):Ds:=⟨[(7,.le (aj (ar F k:Int) 2000)),(1,.eq (ez n F)),(2,.eq ⟨false,[.b o]⟩),(3,.eq (ak 0)),(14,.eq (ez n F)),(15,.le (aj (n:Int) lim)),(16,.le (aj (k:Int) 2000))],dQ p⟩
def tI(p:Pnl)(n:Nat)(F:Nat->aI)(o:Bool):Ds:=⟨[(7,.le (aj (ar F n:Int) 2000)),(1,.eq (ez n F)),(2,.eq ⟨false,[.b o]⟩),(3,.eq (ak 0))],dQ p⟩
def DC(F:Nat->aI)(k:Nat)(z:Int)(h:z=ar F (k+1))(hb:k<1000):Pf:=⟨z=(ar F (k+1):Int)/\z.natAbs<=2000,h,by have:=jC F (k+1);omega⟩
def qO(o:Bool):Pf:=pR ⟨false,[.b o]⟩
theorem Gm(p:Pnl)(n:Nat)(F:Nat->aI)(o:Bool)(hn:n<=1000):bJ Tryz.prog (bm er 6) ⟨nF er,tH p n F o 0,.ex 0,tI p n F o⟩ :=
 bW (X:=[aJ]) (K:=[]) (f:=er) (id:=6) (n:=nF er) n (tH p n F o) (λ_=>[]) (e:=.ex 0) (d1:=tI p n F o) (by kernel_rfl) (λ_=>by kernel_rfl) (λ_ _=>LT.nil)
  (λk hk => by
   have ih:0<=(k:Int)/\(k:Int)<(n:Int):=by omega
   cases h:(F k).c with|true=>exact⟨[true,true],[pT (aZ (show (k:Int)<(n:Int) by omega)),pP ih,pT h,DC F k ((k:Int)+1) (by unfold ar;rw[h];rfl) (by omega),pR (ez n F),qO o,pR (ak 0),pR (ez n F),qZ n,pI k (by omega)]++qP p,by kernel_rfl⟩|false=>exact⟨[true,false],[pT (aZ (show (k:Int)<(n:Int) by omega)),pP ih,pF h,⟨(ar F k:Int)=ar F (k+1),by simp[ar,h]⟩,pR (ez n F),qO o,pR (ak 0),pR (ez n F),qZ n,pI k (by omega)]++qP p,by kernel_rfl⟩)
  ⟨[false],[pF (ce (show ¬(n:Int)<(n:Int) by omega)),qZ (ar F n),pR (ez n F),qO o,pR (ak 0)]++qP p,by kernel_rfl⟩ nofun
end Go.Proofs.YtghemgdfmldoeaaGreat.W
set_option maxRecDepth 100000
namespace Go.Proofs.YtghemgdfmldoeaaGreat.fin
open Go.ChangeShapes Go.WideShapes Go.ChangeAt Go.RowKit Go.Joins
set_option linter.unusedVariables false
section
variable {H:Type} {enc:TypeId×Value->H} {W:World}
theorem D8{α:Type}[Inhabited α]{t e:TypeId}{z:Nat}{I:α->List It}(hu:Tryz.prog.underlying t=some (.slice e))(hz:Tryz.prog.cellsOf e=z)(h0:0<z)(el:∀(m:Nat) (cs:List Value) (x:DataW H×List MemPlace),DataW.trod enc Tryz.prog W 0 (λ_=>true) true m e cs=some x->∃a:α,cs.length=z/\aE W (I a) cs)
  {m:Nat} {c:Value} {x:DataW H×List MemPlace} (h:DataW.trod enc Tryz.prog W 0 (λ_=>true) true m t [c]=some x):∃(n:Nat) (f:Nat->α),fU (aE W) W z n (λi=>I (f i)) c:=by
 rcases Go.Deep.open_slice hu h with⟨hcs,_⟩|⟨a,len,cap,mm,n,D,Pl,hcs,_,hl,hm,hmm,_,hE⟩
 ·simp at hcs;subst hcs;exact⟨0,λ_=>default,none,0,rfl,Nat.le_refl _,Nat.zero_le _,λi hi=>absurd hi (Nat.not_lt_zero _)⟩
 ·simp at hcs;subst hcs;have hmm':mm=cap:=by simpa using hmm
  rw[hz] at hE;have key:∀i,∃e:α,i<len->∃cs,W.cells? 0 (a.add (i*z)) z=some cs/\cs.length=z/\aE W (I e) cs:=λi=>by
   by_cases hi:i<len
   ·obtain ⟨cs, h1, h2⟩ := hE i (by omega);obtain⟨e,h3,h4⟩:=el _ _ _ h2;exact⟨e,λ_=>⟨cs,h1,h3,h4⟩⟩
   ·exact⟨default,λh=>absurd h hi⟩
  obtain⟨f,hf⟩:=Classical.skolem.1 key;refine⟨len,f,some a,cap,rfl,hl,hm,λi hi=>?_⟩;obtain⟨cs,h1,h2,h3⟩:=hf i hi;obtain⟨cs0,y1,y2,_⟩:=hf 0 (Nat.lt_of_le_of_lt (Nat.zero_le _) hi);obtain⟨_,_,y3⟩:=World.cells?_some y1;have y4:=y3 0 h0;rw[List.getElem?_eq_getElem (by omega)] at y4;obtain⟨ys,T,fr,z1,z2,z3⟩:=Xd y4;obtain⟨b,o,spot⟩:=a;simp[Addr.add] at z1 z2;subst z2;obtain⟨_,_,w1⟩:=World.cells?_some h1;have w2:∀j,j<z->ys[o+i*z+j]? = cs[j]? := λj hj=>by
   have:=w1 j hj;rw[u6,u6,cell_of_row _ _ _ _ _ _ z1] at this;exact this
  have w3:o+i*z+(z-1)<ys.size:=by
   have:=w2 (z-1) (by omega);rw[List.getElem?_eq_getElem (by omega)] at this;exact (Array.getElem?_eq_some_iff.1 this).1
  refine⟨b,o,ys,(T,fr),rfl,z1,by omega,cs,ys.toList.drop (o+i*z+z),?_,h3⟩;have t1:(ys.toList.drop (o+i*z)).take z=cs:=by
   apply List.ext_getElem?;intro j;by_cases hj:j<z
   ·rw [List.getElem?_take_of_lt hj, List.getElem?_drop, <- w2 j hj];simp
   ·rw[List.getElem?_eq_none (by simp;omega),List.getElem?_eq_none (by omega)]
  have t2:(ys.toList.drop (o+i*z)).drop z=ys.toList.drop (o+i*z+z):=List.drop_drop ..;rw[<- t1,<- t2,List.take_append_drop]
instance:Inhabited Ed:=⟨⟨0,0,0,0,0,0,0⟩⟩
instance:Inhabited Sh:=⟨⟨0,0,λ_=>default,0⟩⟩
instance:Inhabited bG:=⟨⟨0,0,0,false⟩⟩
theorem WZ:Tryz.prog.cellsOf 4=1:=by kernel_rfl
theorem Nc:Tryz.prog.cellsOf 74=4:=by kernel_rfl
theorem Nh:Tryz.prog.cellsOf 30=3:=by kernel_rfl
theorem W8:Tryz.prog.cellsOf 39=1:=by kernel_rfl
theorem W7:Tryz.prog.cellsOf 40=1:=by kernel_rfl
theorem W9:Tryz.prog.cellsOf 41=1:=by kernel_rfl
theorem a1p(m:Nat)(cs:List Value)(x:DataW H×List MemPlace)(h:DataW.trod enc Tryz.prog W 0 (λ_=>true) true m 74 cs=some x):∃a:bG,cs.length=4/\aE W (aX a) cs:=by
 obtain⟨xs,k,_,_,hl,hx,hi⟩:=DataW.trod_struct Tryz.underlying74 h;rw[Nc] at hl;obtain⟨c0,N0,rfl,n0⟩:=dA hl;obtain⟨c1,N1,rfl,n1⟩:=dA n0;obtain⟨c2,N2,rfl,n2⟩:=dA n1;obtain⟨c3,N3,rfl,n3⟩:=dA n2;obtain rfl:=List.eq_nil_of_length_eq_zero n3;have hx2:xs.length=3:=hx;obtain⟨x0,M0,rfl,m0⟩:=dA hx2;obtain⟨x1,M1,rfl,m1⟩:=dA m0;obtain⟨x2,M2,rfl,m2⟩:=dA m1;have g0:DataW.trod enc Tryz.prog W 0 (λ_=>true) true k 24 (List.take (Tryz.prog.cellsOf 24) (List.drop 0 [c0,c1,c2,c3]))=some x0:=hi 0 _ rfl
 have g1:DataW.trod enc Tryz.prog W 0 (λ_=>true) true k 3 (List.take (Tryz.prog.cellsOf 3) (List.drop 2 [c0,c1,c2,c3]))=some x1:=hi 1 _ rfl;have g2:DataW.trod enc Tryz.prog W 0 (λ_=>true) true k 4 (List.take (Tryz.prog.cellsOf 4) (List.drop 3 [c0,c1,c2,c3]))=some x2:=hi 2 _ rfl;rw[Bm] at g0;rw[Bj] at g1;rw[WZ] at g2;simp only[List.drop_zero,List.take_succ_cons,List.take_zero,List.drop_succ_cons] at g0 g1 g2;obtain⟨z0,z1,rfl,rfl,i0,i1⟩:=zq g0;obtain⟨z2,e1,i2⟩:=vJ g1;obtain⟨b,e2,_⟩:=DataW.trod_bool Tryz.underlying4 g2;simp only[List.cons.injEq,and_true] at e1 e2;subst e1 e2
 exact⟨⟨z0,z1,z2,b⟩,rfl,[_],_,rfl,⟨rfl,aP i0⟩,[_],_,rfl,⟨rfl,aP i1⟩,[_],_,rfl,⟨rfl,aP i2⟩,[_],[],rfl,⟨rfl,rfl⟩,rfl⟩
theorem a3L(m:Nat)(cs:List Value)(x:DataW H×List MemPlace)(h:DataW.trod enc Tryz.prog W 0 (λ_=>true) true m 24 cs=some x):∃a:Int×Int,cs.length=2/\aE W (ptI a) cs:=by
 obtain⟨xs,k,_,_,hl,_⟩:=DataW.trod_struct Tryz.underlying24 h;rw[Bm] at hl;obtain⟨c0,N0,rfl,n0⟩:=dA hl;obtain⟨c1,N1,rfl,n1⟩:=dA n0;obtain rfl:=List.eq_nil_of_length_eq_zero n1;obtain⟨z0,z1,rfl,rfl,i0,i1⟩:=zq h;exact⟨(z0,z1),rfl,[_],_,rfl,⟨rfl,aP i0⟩,[_],[],rfl,⟨rfl,aP i1⟩,rfl⟩
theorem a5V(m:Nat)(cs:List Value)(x:DataW H×List MemPlace)(h:DataW.trod enc Tryz.prog W 0 (λ_=>true) true m 30 cs=some x):∃a:Sh,cs.length=3/\aE W (Go.Proofs.YtghemgdfmldoeaaGreat.W.shOs a) cs:=by
 obtain⟨xs,k,_,_,hl,hx,hi⟩:=DataW.trod_struct Tryz.underlying30 h;rw[Nh] at hl;obtain⟨c0,N0,rfl,n0⟩:=dA hl;obtain⟨c1,N1,rfl,n1⟩:=dA n0;obtain⟨c2,N2,rfl,n2⟩:=dA n1;obtain rfl:=List.eq_nil_of_length_eq_zero n2;have hx2:xs.length=3:=hx;obtain⟨x0,M0,rfl,m0⟩:=dA hx2;obtain⟨x1,M1,rfl,m1⟩:=dA m0;obtain⟨x2,M2,rfl,m2⟩:=dA m1;have g0:DataW.trod enc Tryz.prog W 0 (λ_=>true) true k 3 (List.take (Tryz.prog.cellsOf 3) (List.drop 0 [c0,c1,c2]))=some x0:=hi 0 _ rfl;have g1:DataW.trod enc Tryz.prog W 0 (λ_=>true) true k 28 (List.take (Tryz.prog.cellsOf 28) (List.drop 1 [c0,c1,c2]))=some x1:=hi 1 _ rfl
 have g2:DataW.trod enc Tryz.prog W 0 (λ_=>true) true k 3 (List.take (Tryz.prog.cellsOf 3) (List.drop 2 [c0,c1,c2]))=some x2:=hi 2 _ rfl;rw[Bj] at g0 g2;rw[W6] at g1;simp only[List.drop_zero,List.take_succ_cons,List.take_zero,List.drop_succ_cons] at g0 g1 g2;obtain⟨z0,e0,i0⟩:=vJ g0;obtain⟨z2,e2,i2⟩:=vJ g2;obtain⟨n,f,hr⟩:=D8 (α:=Ed) (I:=cV) Tryz.underlying28 Nb (by decide) (λm cs x h=>Y1 h) g1;simp only[List.cons.injEq,and_true] at e0 e2;subst e0 e2;exact⟨⟨z0,n,f,z2⟩,rfl,[_],_,rfl,⟨rfl,aP i0⟩,[_],_,rfl,⟨_,rfl,JY hr⟩,[_],[],rfl,⟨rfl,aP i2⟩,rfl⟩
theorem a2Z{base:Nat}{v:Value}{d:DataW H}{p:List MemPlace}(hv:Value.okWide Tryz.prog W .any base 43 v)(h:DataW.Trod enc Tryz.prog W 0 (λ_=>true) true 43 v d p) :
  ∃c:Pnl,au W W (λ_=>0) 0 (Go.Proofs.YtghemgdfmldoeaaGreat.W.panV c) v:=by
 unfold Value.okWide at hv;rw[Tryz.underlying43] at hv;obtain⟨cs,rfl,hsz,ts,hts,_,hc⟩:=hv;have hC:Tryz.prog.cellsOf 43=4:=by kernel_rfl
 have hT:Tryz.prog.cellTypes Tryz.prog.depth 43=some [39,40,41,3]:=by kernel_rfl
 rw[hC] at hsz;obtain rfl:=Option.some.inj (hT.symm.trans hts);obtain⟨c0,c1,c2,c3,rfl⟩:∃c0 c1 c2 c3,cs=#[c0,c1,c2,c3]:=by
  obtain⟨l⟩:=cs;match l,hsz with|[c0,c1,c2,c3],_=>exact⟨c0,c1,c2,c3,rfl⟩
 obtain⟨u,hu1,hu2⟩:=hc 3 c3 rfl;cases hu1;obtain⟨z3,rfl,i3⟩:=yM hu2;obtain⟨fuel,hf⟩:=h;obtain⟨xs,m,_,_,_,hx,hi⟩:=DataW.trod_struct Tryz.underlying43 hf;have hx2:xs.length=4:=hx;obtain⟨x0,M0,rfl,m0⟩:=dA hx2;obtain⟨x1,M1,rfl,m1⟩:=dA m0;obtain⟨x2,M2,rfl,m2⟩:=dA m1;obtain⟨x3,M3,rfl,m3⟩:=dA m2;have g0:DataW.trod enc Tryz.prog W 0 (λ_=>true) true m 39 (List.take (Tryz.prog.cellsOf 39) (List.drop 0 [c0,c1,c2,.int .i64 z3]))=some x0:=hi 0 _ rfl;have g1:DataW.trod enc Tryz.prog W 0 (λ_=>true) true m 40 (List.take (Tryz.prog.cellsOf 40) (List.drop 1 [c0,c1,c2,.int .i64 z3]))=some x1:=hi 1 _ rfl
 have g2:DataW.trod enc Tryz.prog W 0 (λ_=>true) true m 41 (List.take (Tryz.prog.cellsOf 41) (List.drop 2 [c0,c1,c2,.int .i64 z3]))=some x2:=hi 2 _ rfl;rw[W8] at g0;rw[W7] at g1;rw[W9] at g2;simp only[List.drop_zero,List.take_succ_cons,List.take_zero,List.drop_succ_cons] at g0 g1 g2;obtain⟨nc,fc,h0⟩:=D8 (α:=bG) (I:=aX) Tryz.underlying39 Nc (by decide) a1p g0;obtain⟨nt,ft,h1⟩:=D8 (α:=Sh) (I:=Go.Proofs.YtghemgdfmldoeaaGreat.W.shOs) Tryz.underlying40 Nh (by decide) a5V g1;obtain⟨np,fp,h2⟩:=D8 (α:=Int×Int) (I:=ptI) Tryz.underlying41 Bm (by decide) a3L g2
 exact⟨⟨nc,fc,nt,ft,np,fp,z3⟩,_,⟨[_],_,rfl,⟨_,rfl,h0⟩,[_],_,rfl,⟨_,rfl,h1⟩,[_],_,rfl,⟨_,rfl,h2⟩,[_],[],rfl,⟨rfl,aP i3⟩,rfl⟩,rfl,nofun⟩
end
end Go.Proofs.YtghemgdfmldoeaaGreat.fin
set_option maxRecDepth 100000
namespace Go.Proofs.YtghemgdfmldoeaaGreat.W
open Go.RowKit
def fe(p:Pnl)(n:Nat)(F:Nat->aI)(i:Nat):aI:=⟨gk (p.c (i/n)) (F (i%n)).s,(F (i%n)).c⟩
def fY(p:Pnl)(n:Nat)(F:Nat->cA)(i:Nat):cA:=⟨gk (p.c (i/n)) (F (i%n)).s,(F (i%n)).f,(F (i%n)).t,(F (i%n)).p⟩
def yt(p:Pnl)(F:Nat->aI)(k j:Nat):List It:=[.i (F j).s.k lim,fW (gk (p.c k) (F j).s).n (gk (p.c k) (F j).s).e,.i (F j).s.r lim,.v (.bool (F j).c)]
def yL(p:Pnl)(F:Nat->cA)(k j:Nat):List It:=[.i (F j).s.k lim,fW (gk (p.c k) (F j).s).n (gk (p.c k) (F j).s).e,.i (F j).s.r lim,.i (F j).f lim,.i (F j).t lim,.v (.bool (F j).p)]
theorem GI(p:Pnl){n:Nat}(F:Nat->aI){k j:Nat}(h:j<n):(yt p F k j).map dB=aS (fe p n F (k*n+j)):=by
 obtain⟨e1,e2⟩:=oO (k:=k) h;unfold aS fe;rw[e1,e2];rfl
theorem HO(p:Pnl){n:Nat}(F:Nat->cA){k j:Nat}(h:j<n):(yL p F k j).map dB=aY (fY p n F (k*n+j)):=by
 obtain⟨e1,e2⟩:=oO (k:=k) h;unfold aY fY;rw[e1,e2];rfl
def fJ:FuncId:=57
def fO:FuncId:=59
def dT:FuncId:=56
def dU:FuncId:=60
abbrev GG:=aI
abbrev Hy:=cA
abbrev GF:=fK
abbrev Hw:=gW
abbrev GE:=tB
abbrev Hu:=tC
def ll:List ah:=[WL]
structure dI (p:Pnl) (n:Nat) (S:Nat->Sh):Prop where
 nc:p.nc<=1000
 ln:n<=1000
 all:p.nc*n<=1000
 ok:∀j,j<n->AB (S j)
section
variable (p:Pnl) (n:Nat) (F:Nat->GG)
def eQ(m:Nat):V1:=GF m (fe p n F)
theorem Gx(h:dI p n λi=>(F i).s)(k:Nat)(hk:k<p.nc):bJ Tryz.prog (bm fJ 12) ⟨nF fJ,iZ dT p (bP n F) (eQ p n F) n k 0,.ex 2,iY dT p (bP n F) (eQ p n F) n k⟩ :=
 bW (X:=[aJ]) (K:=ll) (f:=fJ) (id:=12) (n:=nF fJ) n (iZ dT p (bP n F) (eQ p n F) n k) (λ_=>[]) (e:=.ex 2) (d1:=iY dT p (bP n F) (eQ p n F) n k) (by kernel_rfl) (λ_=>by kernel_rfl) (λ_ _=>LT.nil)
  (λj hj=>⟨[true],[pT (aZ (show (j:Int)<(n:Int) by omega)),pP (show 0<=(j:Int)/\(j:Int)<(n:Int) by omega),pP (show 0<=(k:Int)/\(k:Int)<(p.nc:Int) by omega),pP (h.ok j hj),bN (F j).s,pP (te h.all hk hj),qA aS (fe p n F) (k*n+j) (k*n+(j+1)) (yt p F k j) (by omega) (GI p F hj),qZ k,qZ k,pR (bP n F),qZ n,pI j (by have:=h.ln;omega)]++qR dT p (bP n F),by kernel_rfl⟩)
  ⟨[false],[pF (ce (show ¬(n:Int)<(n:Int) by omega)),qL aS (fe p n F) (k*n+n) ((k+1)*n) (by rw[Nat.succ_mul]),qZ k]++qR dT p (bP n F),by kernel_rfl⟩ nofun
noncomputable def nq(k:Nat):List (Nat×bO):=if k<p.nc then [(12,⟨nF fJ,iZ dT p (bP n F) (eQ p n F) n k 0,.ex 2,iY dT p (bP n F) (eQ p n F) n k⟩)] else []
theorem Gy(h:dI p n λi=>(F i).s):bJ Tryz.prog (bm fJ 6) ⟨nF fJ,i9 dT p (bP n F) (eQ p n F) n 0,.ex 0,ju (eQ p n F) (p.nc*n)⟩ :=
 bW (X:=[aJ]) (K:=ll) (f:=fJ) (id:=6) (n:=nF fJ) p.nc (i9 dT p (bP n F) (eQ p n F) n) (λk=>nq p n F k) (e:=.ex 0) (d1:=ju (eQ p n F) (p.nc*n)) (by kernel_rfl) (λk=>by unfold nq;by_cases h:k<p.nc<;>simp only[h,if_true,if_false]<;>kernel_rfl) (λk _=>by
   unfold nq;by_cases hk:k<p.nc
   ·rw[if_pos hk];exact LT.cons (Gx p n F h k hk) LT.nil
   ·rw[if_neg hk];exact LT.nil)
  (λk hk => by
   unfold nq;rw[if_pos hk];exact⟨[true],[pT (aZ (show (k:Int)<(p.nc:Int) by omega)),qL aS (fe p n F) (k*n) (k*n+0) rfl,qZ k,qZ k,pR (bP n F),qZ n,q0]++qR dT p (bP n F)++[qL aS (fe p n F) ((k+1)*n) ((k+1)*n) rfl,pI k (by have:=h.nc;omega)]++qR dT p (bP n F),by kernel_rfl⟩)
  (by
   unfold nq;rw[if_neg (Nat.lt_irrefl _)];exact⟨[false],[pF (ce (show ¬(p.nc:Int)<(p.nc:Int) by omega)),qL aS (fe p n F) (p.nc*n) (p.nc*n) rfl],by kernel_rfl⟩) nofun
theorem GH(h:dI p n λi=>(F i).s):ae Tryz.prog fJ [panV p,bP n F,oS dT] (.one (eQ p n F (p.nc*n))) :=
 cD [aJ] ll [(6,⟨nF fJ,i9 dT p (bP n F) (eQ p n F) n 0,.ex 0,ju (eQ p n F) (p.nc*n)⟩)] (LT.cons (Gy p n F h) LT.nil) [] ([⟨0*n=0,Nat.zero_mul n⟩,q0]++qR dT p (bP n F)) (by kernel_rfl)
end
def Gz:ah:=me dPan GE (vu dT) fJ (λp L _=>.one (eQ p L.1 L.2 (p.nc*L.1))) (λp L _=>[dI p L.1 λi=>(L.2 i).s]) λp L _ h=>GH p L.1 L.2 h.1
section
variable (p:Pnl) (n:Nat) (F:Nat->Hy)
def eR(m:Nat):V1:=Hw m (fY p n F)
theorem Hq(h:dI p n λi=>(F i).s)(k:Nat)(hk:k<p.nc):bJ Tryz.prog (bm fO 12) ⟨nF fO,iZ dU p (bR n F) (eR p n F) n k 0,.ex 2,iY dU p (bR n F) (eR p n F) n k⟩ :=
 bW (X:=[aJ]) (K:=ll) (f:=fO) (id:=12) (n:=nF fO) n (iZ dU p (bR n F) (eR p n F) n k) (λ_=>[]) (e:=.ex 2) (d1:=iY dU p (bR n F) (eR p n F) n k) (by kernel_rfl) (λ_=>by kernel_rfl) (λ_ _=>LT.nil)
  (λj hj=>⟨[true],[pT (aZ (show (j:Int)<(n:Int) by omega)),pP (show 0<=(j:Int)/\(j:Int)<(n:Int) by omega),pP (show 0<=(k:Int)/\(k:Int)<(p.nc:Int) by omega),pP (h.ok j hj),bN (F j).s,pP (te h.all hk hj),qA aY (fY p n F) (k*n+j) (k*n+(j+1)) (yL p F k j) (by omega) (HO p F hj),qZ k,qZ k,pR (bR n F),qZ n,pI j (by have:=h.ln;omega)]++qR dU p (bR n F),by kernel_rfl⟩)
  ⟨[false],[pF (ce (show ¬(n:Int)<(n:Int) by omega)),qL aY (fY p n F) (k*n+n) ((k+1)*n) (by rw[Nat.succ_mul]),qZ k]++qR dU p (bR n F),by kernel_rfl⟩ nofun
noncomputable def nw(k:Nat):List (Nat×bO):=if k<p.nc then [(12,⟨nF fO,iZ dU p (bR n F) (eR p n F) n k 0,.ex 2,iY dU p (bR n F) (eR p n F) n k⟩)] else []
theorem Hr(h:dI p n λi=>(F i).s):bJ Tryz.prog (bm fO 6) ⟨nF fO,i9 dU p (bR n F) (eR p n F) n 0,.ex 0,ju (eR p n F) (p.nc*n)⟩ :=
 bW (X:=[aJ]) (K:=ll) (f:=fO) (id:=6) (n:=nF fO) p.nc (i9 dU p (bR n F) (eR p n F) n) (λk=>nw p n F k) (e:=.ex 0) (d1:=ju (eR p n F) (p.nc*n)) (by kernel_rfl) (λk=>by unfold nw;by_cases h:k<p.nc<;>simp only[h,if_true,if_false]<;>kernel_rfl) (λk _=>by
   unfold nw;by_cases hk:k<p.nc
   ·rw[if_pos hk];exact LT.cons (Hq p n F h k hk) LT.nil
   ·rw[if_neg hk];exact LT.nil)
  (λk hk => by
   unfold nw;rw[if_pos hk];exact⟨[true],[pT (aZ (show (k:Int)<(p.nc:Int) by omega)),qL aY (fY p n F) (k*n) (k*n+0) rfl,qZ k,qZ k,pR (bR n F),qZ n,q0]++qR dU p (bR n F)++[qL aY (fY p n F) ((k+1)*n) ((k+1)*n) rfl,pI k (by have:=h.nc;omega)]++qR dU p (bR n F),by kernel_rfl⟩)
  (by
   unfold nw;rw[if_neg (Nat.lt_irrefl _)];exact⟨[false],[pF (ce (show ¬(p.nc:Int)<(p.nc:Int) by omega)),qL aY (fY p n F) (p.nc*n) (p.nc*n) rfl],by kernel_rfl⟩) nofun
theorem HE(h:dI p n λi=>(F i).s):ae Tryz.prog fO [panV p,bR n F,oS dU] (.one (eR p n F (p.nc*n))) :=
 cD [aJ] ll [(6,⟨nF fO,i9 dU p (bR n F) (eR p n F) n 0,.ex 0,ju (eR p n F) (p.nc*n)⟩)] (LT.cons (Hr p n F h) LT.nil) [] ([⟨0*n=0,Nat.zero_mul n⟩,q0]++qR dU p (bR n F)) (by kernel_rfl)
end
def Ht:ah:=me dPan Hu (vu dU) fO (λp L _=>.one (eR p L.1 L.2 (p.nc*L.1))) (λp L _=>[dI p L.1 λi=>(L.2 i).s]) λp L _ h=>HE p L.1 L.2 h.1
end Go.Proofs.YtghemgdfmldoeaaGreat.W
set_option maxHeartbeats 1000000
set_option maxRecDepth 100000
namespace Go.Proofs.YtghemgdfmldoeaaGreat.W
open Go.RowKit
attribute [local go_sem] aL dz
theorem Xw(e:Nat->Ed):ae Tryz.prog BR [⟨false,[pE 0 e]⟩] (.one ⟨false,[fW 0 e]⟩):=by
 intro w vals hv;obtain⟨v,_,rfl,⟨cs,⟨_,_,rfl,⟨u,rfl,p,c,rfl,k1,k2,_⟩,rfl⟩,rfl,_⟩,rfl⟩:=hv;have qT:∀(w:World) (a:Option Addr) (n c n' c':Nat),(binOp .eql 28 (.slice a n c) (.slice none n' c')).run Tryz.prog w=.ok (.bool a.isNone) w :=
  λw a n c n' c'=>Lib.run_eql_slice_nil w _ _ a n c n' c' Tryz.underlying28
 change Calls Tryz.prog 61 #[.slice p 0 c] w _;cases p with|none =>
  go_enter Tryz.func61,Tryz.ntmps61;go_wp2;go_ret;exact⟨_,rfl,⟨_,⟨[_],[],rfl,⟨_,rfl,none,0,rfl,Nat.le_refl _,Nat.zero_le _,λi hi=>absurd hi (Nat.not_lt_zero _)⟩,rfl⟩,rfl,λ_=>rfl⟩,Below.refl _ _⟩|some a =>
  obtain⟨b,o,sp⟩:=a;go_enter Tryz.func61,Tryz.ntmps61;go_wp2;go_ret;exact⟨_,rfl,⟨_,⟨[_],[],rfl,⟨_,rfl,_,0,rfl,Nat.le_refl _,Nat.zero_le _,λi hi=>absurd hi (Nat.not_lt_zero _)⟩,rfl⟩,rfl,λ_=>rfl⟩,(Below.refl _ _).alloc (Nat.le_refl _) _⟩
def Wc:ah:=qe NT BR (λa=>.one ⟨false,[fW a.1 a.2]⟩) (λa=>[a.1<=1000]) λa h=>by
 obtain⟨n,e⟩:=a;rcases Nat.eq_zero_or_pos n with rfl|g
 ·exact Xw e
 ·exact Ns n e g h.1
end Go.Proofs.YtghemgdfmldoeaaGreat.W
set_option maxRecDepth 100000
namespace Go.Proofs.YtghemgdfmldoeaaGreat.W
open Go.RowKit
def oM(p:Pnl)(n:Nat)(F:Nat->aI)(i:Nat):aI:=if i<p.nc*ar F n then fe p (ar F n) F i else fe p (n-ar F n) (λj=>F (ar F n+j)) (i-p.nc*ar F n)
def aM(p:Pnl)(n:Nat)(F:Nat->aI):Nat:=p.nc*ar F n+p.nc*(n-ar F n)
def bj(p:Pnl)(n:Nat)(F:Nat->aI)(i:Nat):aI:=if i<aM p n F then oM p n F i else ⟨fB (p.m (i-aM p n F)).1 (p.m (i-aM p n F)).2 p.r,false⟩
def tJ(p:Pnl)(n:Nat)(F:Nat->aI)(k:Nat):Ds:=⟨[(11,.le (fK (aM p n F+k) (bj p n F))),(3,.eq (ak 0)),(41,.eq (cN 2 ptI p.nm p.m)),(42,.le (aj p.nm lim)),(43,.le (aj (k:Int) 2000))],dQ p⟩
def tg:List ah:=[Bf,Gz]
def vv(p:Pnl)(k:Nat):List It:=[.i (fB (p.m k).1 (p.m k).2 p.r).k lim,fW (fB (p.m k).1 (p.m k).2 p.r).n (fB (p.m k).1 (p.m k).2 p.r).e,.i (fB (p.m k).1 (p.m k).2 p.r).r lim,.b false]
theorem BF(p:Pnl)(n:Nat)(F:Nat->aI)(k:Nat):(vv p k).map dB=aS (bj p n F (aM p n F+k)):=by
 unfold bj;rw[if_neg (by omega),Nat.add_sub_cancel_left];rfl
def tK(p:Pnl)(n:Nat)(F:Nat->aI):Ds:=⟨[(11,.le (fK (aM p n F+p.nm) (bj p n F)))],[]⟩
structure iq (p:Pnl) (n:Nat) (F:Nat->aI):Prop where
 rp:dI p n λi=>(F i).s
 nm:p.nc*n+p.nm<=1000
theorem rM(p:Pnl)(n:Nat)(F:Nat->aI):aM p n F=p.nc*n:=by
 have:=jC F n;unfold aM;rw[<- Nat.mul_add];congr 1;omega
theorem Gn(p:Pnl)(n:Nat)(F:Nat->aI)(h:iq p n F):bJ Tryz.prog (bm er 24) ⟨nF er,tJ p n F 0,.ex 2,tK p n F⟩ :=
 bW (X:=[aJ]) (K:=tg) (f:=er) (id:=24) (n:=nF er) p.nm (tJ p n F) (λ_=>[]) (e:=.ex 2) (d1:=tK p n F) (by kernel_rfl) (λ_=>by kernel_rfl) (λ_ _=>LT.nil)
  (λk hk => by
   have hN:=rM p n F;have hm:=h.nm;exact⟨[true],[pT (aZ (show (k:Int)<(p.nm:Int) by omega)),pP (show 0<=(k:Int)/\(k:Int)<(p.nm:Int) by omega),pP (show aM p n F+k+1<=1000 by omega),qA aS (bj p n F) (aM p n F+k) (aM p n F+(k+1)) (vv p k) rfl (BF p n F k),pR (ak 0),pR (cN 2 ptI p.nm p.m),qZ p.nm,pI k (by omega)]++qP p,by kernel_rfl⟩)
  ⟨[false],[pF (ce (show ¬(p.nm:Int)<(p.nm:Int) by omega)),qL aS (bj p n F) (aM p n F+p.nm) (aM p n F+p.nm) rfl],by kernel_rfl⟩ nofun
def k9(p:Pnl):List Pf:=[⟨∀j,j<p.nc->aX (p.c j)=aX (p.c j),λ_ _=>rfl⟩,⟨∀j,j<p.nt->shOs (p.t j)=shOs (p.t j),λ_ _=>rfl⟩,⟨∀j,j<p.nm->ptI (p.m j)=ptI (p.m j),λ_ _=>rfl⟩]
def qW(n:Nat)(F:Nat->aI):Pf:=⟨∀j,j<n->aS (F j)=aS (F j),λ_ _=>rfl⟩
theorem dI.front{p:Pnl}{n:Nat}{S:Nat->Sh}(h:dI p n S){f:Nat}(hf:f<=n):dI p f S :=
 ⟨h.nc,by have:=h.ln;omega,Nat.le_trans (Nat.mul_le_mul_left _ hf) h.all,λj hj=>h.ok j (by omega)⟩
theorem dI.back{p:Pnl}{n:Nat}{S:Nat->Sh}(h:dI p n S){f:Nat}(hf:f<=n):dI p (n-f) λi=>S (f+i) :=
 ⟨h.nc,by have:=h.ln;omega,Nat.le_trans (Nat.mul_le_mul_left _ (by omega)) h.all,λj hj=>h.ok (f+j) (by omega)⟩
def nk(p:Pnl)(n:Nat)(F:Nat->aI):Nat->List It:=iw (p.nc*ar F n) (λi=>aS (fe p (ar F n) F i)) (λi=>aS (fe p (n-ar F n) (λj=>F (ar F n+j)) i))
theorem Gu(p:Pnl)(n:Nat)(F:Nat->aI)(i:Nat):nk p n F i=aS (oM p n F i):=by
 unfold nk iw oM;split<;>rfl
theorem yu(p:Pnl)(n:Nat)(F:Nat->aI)(i:Nat)(h:i<aM p n F):nk p n F i=aS (bj p n F i):=by
 rw[Gu];unfold bj;rw[if_pos h]
def yr(p:Pnl)(n:Nat)(F:Nat->aI)(h:iq p n F):List Pf :=
 [pP (show 0<=(ar F n:Int)/\(ar F n:Int)<=(n:Int) by have:=jC F n;omega),pP (h.rp.front (jC F n))]++k9 p++[qW (ar F n) F,pP (show 0<=(ar F n:Int)/\(ar F n:Int)<=(n:Int) by have:=jC F n;omega),pP (h.rp.back (jC F n))]++k9 p++[qW (n-ar F n) λj=>F (ar F n+j),pP (show p.nc*ar F n+p.nc*(n-ar F n)<=1000 by have:=rM p n F;unfold aM at this;have:=h.nm;omega)]
def yq(p:Pnl)(n:Nat)(F:Nat->aI)(o:Bool):List Pf:=[q0,pR (ez n F),qO o,pR (ak 0),pR (ez n F),qZ n,q0]++qP p
noncomputable def tL(p:Pnl)(n:Nat)(F:Nat->aI)(o:Bool):List (Nat×bO):=[(6,⟨nF er,tH p n F o 0,.ex 0,tI p n F o⟩),(24,⟨nF er,tJ p n F 0,.ex 2,tK p n F⟩)]
theorem yp(p:Pnl)(n:Nat)(F:Nat->aI)(o:Bool)(h:iq p n F):LT er (tL p n F o):=LT.cons (Gm p n F o h.rp.ln) (LT.cons (Gn p n F h) LT.nil)
theorem Gw(p:Pnl)(n:Nat)(F:Nat->aI)(h:iq p n F):ae Tryz.prog er [panV p,ez n F,⟨false,[.b true]⟩] (.one (fK (aM p n F+p.nm) (bj p n F))) :=
 cD [aJ] tg (tL p n F true) (yp p n F true h) [] (yq p n F true++yr p n F h++[⟨p.nc*ar F n+p.nc*(n-ar F n)=aM p n F+0/\∀i,i<p.nc*ar F n+p.nc*(n-ar F n)->nk p n F i=(λi=>aS (bj p n F i)) i,rfl,λi hi=>yu p n F i hi⟩,pR (ak 0),pR (cN 2 ptI p.nm p.m),qZ p.nm,q0]++qP p) (by kernel_rfl)
theorem Gt(p:Pnl)(n:Nat)(F:Nat->aI)(h:iq p n F):ae Tryz.prog er [panV p,ez n F,⟨false,[.b false]⟩] (.one ⟨false,[.ol 72 4 (aM p n F) (nk p n F)]⟩) :=
 cD [aJ] tg (tL p n F false) (yp p n F false h) [] (yq p n F false++yr p n F h) (by kernel_rfl)
theorem Gs(p:Pnl)(n:Nat)(F:Nat->aI)(h:iq p n F):ae Tryz.prog er [panV p,ez n F,⟨false,[.b false]⟩] (.one (fK (aM p n F) (bj p n F))) :=
 (Gt p n F h).mono λV W x hr=>QK (λi hi=>yu p n F i hi) hr
def xA:List ah:=[Wc,Ht]
def bQ(p:Pnl)(n:Nat)(F:Nat->cA)(y:Int)(i:Nat):cA:=if i<p.nc*n then fY p n F i else ⟨p.t (i-p.nc*n),1,y,false⟩
def tY(p:Pnl)(n:Nat)(F:Nat->cA)(y:Int)(k:Nat):Ds:=⟨[(7,.le (gW (p.nc*n+k) (bQ p n F y))),(2,.eq (aj y lim)),(3,.eq (ak 0)),(14,.eq (cN 3 shOs p.nt p.t)),(15,.le (aj p.nt lim)),(16,.le (aj (k:Int) 2000))],dQ p⟩
def ua(p:Pnl)(y:Int)(k:Nat):List It:=[.i (p.t k).k lim,fW (p.t k).n (p.t k).e,.i (p.t k).r lim,.k 1,.i y lim,.b false]
theorem Ho(p:Pnl)(n:Nat)(F:Nat->cA)(y:Int)(k:Nat):(ua p y k).map dB=aY (bQ p n F y (p.nc*n+k)):=by
 unfold bQ;rw[if_neg (by omega),Nat.add_sub_cancel_left];rfl
def tZ(p:Pnl)(n:Nat)(F:Nat->cA)(y:Int):Ds:=⟨[(7,.le (gW (p.nc*n+p.nt) (bQ p n F y)))],[]⟩
structure oq (p:Pnl) (n:Nat) (F:Nat->cA):Prop where
 rp:dI p n λi=>(F i).s
 nt:p.nc*n+p.nt<=1000
 t:∀i,i<p.nt->(p.t i).n<=1000
theorem Hn(p:Pnl)(n:Nat)(F:Nat->cA)(y:Int)(h:oq p n F):bJ Tryz.prog (bm kQ 6) ⟨nF kQ,tY p n F y 0,.ex 0,tZ p n F y⟩ :=
 bW (X:=[aJ]) (K:=xA) (f:=kQ) (id:=6) (n:=nF kQ) p.nt (tY p n F y) (λ_=>[]) (e:=.ex 0) (d1:=tZ p n F y) (by kernel_rfl) (λ_=>by kernel_rfl) (λ_ _=>LT.nil)
  (λk hk => by
   have hm:=h.nt;exact⟨[true],[pT (aZ (show (k:Int)<(p.nt:Int) by omega)),pP (show 0<=(k:Int)/\(k:Int)<(p.nt:Int) by omega),pP (h.t k hk),bN (p.t k),pP (show p.nc*n+k+1<=1000 by omega),qA aY (bQ p n F y) (p.nc*n+k) (p.nc*n+(k+1)) (ua p y k) rfl (Ho p n F y k),pR (aj y lim),pR (ak 0),pR (cN 3 shOs p.nt p.t),qZ p.nt,pI k (by omega)]++qP p,by kernel_rfl⟩)
  ⟨[false],[pF (ce (show ¬(p.nt:Int)<(p.nt:Int) by omega)),qL aY (bQ p n F y) (p.nc*n+p.nt) (p.nc*n+p.nt) rfl],by kernel_rfl⟩ nofun
theorem Hm(p:Pnl)(n:Nat)(F:Nat->cA)(y:Int)(i:Nat)(h:i<p.nc*n):(λi=>aY (fY p n F i)) i=(λi=>aY (bQ p n F y i)) i:=by
 show _=aY (bQ p n F y i);unfold bQ;rw[if_pos h]
theorem Hz(p:Pnl)(n:Nat)(F:Nat->cA)(y:Int)(h:oq p n F):ae Tryz.prog kQ [panV p,cN 6 aY n F,aj y lim] (.one (gW (p.nc*n+p.nt) (bQ p n F y))) :=
 cD [aJ] xA [(6,⟨nF kQ,tY p n F y 0,.ex 0,tZ p n F y⟩)] (LT.cons (Hn p n F y h) LT.nil) [] ([pP h.rp]++k9 p++[⟨∀j,j<n->aY (F j)=aY (F j),λ_ _=>rfl⟩,⟨p.nc*n=p.nc*n+0/\∀i,i<p.nc*n->(λi=>aY (fY p n F i)) i=(λi=>aY (bQ p n F y i)) i,rfl,λi hi=>Hm p n F y i hi⟩,pR (aj y lim),pR (ak 0),pR (cN 3 shOs p.nt p.t),qZ p.nt,q0]++qP p) (by kernel_rfl)
def FI:ah:=me dPan tC yi kQ (λp L y=>.one (gW (p.nc*L.1+p.nt) (bQ p L.1 L.2 y))) (λp L _=>[oq p L.1 L.2]) λp L y h=>Hz p L.1 L.2 y h.1
end Go.Proofs.YtghemgdfmldoeaaGreat.W
set_option maxRecDepth 100000
namespace Go.Proofs.YtghemgdfmldoeaaGreat.W
open Go.RowKit
def fl(p:Pnl)(n:Nat)(F:Nat->je)(i:Nat):je:=⟨((i/n:Nat):Int),(F (i%n)).a,(F (i%n)).b,(kW (p.c (i/n)) ((F (i%n)).x,(F (i%n)).y)).1,(kW (p.c (i/n)) ((F (i%n)).x,(F (i%n)).y)).2,(F (i%n)).l⟩
def ti:List ah:=[M8]
def fM:FuncId:=62
section
variable (p:Pnl) (n:Nat) (F:Nat->je)
def cX(m:Nat):V1:=mS m (fl p n F)
def cR:V1:=cN 6 cS n F
def dW:FuncId:=63
def zj(k j:Nat):List It:=[.i (k:Int) 2000,.v (.string (F j).a),.v (.string (F j).b),.i (kW (p.c k) ((F j).x,(F j).y)).1 lim,.i (kW (p.c k) ((F j).x,(F j).y)).2 lim,.i (F j).l lim]
theorem I7{k j:Nat}(h:j<n):(zj p F k j).map dB=cS (fl p n F (k*n+j)):=by
 obtain⟨e1,e2⟩:=oO (k:=k) h;unfold cS fl;rw[e1,e2];rfl
structure iO:Prop where
 nc:p.nc<=1000
 ln:n<=1000
 all:p.nc*n<=1000
 ok:∀j,j<n->s6 ((F j).x,(F j).y)
theorem J2(h:iO p n F)(k:Nat)(hk:k<p.nc):bJ Tryz.prog (bm fM 12) ⟨nF fM,iZ dW p (cR n F) (cX p n F) n k 0,.ex 2,iY dW p (cR n F) (cX p n F) n k⟩ :=
 bW (X:=[aJ]) (K:=ti) (f:=fM) (id:=12) (n:=nF fM) n (iZ dW p (cR n F) (cX p n F) n k) (λ_=>[]) (e:=.ex 2) (d1:=iY dW p (cR n F) (cX p n F) n k) (by kernel_rfl) (λ_=>by kernel_rfl) (λ_ _=>LT.nil)
  (λj hj=>⟨[true],[pT (aZ (show (j:Int)<(n:Int) by omega)),pP (show 0<=(j:Int)/\(j:Int)<(n:Int) by omega),pP (show 0<=(k:Int)/\(k:Int)<(p.nc:Int) by omega),pP (h.ok j hj),pP (te h.all hk hj),qA cS (fl p n F) (k*n+j) (k*n+(j+1)) (zj p F k j) (by omega) (I7 p n F hj),qZ k,qZ k,pR (cR n F),qZ n,pI j (by have:=h.ln;omega)]++qR dW p (cR n F),by kernel_rfl⟩)
  ⟨[false],[pF (ce (show ¬(n:Int)<(n:Int) by omega)),qL cS (fl p n F) (k*n+n) ((k+1)*n) (by rw[Nat.succ_mul]),qZ k]++qR dW p (cR n F),by kernel_rfl⟩ nofun
noncomputable def nY(k:Nat):List (Nat×bO):=if k<p.nc then [(12,⟨nF fM,iZ dW p (cR n F) (cX p n F) n k 0,.ex 2,iY dW p (cR n F) (cX p n F) n k⟩)] else []
theorem J3(h:iO p n F):bJ Tryz.prog (bm fM 6) ⟨nF fM,i9 dW p (cR n F) (cX p n F) n 0,.ex 0,ju (cX p n F) (p.nc*n)⟩ :=
 bW (X:=[aJ]) (K:=ti) (f:=fM) (id:=6) (n:=nF fM) p.nc (i9 dW p (cR n F) (cX p n F) n) (λk=>nY p n F k) (e:=.ex 0) (d1:=ju (cX p n F) (p.nc*n)) (by kernel_rfl) (λk=>by unfold nY;by_cases h:k<p.nc<;>simp only[h,if_true,if_false]<;>kernel_rfl) (λk _=>by
   unfold nY;by_cases hk:k<p.nc
   ·rw[if_pos hk];exact LT.cons (J2 p n F h k hk) LT.nil
   ·rw[if_neg hk];exact LT.nil)
  (λk hk => by
   unfold nY;rw[if_pos hk];exact⟨[true],[pT (aZ (show (k:Int)<(p.nc:Int) by omega)),qL cS (fl p n F) (k*n) (k*n+0) rfl,qZ k,qZ k,pR (cR n F),qZ n,q0]++qR dW p (cR n F)++[qL cS (fl p n F) ((k+1)*n) ((k+1)*n) rfl,pI k (by have:=h.nc;omega)]++qR dW p (cR n F),by kernel_rfl⟩)
  (by
   unfold nY;rw[if_neg (Nat.lt_irrefl _)];exact⟨[false],[pF (ce (show ¬(p.nc:Int)<(p.nc:Int) by omega)),qL cS (fl p n F) (p.nc*n) (p.nc*n) rfl],by kernel_rfl⟩) nofun
theorem J4(h:iO p n F):ae Tryz.prog fM [panV p,cR n F,oS dW] (.one (cX p n F (p.nc*n))) :=
 cD [aJ] ti [(6,⟨nF fM,i9 dW p (cR n F) (cX p n F) n 0,.ex 0,ju (cX p n F) (p.nc*n)⟩)] (LT.cons (J3 p n F h) LT.nil) [] ([⟨0*n=0,Nat.zero_mul n⟩,q0]++qR dW p (cR n F)) (by kernel_rfl)
end
def FP:ah:=me dPan yj (vu dW) fM (λp L _=>.one (cX p L.1 L.2 (p.nc*L.1))) (λp L _=>[iO p L.1 L.2]) λp L _ h=>J4 p L.1 L.2 h.1
theorem Js(p:Pnl)(n:Nat)(F:Nat->je)(h:iO p n F):ae Tryz.prog 22 [panV p,cR n F] (.one (cX p n F (p.nc*n))) :=
 qp [aJ] [FP] [] [pP h,⟨∀j,j<p.nc->aX (p.c j)=aX (p.c j),λ_ _=>rfl⟩,⟨∀j,j<p.nt->shOs (p.t j)=shOs (p.t j),λ_ _=>rfl⟩,⟨∀j,j<p.nm->ptI (p.m j)=ptI (p.m j),λ_ _=>rfl⟩,⟨∀j,j<n->cS (F j)=cS (F j),λ_ _=>rfl⟩] (by kernel_rfl)
def FM:ah:=gi dPan yj 22 (λp L=>.one (cX p L.1 L.2 (p.nc*L.1))) (λp L=>[iO p L.1 L.2]) λp L h=>Js p L.1 L.2 h.1
end Go.Proofs.YtghemgdfmldoeaaGreat.W
