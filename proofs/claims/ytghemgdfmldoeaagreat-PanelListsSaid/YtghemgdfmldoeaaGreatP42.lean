import Derived.Test.YtghemgdfmldoeaaGreatP41
set_option linter.unusedVariables false
set_option linter.unusedSimpArgs false
set_option maxHeartbeats 4000000
set_option maxRecDepth 100000
namespace Go.Proofs.YtghemgdfmldoeaaGreat.W
open Go.RowKit
noncomputable def Uh(X:List Eff)(K:List ah)(L:List (Nat×bO))(f:FuncId)(m:Nat)(c:Code)(d:Ds)(q:List Bool):Option (AV×List Prop) :=
 match Tryz.prog.funcs[f]? with|none=>none|some fn=>if qG f L then (match fq Tryz.prog (env X) (m9 X K) L c (bI m d) q with|some (e,s,ps,[])=>(match e with|.ex _=>none|_=>match qa Tryz.prog s fn.results.toList with|some l=>(match uw (gh (l.map V1.l).flatten) l,sL s.m (gh (l.map V1.l).flatten) with|some l',some []=>some (CW l',ps)|_,_=>none)|none=>none)|_=>none) else none
theorem a6H{X:List Eff}{K:List ah}{L:List (Nat×bO)}{f:FuncId}{fn:Func}{m:Nat}{c:Code}{d:Ds}{res:AV}(hL:eO Tryz.prog (eB c) L)(q:List Bool)(pf:List Pf)(h:Uh X K L f m c d q=some (res,pf.map Pf.p))(hf:Tryz.prog.funcs[f]? = some fn){V w:World}{a:Act}{R:Ending->World->Prop}(hJ:JJ V (bI m d) a w)(hR:∀v w',bT V w' (λ_=>0) 0 res v->ac V w'->R (.returned v) w') :
  c.wp Tryz.prog (bodyPost Tryz.prog fn R) a w:=by
 have hp:=ku pf;generalize pf.map Pf.p=ps at h hp;unfold Uh at h;rw[hf] at h;simp only at h;split at h
 ·rename_i hk;split at h
  ·rename_i e s ps1 hc;split at h
   ·cases h
   ·rename_i hex;split at h
    ·rename_i l hl;split at h
     ·rename_i l' hl' hms;simp only[Option.some.injEq,Prod.mk.injEq] at h;obtain⟨h1,rfl⟩:=h;refine kt (od X K) hL hc hp hJ λa' W' hJ'=>?_
      have key:=G9 hl hl' hms (res:=(res,[])) (by rw[h1]) hJ';obtain⟨k1,v,k2,v',r,cm,k3,k4,k5⟩:=key;cases k3;have post:∃v,(results fn a'.tmps).run Tryz.prog W'=.ok v W'/\R (.returned v) W':=⟨v,k2,hR _ _ (bT.none k5) k4.ext⟩;cases e with|nm=>exact⟨k1,post⟩|rt=>exact⟨k1,post⟩|ex k=>exact absurd rfl (hex k)
     ·cases h
    ·cases h
  ·cases h
 ·cases h
theorem uG{W W':World}{z n:Nat}{f:Nat->List It}{cs:List Value}(hx:ac W W')(h:af W W (λ_=>0) 0 (.ro z n f) cs):af W' W' (λ_=>0) 0 (.ro z n f) cs:=by
 obtain⟨v,e,h⟩:=h;exact⟨v,e,h.imp hx λl cs h=>h.ext hx⟩
theorem Dk{W W':World}{p:Pnl}{v:Value}(hx:ac W W')(h:au W W (λ_=>0) 0 (panV p) v):au W' W' (λ_=>0) 0 (panV p) v:=by
 obtain⟨cs,⟨_,_,rfl,h1,_,_,rfl,h2,_,_,rfl,h3,_,_,rfl,h4,rfl⟩,e⟩:=h;exact⟨_,⟨_,_,rfl,uG hx h1,_,_,rfl,uG hx h2,_,_,rfl,uG hx h3,_,[],rfl,h4,rfl⟩,e⟩
theorem wh{V W:World}{r:Nat->Nat}{k:Nat}{T:TypeId}{z n:Nat}{f:Nat->List It}{cs:List Value}(h:af V W r k (.ol T z n f) cs):af W W (λ_=>0) 0 (.ro z n f) cs:=by
 obtain⟨v,e,h⟩:=h;exact⟨v,e,h.ro⟩
theorem a0w{W:World}(e:Ed)(h:∀x∈e7 e,x.1.natAbs<=x.2/\I64 x.1):jf W (cV e) ((e7 e).map λx=>Value.int .i64 x.1):=by
 simp only[e7,List.mem_cons,List.not_mem_nil,or_false,forall_eq_or_imp,forall_eq] at h;obtain⟨h1,h2,h3,h4,h5,h6,h7⟩:=h;exact⟨[_],_,rfl,⟨rfl,h1⟩,[_],_,rfl,⟨rfl,h2⟩,[_],_,rfl,⟨rfl,h3⟩,[_],_,rfl,⟨rfl,h4⟩,[_],_,rfl,⟨rfl,h5⟩,[_],_,rfl,⟨rfl,h6⟩,[_],[],rfl,⟨rfl,h7⟩,rfl⟩
theorem YY{W:World}{n:Nat}{e:Nat->Ed}{v:Value}(h:lY W n (λi=>e7 (e i)) v):fU (jf W) W 7 n (λi=>cV (e i)) v:=by
 obtain⟨a,c,rfl,h1,h2,h3⟩:=h;exact⟨a,c,rfl,h1,h2,λi hi=>by
  obtain⟨g,o,xs,fr,k1,k2,k3,⟨d,k4⟩,k5⟩:=h3 i hi;exact⟨g,o,xs,(tE,fr),k1,k2,k3,_,d,k4,a0w (e i) k5⟩⟩
theorem a5Q{W:World}{s:Sh}{cs:List Value}(h:cE W (bY s) cs):aE W (shOs s) cs:=by
 obtain⟨_,_,rfl,h1,_,_,rfl,⟨v,rfl,h2⟩,_,_,rfl,h3,rfl⟩:=h;exact⟨_,_,rfl,h1,[v],_,rfl,⟨v,rfl,YY h2⟩,_,[],rfl,h3,rfl⟩
theorem a2J{V W:World}{r:Nat->Nat}{k:Nat}{T:TypeId}{n:Nat}{t:Nat->Sh}{cs:List Value}(h:af V W r k (.ol T 3 n λi=>bY (t i)) cs):af W W (λ_=>0) 0 (.ro 3 n λi=>shOs (t i)) cs:=by
 obtain⟨v,e,h⟩:=h;refine⟨v,e,?_⟩;rcases h with⟨rfl,rfl⟩|⟨g,c,xs,rfl,_,h1,h2,h3,h4,_,h5⟩
 ·exact⟨none,0,rfl,Nat.le_refl _,Nat.zero_le _,λi hi=>absurd hi (Nat.not_lt_zero _)⟩
 ·refine ⟨_, c, rfl, h2, h3, λi hi => ?_⟩;obtain⟨cs,d,k1,k2,k3⟩:=h5 i hi;refine⟨g,0,xs,(T,(0,0)),rfl,h1,?_,cs,d,by rw[Nat.zero_add];exact k1,a5Q k3⟩;have:i*3<=c*3:=Nat.mul_le_mul_right _ (by omega);omega
theorem QZ{V W:World}{r:Nat->Nat}{k:Nat}{p:Pnl}{v:Value}(h:au V W r k (ff p) v):au W W (λ_=>0) 0 (panV p) v:=by
 obtain⟨cs,⟨_,_,rfl,h1,_,_,rfl,h2,_,_,rfl,h3,_,_,rfl,h4,rfl⟩,e⟩:=h;exact⟨_,⟨_,_,rfl,wh h1,_,_,rfl,a2J h2,_,_,rfl,wh h3,_,[],rfl,h4,rfl⟩,e⟩
theorem a2Y{W W':World}{p:Pnl}{v:Value}(hx:ac W W')(h:au W W (λ_=>0) 0 (Go.Proofs.YtghemgdfmldoeaaGreat.panV p) v):au W' W' (λ_=>0) 0 (Go.Proofs.YtghemgdfmldoeaaGreat.panV p) v:=by
 obtain⟨cs,⟨_,_,rfl,h1,_,_,rfl,h2,_,_,rfl,h3,_,_,rfl,h4,rfl⟩,e⟩:=h;exact⟨_,⟨_,_,rfl,uG hx h1,_,_,rfl,uG hx h2,_,_,rfl,uG hx h3,_,[],rfl,h4,rfl⟩,e⟩
theorem a2X{V W:World}{r:Nat->Nat}{k:Nat}{p:Pnl}{v:Value}(h:au V W r k (ff p) v):au W W (λ_=>0) 0 (Go.Proofs.YtghemgdfmldoeaaGreat.panV p) v:=by
 obtain⟨cs,⟨_,_,rfl,h1,_,_,rfl,h2,_,_,rfl,h3,_,_,rfl,h4,rfl⟩,e⟩:=h;exact⟨_,⟨_,_,rfl,wh h1,_,_,rfl,wh h2,_,_,rfl,wh h3,_,[],rfl,h4,rfl⟩,e⟩
theorem I0{V W W':World}{r:Nat->Nat}{k:Nat}{T:TypeId}{z n:Nat}{f:Nat->List It}{v:Value}(hx:ac W W')(h:au V W r k ⟨false,[.ol T z n f]⟩ v):au W' W' (λ_=>0) 0 ⟨false,[.ro z n f]⟩ v:=by
 obtain⟨cs,⟨_,_,rfl,h1,rfl⟩,e⟩:=h;exact⟨_,⟨_,[],rfl,uG hx (wh h1),rfl⟩,e⟩
theorem Dl{W:World}{p:Pnl}{v:Value}(h:au W W (λ_=>0) 0 (panV p) v):∃x0 x1 x2,v=.agg #[x0,x1,x2,.int .i64 p.r]:=by
 obtain⟨cs,⟨_,_,rfl,⟨x0,rfl,_⟩,_,_,rfl,⟨x1,rfl,_⟩,_,_,rfl,⟨x2,rfl,_⟩,_,_,rfl,⟨rfl,_⟩,rfl⟩,e,_⟩:=h;exact⟨x0,x1,x2,e⟩
theorem RN{W:World}:∀ {l:List It} {cs:List Value},l.all It.isN=true->aE W l cs->jf W l cs
 | [],_,_,e=>e|i::l,_,hl,⟨c,d,e,h1,h2⟩=>by
  simp only[List.all_cons,Bool.and_eq_true] at hl;refine⟨c,d,e,?_,RN hl.2 h2⟩;cases i<;>first|exact h1|simp[It.isN] at hl
theorem SU{W:World}{z n:Nat}{f:Nat->List It}{cs:List Value}(hf:∀i,(f i).all It.isN=true)(h:af W W (λ_=>0) 0 (.ro z n f) cs):jx W (.ro z n f) cs:=by
 obtain⟨v,e,h⟩:=h;obtain⟨a,c,e2,h1,h2,h3⟩:=h;exact⟨v,e,a,c,e2,h1,h2,λi hi=>by
  obtain⟨g,o,xs,T,k1,k2,k3,cs,d,k4,k5⟩:=h3 i hi;exact⟨g,o,xs,T,k1,k2,k3,cs,d,k4,RN (hf i) k5⟩⟩
theorem RQ{W:World}:∀ {l:List It} {cs:List Value},l.all It.isN=true->jf W l cs->oy W l cs
 | [],_,_,e=>e|i::l,_,hl,⟨c,d,e,h1,h2⟩=>by
  simp only[List.all_cons,Bool.and_eq_true] at hl;refine⟨c,d,e,?_,RQ hl.2 h2⟩;cases i<;>first|exact h1|simp[It.isN] at hl
theorem a5S{W:World}{s:Sh}{cs:List Value}(h:aE W (shOs s) cs):jf W (shOs s) cs:=by
 obtain⟨_,_,rfl,h1,_,_,rfl,⟨v,rfl,a,c,e2,g1,g2,g3⟩,_,_,rfl,h3,rfl⟩:=h;refine⟨_,_,rfl,h1,[v],_,rfl,⟨v,rfl,a,c,e2,g1,g2,λi hi=>?_⟩,_,[],rfl,h3,rfl⟩;obtain⟨g,o,xs,T,k1,k2,k3,cs,d,k4,k5⟩:=g3 i hi;exact⟨g,o,xs,T,k1,k2,k3,cs,d,k4,RQ rfl k5⟩
theorem a4T{W:World}{n:Nat}{t:Nat->Sh}{cs:List Value}(h:af W W (λ_=>0) 0 (.ro 3 n λi=>shOs (t i)) cs):jx W (.ro 3 n λi=>shOs (t i)) cs:=by
 obtain⟨v,e,h⟩:=h;obtain⟨a,c,e2,h1,h2,h3⟩:=h;exact⟨v,e,a,c,e2,h1,h2,λi hi=>by
  obtain⟨g,o,xs,T,k1,k2,k3,cs,d,k4,k5⟩:=h3 i hi;exact⟨g,o,xs,T,k1,k2,k3,cs,d,k4,a5S k5⟩⟩
theorem I5{W:World}{p:Pnl}{x0 x1 x2 x3:Value}(h:au W W (λ_=>0) 0 (panV p) (.agg #[x0,x1,x2,x3])):aE W (lQ p) [x0,x1,x2,x3]:=by
 obtain⟨cs,⟨_,_,rfl,⟨y0,rfl,h1⟩,_,_,rfl,⟨y1,rfl,h2⟩,_,_,rfl,⟨y2,rfl,h3⟩,_,_,rfl,h4,rfl⟩,e,_⟩:=h;obtain⟨rfl,h4⟩:=h4;simp only[dj,if_true,Value.agg.injEq,Array.mk.injEq,List.cons_append,List.nil_append,List.cons.injEq,and_true] at e;obtain⟨rfl,rfl,rfl,rfl⟩:=e;exact⟨_,_,rfl,SU (λ_=>rfl) ⟨_,rfl,h1⟩,_,_,rfl,a4T ⟨_,rfl,h2⟩,_,_,rfl,SU (λ_=>rfl) ⟨_,rfl,h3⟩,_,[],rfl,⟨rfl,h4⟩,rfl⟩
noncomputable def Jb:List Oper:=match bm fL (2*5+1) with | .region _ ops _=>ops.toList|_=>[]
noncomputable def pj (i : Nat) : Oper := (Jb[i]?).getD ⟨none, .move (.tmp 0), 0, "", #[], none⟩
noncomputable def Dn:Code:=match nT 5 (dC Tryz.prog fL) with | .seq (.seq _ b) _=>b|_=>.skip
noncomputable def Ja:Code:=match nT 5 (dC Tryz.prog fL) with | .seq _ c=>c|_=>.skip
theorem RZ:nT 5 (dC Tryz.prog fL)=.seq (.seq (.region 5 Jb.toArray true) Dn) Ja:=by kernel_rfl
def WI:ah:=gi Go.Proofs.YtghemgdfmldoeaaGreat.dPan Go.Proofs.YtghemgdfmldoeaaGreat.dPan fSame (λ_ _=>.one (aN true)) (λa b=>[a=mQ/\b=ze]) λa b h=>by
 obtain⟨⟨rfl,rfl⟩,_⟩:=h;exact a5F
def Ve:List ah:=[FR,M6,WI]
def a3h(c:Cs)(w:Pnl):List (Option Mb):=[some ⟨38,BA c⟩,some ⟨43,lQ w⟩,none,some ⟨43,(ff (eH c)).l⟩]
def Q3(c:Cs)(w:Pnl)(y:Int):Ds:=⟨[(2,.le (aj y lim)),(3,.eq (ak 0)),(4,.eq (ak 1)),(7,.eq (aN true)),(9,.eq (ak 3)),(10,.le (fK (nD c) (gB c))),(11,.le (gW (nS c) (fV c))),(12,.le (mS (nS c) (jh c)))],a3h c w⟩
section
variable (c:Cs) (w:Pnl) (y:Int)
theorem a3l:eO Tryz.prog (eB (nT 5 (dC Tryz.prog fL))) [(12,⟨nF fL,qS c w y 0,.ex 0,wu⟩)]:=a02 (LT.cons (a3m c w y) LT.nil) (by kernel_rfl) 5
theorem a3n{V:World}{b:Act}{W0:World}(hsz:b.tmps.size=107)(hd:b.defers=[])(hx:ac W0 V)(hs:∀x∈(qS c w y 0).l,au V V (λ_=>0) 0 x.2.v (b.tmps.getD x.1 undef)) :
  Dn.wp Tryz.prog (Exit.then (Ja.wp Tryz.prog (bodyPost Tryz.prog Tryz.f4 λe w'=>e=.returned (.bool true)/\ac W0 w')) (bodyPost Tryz.prog Tryz.f4 λe w'=>e=.returned (.bool true)/\ac W0 w')) b V:=by
 obtain⟨tm,df⟩:=b;obtain rfl:df=[]:=hd;have hJ:JJ V (bI 107 (qS c w y 0)) ⟨tm,[]⟩ V:=sJ (a:=⟨tm,[]⟩) hsz hs;have hl:=a3l c w y;rw[RZ] at hl;have hlB:eO Tryz.prog (eB Dn) [(12,⟨nF fL,qS c w y 0,.ex 0,wu⟩)]:=λd hd=>hl d (List.mem_append_left _ (List.mem_append_right _ hd))
 have key:wO Tryz.prog (env []) (m9 [] ox) [(12,⟨nF fL,qS c w y 0,.ex 0,wu⟩)] Dn 107 (qS c w y 0) wu []=some (.nm,([q0]++DJ c w y++[pR (aN true)]).map Pf.p):=by kernel_rfl
 refine Kp (od [] ox) hlB key (ku _) hJ λa' W hJ'=>?_
 refine a6H (X:=[]) (K:=Ve) (L:=[]) (c:=Ja) (res:=.one (aN true)) eO.nil [true] [⟨true=true,rfl⟩,⟨mQ=mQ/\ze=ze,rfl,rfl⟩,qX aX 1 mQ.c,qX bY 0 mQ.t,qX ptI 0 mQ.m,⟨∀j,j<1->zX j=aX (vV (zX j)),λj hj=>by obtain rfl:j=0:=(by omega);rfl⟩,⟨∀j,j<0->([]:List It)=bY (gK []),λj hj=>absurd hj (Nat.not_lt_zero j)⟩,⟨∀j,j<0->([]:List It)=ptI (wA []),λj hj=>absurd hj (Nat.not_lt_zero j)⟩] (by kernel_rfl) Tryz.func4 hJ' λv w' hv hx'=>⟨?_,ac.step hx hx'⟩
 rw[(lg.1 hv).2]
theorem a3k{V W0:World}{A:Act}(hJ:JJ V (bI (nF fL) (Q3 c w y)) A W0):(nT 5 (dC Tryz.prog fL)).wp Tryz.prog (bodyPost Tryz.prog Tryz.f4 λe w'=>e=.returned (.bool true)/\ac V w') A W0:=by
 obtain⟨r,cm,⟨hM,hd⟩,hsz,hT⟩:=hJ;have hn:A.tmps.size=107:=hsz.trans (by kernel_rfl);have hV:=hM.ext;have e3:A.tmps.getD 3 undef=.pointer (some ⟨r 0,0,none⟩):=by have t:au V W0 r 4 (ak 0) (A.tmps.getD 3 undef):=hT 3 (.one (ak 0)) (by kernel_rfl);simpa using t.scal.2
 have e4:A.tmps.getD 4 undef=.pointer (some ⟨r 1,0,none⟩):=by have t:au V W0 r 4 (ak 1) (A.tmps.getD 4 undef):=hT 4 (.one (ak 1)) (by kernel_rfl);simpa using t.scal.2
 have e9:A.tmps.getD 9 undef=.pointer (some ⟨r 3,0,none⟩):=by have t:au V W0 r 4 (ak 3) (A.tmps.getD 9 undef):=hT 9 (.one (ak 3)) (by kernel_rfl);simpa using t.scal.2
 have g2:au V W0 r 4 (aj y lim) (A.tmps.getD 2 undef):=hT 2 (.one (aj y lim)) (by kernel_rfl);have g7:au V W0 r 4 (aN true) (A.tmps.getD 7 undef):=hT 7 (.one (aN true)) (by kernel_rfl);have g10:au V W0 r 4 (fK (nD c) (gB c)) (A.tmps.getD 10 undef):=hT 10 (.one (fK (nD c) (gB c))) (by kernel_rfl);have g11:au V W0 r 4 (gW (nS c) (fV c)) (A.tmps.getD 11 undef):=hT 11 (.one (gW (nS c) (fV c))) (by kernel_rfl);have g12:au V W0 r 4 (mS (nS c) (jh c)) (A.tmps.getD 12 undef):=hT 12 (.one (mS (nS c) (jh c))) (by kernel_rfl)
 obtain⟨hh0,c0,dd0,hc0,⟨_,_,rfl,⟨a0,rfl,_⟩,_,_,rfl,⟨a1,rfl,_⟩,_,_,rfl,⟨rfl,_,i2⟩,_,_,rfl,⟨rfl,_,i3⟩,_,_,rfl,⟨rfl,_,i4⟩,c5,_,rfl,_⟩,_⟩:=hM.blk 0 ⟨38,BA c⟩ (by kernel_rfl);obtain⟨dd,hh0'⟩:∃dd,W0.heap[r 0]? = some (.cells (a0::a1::.int .i64 c.a::.int .i64 c.b::.int .i64 c.c::dd).toArray 38):=⟨_,by rw[hh0,hc0];simp only[List.cons_append,List.nil_append,List.append_assoc];rfl⟩;obtain⟨hh1,c1,dd1,hc1,hr1,_⟩:=hM.blk 1 ⟨43,lQ w⟩ (by kernel_rfl);obtain⟨x1,y1,z1,hf1,hp1⟩:∃x y z,c1=[x,y,z,.int .i64 w.r]/\au W0 W0 (λ_=>0) 0 (panV w) (.agg #[x,y,z,.int .i64 w.r]):=by
  obtain⟨v',ys,e,h1,h2⟩:=AX (l:=[panV w]) (l':=[panV w]) (xs:=[.agg c1.toArray]) hM (by kernel_rfl) ⟨_,[],rfl,⟨c1,hr1,rfl,nofun⟩,rfl⟩;cases h2;obtain⟨rfl,_⟩:=List.cons.inj e;obtain⟨x,y,z,h3⟩:=Dl h1;exact⟨x,y,z,by simpa using h3,by rw[<- h3];exact h1⟩
 obtain⟨hh3,c3,dd3,hc3,hr3,_⟩:=hM.blk 3 ⟨43,(ff (eH c)).l⟩ (by kernel_rfl);obtain⟨x3,y3,z3,hf3,hp3,hq3⟩:∃x y z,c3=[x,y,z,.int .i64 (eH c).r]/\au W0 W0 (λ_=>0) 0 (panV (eH c)) (.agg #[x,y,z,.int .i64 (eH c).r])/\au W0 W0 (λ_=>0) 0 (Go.Proofs.YtghemgdfmldoeaaGreat.panV (eH c)) (.agg #[x,y,z,.int .i64 (eH c).r]):=by
  have h1:=QZ (p:=eH c) (v:=.agg c3.toArray) (⟨c3,hr3,rfl,nofun⟩:au V W0 r 4 (ff (eH c)) (.agg c3.toArray));have h2:=a2X (p:=eH c) (v:=.agg c3.toArray) (⟨c3,hr3,rfl,nofun⟩:au V W0 r 4 (ff (eH c)) (.agg c3.toArray));obtain⟨x,y,z,h3⟩:=Dl h1;exact⟨x,y,z,by simpa using h3,by rw[<- h3];exact h1,by rw[<- h3];exact h2⟩
 subst hf1 hf3;have hh1':W0.heap[r 1]? = some (.cells (x1::y1::z1::.int .i64 w.r::dd1).toArray 43):=by rw[hh1,hc1];rfl
 have hh3':W0.heap[r 3]? = some (.cells (x3::y3::z3::.int .i64 (eH c).r::dd3).toArray 43):=by rw[hh3,hc3];rfl
 have H0:Kn A 107 [] [(3,.pointer (some ⟨r 0,0,none⟩)),(4,.pointer (some ⟨r 1,0,none⟩)),(9,.pointer (some ⟨r 3,0,none⟩)),(2,A.tmps.getD 2 undef),(7,A.tmps.getD 7 undef),(10,A.tmps.getD 10 undef),(11,A.tmps.getD 11 undef),(12,A.tmps.getD 12 undef)]:=⟨hn,hd,λx v h=>by
  simp only[List.lookup_cons,List.lookup_nil] at h;split at h
  ·rename_i e; obtain rfl : x = 3 := by simpa using e
   cases h;exact e3
  split at h
  ·rename_i e; obtain rfl : x = 4 := by simpa using e
   cases h;exact e4
  split at h
  ·rename_i e; obtain rfl : x = 9 := by simpa using e
   cases h;exact e9
  split at h
  ·rename_i e; obtain rfl : x = 2 := by simpa using e
   cases h;rfl
  split at h
  ·rename_i e; obtain rfl : x = 7 := by simpa using e
   cases h;rfl
  split at h
  ·rename_i e; obtain rfl : x = 10 := by simpa using e
   cases h;rfl
  split at h
  ·rename_i e; obtain rfl : x = 11 := by simpa using e
   cases h;rfl
  split at h
  ·rename_i e; obtain rfl : x = 12 := by simpa using e
   cases h;rfl
  ·cases h⟩
 rw[RZ];refine wp_seq (wp_seq ?_);refine wp_region_F (λW=>ac W0 W) (by kernel_rfl) (by kernel_rfl) (λW W' h hb=>ac.step h hb) (λW h=>h.size) (Below.refl _ _) ?_;rw[show Jb=[pj 0,pj 1,pj 2,pj 3,pj 4,pj 5,pj 6,pj 7,pj 8,pj 9] by kernel_rfl];refine K_ld (d:=34) (x:=9) 43 (m:=4) (b:=true) (v:=.agg #[x3,y3,z3,.int .i64 (eH c).r]) H0 rfl (λW hW=>aH hh3' hW) (by simp) rfl λb1 H1=>?_
 refine K_ld (d:=35) (x:=9) 43 (m:=4) (b:=true) (v:=.agg #[x3,y3,z3,.int .i64 (eH c).r]) H1 rfl (λW hW=>aH hh3' hW) (by simp) rfl λb2 H2=>?_
 refine K_ev (d:=36) (v:=.pointer (some ⟨r 0,2,none⟩)) H2 λb3 H3=>?_
 refine K_ld (d:=37) (x:=36) 35 (m:=3) (b:=true) (v:=.agg #[.int .i64 c.a,.int .i64 c.b,.int .i64 c.c]) H3 rfl (λW hW=>aH hh0' hW) (by simp) rfl λb4 H4=>?_
 refine LK (d:=38) (f:=bZ) (args:=#[.agg #[x3,y3,z3,.int .i64 (eH c).r],.agg #[.int .i64 c.a,.int .i64 c.b,.int .i64 c.c]]) (λv W=>au W W (λ_=>0) 0 (panV (qJ (eH c) c.a c.b c.c)) v) (λv W W' h hb=>Dk hb h) H4 (λW hW=>?_) λv38 b5 ex5 H5=>?_
 ·refine (a2w (eH c) c.a c.b c.c (a3E c) W [.agg #[x3, y3, z3, .int .i64 (eH c).r], .agg #[.int .i64 c.a, .int .i64 c.b, .int .i64 c.c]] (aK.2 ⟨_, a2Y hW hq3, _, rfl, aK.2 ⟨_, bL.2 ⟨_, bi.2 ⟨aP i2, _, rfl, bi.2 ⟨aP i3, _, rfl, bi.2 ⟨aP i4, _, rfl, rfl⟩⟩⟩, rfl⟩, _, rfl, rfl⟩⟩)).mono ?_;rintro e W' ⟨v,rfl,hv,hx⟩;exact⟨v,rfl,hx,QZ hv⟩
 obtain⟨x5,y5,z5,rfl⟩:∃x y z,v38=.agg #[x,y,z,.int .i64 (qJ (eH c) c.a c.b c.c).r]:=by
  obtain⟨W1,_,h⟩:=ex5;exact Dl h
 refine K_ld (d:=39) (x:=4) 43 (m:=4) (b:=true) (v:=.agg #[x1,y1,z1,.int .i64 w.r]) H5 rfl (λW hW=>aH hh1' hW) (by simp) rfl λb6 H6=>?_
 refine LK (d:=40) (f:=BS) (args:=#[.agg #[x1,y1,z1,.int .i64 w.r]]) (λv W=>au W W (λ_=>0) 0 (panV (rK w)) v) (λv W W' h hb=>Dk hb h) H6 (λW hW=>Yf w (Dk hW.1 hp1)) λv40 b7 ex7 H7=>?_
 obtain⟨x7,y7,z7,rfl⟩:∃x y z,v40=.agg #[x,y,z,.int .i64 (rK w).r]:=by
  obtain⟨W1,_,h⟩:=ex7;exact Dl h
 refine K_al (d:=41) (.cells #[x3,y3,z3,.int .i64 (eH c).r,x5,y5,z5,.int .i64 (qJ (eH c) c.a c.b c.c).r,x7,y7,z7,.int .i64 (rK w).r] 43) (λg=>.slice (some ⟨g,0,none⟩) 3 3) H7 λg b8 ng H8=>?_
 refine K_ev (d:=42) (v:=.int .i64 3) H8 λb9 H9=>?_
 refine K_ev (d:=43) (v:=.int .i64 0) H9 λb10 H10=>?_
 rintro W5 ⟨⟨⟨xx,h38⟩,h40⟩,hg⟩;refine a3n c w y H10.sz H10.df (ac.step hV xx) λz hz=>?_
 simp only[qS,Dp,List.mem_cons,List.not_mem_nil,or_false] at hz;rcases hz with rfl|rfl|rfl|rfl|rfl|rfl|rfl|rfl
 ·rw [H10.at_ 43 _ rfl];exact dL.2 ⟨⟨show (0:Int).natAbs<=2000 by decide,show I64 0 by unfold I64;omega⟩,rfl⟩
 ·rw [H10.at_ 2 _ rfl];exact dL.2 (dL.1 g2)
 ·rw [H10.at_ 7 _ rfl];exact lg.2 (lg.1 g7)
 ·rw [H10.at_ 10 _ rfl];exact I0 xx g10
 ·rw [H10.at_ 11 _ rfl];exact I0 xx g11
 ·rw [H10.at_ 12 _ rfl];exact I0 xx g12
 ·rw [H10.at_ 41 _ rfl];refine af.val (i:=.ro 4 3 λk=>lQ (q3 c w k)) ⟨_,rfl,_,3,rfl,Nat.le_refl _,by decide,λi hi=>?_⟩;refine⟨g,0,_,(43,(0,0)),rfl,hg,by simp;omega,?_⟩;obtain rfl|rfl|rfl:i=0\/i=1\/i=2:=by omega
  ·exact⟨_,_,rfl,I5 (p:=q3 c w 0) (Dk xx hp3)⟩
  ·exact⟨[x5,y5,z5,.int .i64 (qJ (eH c) c.a c.b c.c).r],[x7,y7,z7,.int .i64 (rK w).r],rfl,I5 (p:=q3 c w 1) h38⟩
  ·exact⟨[x7,y7,z7,.int .i64 (rK w).r],[],rfl,I5 (p:=q3 c w 2) h40⟩
 ·rw [H10.at_ 42 _ rfl];exact dL.2 ⟨⟨show (3:Int).natAbs<=lim by decide,show I64 3 by unfold I64;omega⟩,rfl⟩
def a3i:List Pf:=[zx c.nd c.d,zx c.ns c.s,zx c.nd c.d,zx c.nd c.d,zx c.ns c.s,qZ y,pR (ak 0),pR (ak 1),pR (aN true),pR (ak 3),qL aS (gB c) (nD c) (nD c) rfl,qL aY (fV c) (nS c) (nS c) rfl,qL cS (jh c) (nS c) (nS c) rfl]++I3 c++qP w++DI (eH c)
theorem pl_ok:ae Tryz.prog fL [tA c,panV w,aj y lim] (.one (aN true)):=by
 intro W vals hv;obtain⟨c0,hc0⟩:∃c0,Tryz.f4.body=some c0:=⟨_,rfl⟩;have hb:dC Tryz.prog fL=c0:=by
  have:dC Tryz.prog fL=(Tryz.f4.body).getD .skip:=by kernel_rfl
  rw[this,hc0];rfl
 refine (calls_of_wp (R:=λe w'=>e=.returned (.bool true)/\ac W w') Tryz.func4 hc0 ?_).mono λe w' h=>⟨_,h.1,lg.2 ⟨rfl,rfl⟩,h.2⟩
 rw[<- hb];exact Q7 (X:=[]) (K:=ox) (L:=[]) LT.nil (n:=5) (d:=Q3 c w y) (q:=[]) (a3i c w y) (by kernel_rfl) hv λa' W1 hJ=>a3k c w y hJ
end
end Go.Proofs.YtghemgdfmldoeaaGreat.W
