import Derived.Test.YtceemiodpccbhaaGreatP36
set_option linter.unusedVariables false
set_option linter.unusedSimpArgs false

namespace Go.Proofs.YtceemiodpccbhaaGreat
open Go.RowKit

set_option maxRecDepth 100000
section
def bothR(a b:Sh):Int:=IntKind.i64.wrap (a.r+b.r)
def zrtR(a b:Sh):Rt:=(ofP (IntKind.i64.wrap (0-bothR a b)) 0 (ofZ 0) (ofZ 1)).1
def zGpL:List It:=[.b false,.k 0,.k 0,.b false,.v (.slice none 0 0),.b false,.v (.slice none 0 0)]++List.replicate 14 (.k 0)
def outR(a b:Sh)(n:Nat):List It:=if n=0 then zGpL else gpL (gapK (cnd a b) n)
def oM(a b:Sh)(X:List It):List (Option Mb):=shB a++shB b++[some ⟨42,zGpL⟩,some ⟨38,(rtV (zrtR a b)).l⟩,some ⟨42,X⟩]
def oL(a b:Sh):List (Nat×Rq):=[(2,.eq (ptrN 0)),(3,.eq (ptrN 1)),(4,.eq (ptrN 2)),(6,.eq (inV (bothR a b) lim)),(7,.eq (ptrN 3)),(9,.eq (ptrN 4))]
def oD(a b:Sh)(X:List It)(i:Nat):Ds:=⟨oL a b++[(10,.le (inV (i:Int) 2000))],oM a b X⟩
def oE(a b:Sh)(X:List It)(i k:Nat):Ds:=⟨oL a b++[(10,.le (inV (i:Int) 2000)),(11,.le (inV (k:Int) 2000))],oM a b X⟩
def metL(a b:Sh):List It:=[.b true]++(rtV (zrtR a b)).l++List.replicate 14 (.k 0)
def oX(a b:Sh):Ds:=⟨[(4,.eq (ptrN 2)),(5,.eq ⟨false,[.b true]⟩)],[none,none,some ⟨42,metL a b⟩]⟩
def pZ(x:Int):Pf:=⟨x=x,rfl⟩
def pNm(x:Nm):Pf:=⟨It.d (.num x)=It.d (.num x),rfl⟩
def wRt(r:Rt):List Pf:=[pZ r.add,pZ r.s,pNm r.n,pNm r.d]
def wSp(s:Sp):List Pf:=[pZ s.x,pZ s.y,pZ s.dx,pZ s.dy,pZ s.p,pZ s.q,pZ s.len]
def wGp(g:Gp):List Pf:=wRt g.d++wSp g.a++wSp g.b
def wB(x:Bool):Pf:=⟨x=x,rfl⟩
def wVb(x:Bool):Pf:=⟨It.v (.bool x)=It.v (.bool x),rfl⟩
def pO(a b:Sh):List Pf:=[pR (ptrN 0),pR (ptrN 1),pR (ptrN 2),pR (inV (bothR a b) lim),pR (ptrN 3),pR (ptrN 4)]
def pOm(a b:Sh):List Pf:=pSh a++pSh b++[pSl,pSl]++wRt (zrtR a b)
theorem cnd_at(a b:Sh){i k:Nat}(hk:k<b.n):cnd a b (i*b.n+k)=edgesR (a.e i) (b.e k):=by
 unfold cnd
 rw[show (i*b.n+k)/b.n=i by rw[Nat.mul_comm,Nat.mul_add_div (by omega),Nat.div_eq_of_lt hk,Nat.add_zero],show (i*b.n+k)%b.n=k by rw[Nat.mul_comm,Nat.mul_add_mod,Nat.mod_eq_of_lt hk]]
theorem meet_n{e f:Ed}(h:countE e f=0):(!(countE e f==0))=false:=by rw[h];rfl
theorem meet_y{e f:Ed}(h:countE e f≠0):(!(countE e f==0))=true:=by simpa using h
theorem rnd_in(a b:Sh)(i k:Nat)(hi:i<a.n)(hk:k<b.n)(ha:a.n<=40)(hb:b.n<=40)(hs:countE (a.e i) (b.e k)=0) :
  Rnd [] KOo 40 24 [] (nF 40) (oE a b (outR a b (i*b.n+k)) i k) (oE a b (outR a b (i*b.n+k+1)) i (k+1)) .nm:=by
 have xi:0<=(i:Int)/\(i:Int)<a.n:=by omega
 have xk:0<=(k:Int)/\(k:Int)<b.n:=by omega
 have ec:=cnd_at a b (i:=i) hk
 by_cases h0:i*b.n+k=0
 ·have hk0 : k = 0 := by omega
  have hi0:i=0:=by
   rcases Nat.eq_zero_or_pos i with h|h
   ·exact h
   ·have:=Nat.mul_pos h (show 0<b.n by omega);omega
  subst hk0;subst hi0
  rw[h0] at ec ⊢
  have e2:outR a b (0+1)=gpL (edgesR (a.e 0) (b.e 0)).gp:=by
   show gpL (gapK (cnd a b) (0+1))=_
   unfold gapK
   rw[ec];rfl
  rw[show outR a b 0=zGpL from rfl,e2]
  exact⟨[true,false,true],[pT (lt_tt xk.2),pP xi,pP xk,pF (meet_n hs),pP xi,pP xk,pT (show (((0:Nat):Int)+((0:Nat):Int)==0)=true from rfl)]++pO a b++[pZ ((0:Nat):Int),pI 0 (by decide)]++pOm a b++[wB false]++wGp (edgesR (a.e 0) (b.e 0)).gp,by kernel_rfl⟩
 ·have hz:(((i:Nat):Int)+((k:Nat):Int)==0)=false:=by
   rw[beq_eq_false_iff_ne]
   intro g
   have:i=0/\k=0:=by omega
   obtain⟨rfl,rfl⟩:=this
   exact h0 (by rw[Nat.zero_mul])
  have e1:outR a b (i*b.n+k)=gpL (gapK (cnd a b) (i*b.n+k)):=by unfold outR;rw[if_neg h0]
  have e2:outR a b (i*b.n+k+1)=gpL (gapK (cnd a b) (i*b.n+k+1)):=by unfold outR;rw[if_neg (by omega)]
  have e3:gapK (cnd a b) (i*b.n+k+1)=if (i*b.n+k==0||decide (cmpRt (edgesR (a.e i) (b.e k)).d (gapK (cnd a b) (i*b.n+k)).d<0))=true then (edgesR (a.e i) (b.e k)).gp else gapK (cnd a b) (i*b.n+k):=by
   rw[<- ec];rfl
  have h0':(i*b.n+k==0)=false:=by simpa using h0
  rw[e1,e2,e3,h0',Bool.false_or]
  generalize gapK (cnd a b) (i*b.n+k)=g
  cases hc:decide (cmpRt (edgesR (a.e i) (b.e k)).d g.d<0) with
  | true =>
   rw[if_pos rfl]
   exact⟨[true,false,false,true],[pT (lt_tt xk.2),pP xi,pP xk,pF (meet_n hs),pP xi,pP xk,pF hz,pT hc]++pO a b++[pZ ((i:Nat):Int),pI k (by omega)]++pOm a b++[wB false]++wGp (edgesR (a.e i) (b.e k)).gp,by kernel_rfl⟩
  | false =>
   rw[if_neg (by decide)]
   exact⟨[true,false,false,false],[pT (lt_tt xk.2),pP xi,pP xk,pF (meet_n hs),pP xi,pP xk,pF hz,pF hc]++pO a b++[pZ ((i:Nat):Int),pI k (by omega)]++pOm a b++[wVb g.m]++wGp g,by kernel_rfl⟩
theorem outR_pos(a b:Sh){n:Nat}(h:0<n):outR a b n=gpL (gapK (cnd a b) n):=by unfold outR;rw[if_neg (by omega)]
theorem orc_in(a b:Sh)(i:Nat)(hi:i<a.n)(ha:a.n<=40)(hb:b.n<=40)(h1:0<b.n)(hs:∀k,k<b.n->countE (a.e i) (b.e k)=0) :
  OrcOk Tryz.prog (lpC 40 24) ⟨nF 40,oE a b (outR a b (i*b.n)) i 0,.ex 2,oD a b (outR a b ((i+1)*b.n)) i⟩ :=
 orc (X:=[]) (K:=KOo) (f:=40) (id:=24) (n:=nF 40) b.n (fun k=>oE a b (outR a b (i*b.n+k)) i k) (fun _=>[]) (e:=.ex 2) (d1:=oD a b (outR a b ((i+1)*b.n)) i) (by kernel_rfl) (fun _=>by kernel_rfl) (fun _ _=>LT.nil)
  (fun k hk => rnd_in a b i k hi hk ha hb (hs k hk)) (by
   rw[show (i+1)*b.n=i*b.n+b.n by rw[Nat.add_mul,Nat.one_mul],outR_pos a b (show 0<i*b.n+b.n by omega)]
   generalize gapK (cnd a b) (i*b.n+b.n)=g
   exact⟨[false],[pF (lt_ff (show ¬(b.n:Int)<(b.n:Int) by omega))]++pO a b++[pZ ((i:Nat):Int)]++pOm a b++[wVb g.m]++wGp g,by kernel_rfl⟩) nofun
theorem orc_out(a b:Sh)(i m:Nat)(hi:i<a.n)(ha:a.n<=40)(hb:b.n<=40)(hm:m<b.n)(hs:∀k,k<m->countE (a.e i) (b.e k)=0)(hc:countE (a.e i) (b.e m)≠0) :
  OrcOk Tryz.prog (lpC 40 24) ⟨nF 40,oE a b (outR a b (i*b.n)) i 0,.rt,oX a b⟩ :=
 orc (X:=[]) (K:=KOo) (f:=40) (id:=24) (n:=nF 40) m (fun k=>oE a b (outR a b (i*b.n+k)) i k) (fun _=>[]) (e:=.rt) (d1:=oX a b) (by kernel_rfl) (fun _=>by kernel_rfl) (fun _ _=>LT.nil)
  (fun k hk => rnd_in a b i k hi (by omega) ha hb (hs k hk)) (by
   have xi:0<=(i:Int)/\(i:Int)<a.n:=by omega
   have xk:0<=(m:Int)/\(m:Int)<b.n:=by omega
   generalize outR a b (i*b.n+m)=X
   exact⟨[true,true],[pT (lt_tt xk.2),pP xi,pP xk,pT (meet_y hc),pR (ptrN 2),pR ⟨false,[.b true]⟩]++wRt (zrtR a b),by kernel_rfl⟩) nofun
noncomputable def inT(a b:Sh)(i:Nat):List (Nat×Orc):=[(24,⟨nF 40,oE a b (outR a b (i*b.n)) i 0,.ex 2,oD a b (outR a b ((i+1)*b.n)) i⟩)]
noncomputable def inX(a b:Sh)(i:Nat):List (Nat×Orc):=[(24,⟨nF 40,oE a b (outR a b (i*b.n)) i 0,.rt,oX a b⟩)]
theorem rnd_out(a b:Sh)(i:Nat)(hi:i<a.n)(ha:a.n<=40)(h1:0<b.n) :
  Rnd [] KOo 40 18 (inT a b i) (nF 40) (oD a b (outR a b (i*b.n)) i) (oD a b (outR a b ((i+1)*b.n)) (i+1)) .nm:=by
 have xi:0<=(i:Int)/\(i:Int)<a.n:=by omega
 unfold inT
 rw[outR_pos a b (show 0<(i+1)*b.n from Nat.mul_pos (Nat.succ_pos i) h1)]
 generalize gapK (cnd a b) ((i+1)*b.n)=g'
 by_cases h0:i*b.n=0
 ·rw [h0, show outR a b 0 = zGpL from rfl]
  exact⟨[true],[pT (lt_tt xi.2)]++pO a b++[pZ ((i:Nat):Int),pZ ((0:Nat):Int)]++pOm a b++[pSl,pSl]++pO a b++[pI i (by omega)]++pOm a b++[wVb g'.m]++wGp g',by kernel_rfl⟩
 ·rw [outR_pos a b (show 0 < i * b.n by omega)]
  generalize gapK (cnd a b) (i*b.n)=g
  exact⟨[true],[pT (lt_tt xi.2)]++pO a b++[pZ ((i:Nat):Int),pZ ((0:Nat):Int)]++pOm a b++[wVb g.m]++wGp g++pO a b++[pI i (by omega)]++pOm a b++[wVb g'.m]++wGp g',by kernel_rfl⟩
def oF(a b:Sh)(g:Gp):Ds:=⟨[(4,.eq (ptrN 2)),(6,.eq (inV (bothR a b) lim)),(9,.eq (ptrN 4))],[none,none,some ⟨42,zGpL⟩,none,some ⟨42,gpL g⟩]⟩
theorem orc_all(a b:Sh)(ha:a.n<=40)(hb:b.n<=40)(h0:0<a.n)(h1:0<b.n)(hs:∀i,i<a.n->∀k,k<b.n->countE (a.e i) (b.e k)=0) :
  OrcOk Tryz.prog (lpC 40 18) ⟨nF 40,oD a b zGpL 0,.ex 0,oF a b (gapK (cnd a b) (a.n*b.n))⟩:=by
 have h:=orc (X:=[]) (K:=KOo) (f:=40) (id:=18) (n:=nF 40) a.n (fun i=>oD a b (outR a b (i*b.n)) i) (fun i=>if i<a.n then inT a b i else []) (e:=.ex 0) (d1:=oF a b (gapK (cnd a b) (a.n*b.n))) (by kernel_rfl) (fun i=>by split<;>kernel_rfl) (fun i _=>by
   split
   ·rename_i hi
    exact LT.cons (orc_in a b i hi ha hb h1 (hs i hi)) LT.nil
   ·exact LT.nil)
  (fun i hi => by rw [if_pos hi]; exact rnd_out a b i hi ha h1) (by
   rw[if_neg (Nat.lt_irrefl _),outR_pos a b (Nat.mul_pos h0 h1)]
   generalize gapK (cnd a b) (a.n*b.n)=g
   exact⟨[false],[pF (lt_ff (show ¬(a.n:Int)<(a.n:Int) by omega)),pR (ptrN 2),pR (inV (bothR a b) lim),pR (ptrN 4),pSl,pSl,wVb g.m]++wGp g,by kernel_rfl⟩) nofun
 simpa[outR] using h
theorem rnd_met(a b:Sh)(i:Nat)(hi:i<a.n)(ha:a.n<=40):Rnd [] KOo 40 18 (inX a b i) (nF 40) (oD a b (outR a b (i*b.n)) i) (oX a b) .rt:=by
 have xi:0<=(i:Int)/\(i:Int)<a.n:=by omega
 unfold inX
 by_cases h0:i*b.n=0
 ·rw [h0, show outR a b 0 = zGpL from rfl]
  exact⟨[true],[pT (lt_tt xi.2)]++pO a b++[pZ ((i:Nat):Int),pZ ((0:Nat):Int)]++pOm a b++[pSl,pSl]++[pR (ptrN 2),pR ⟨false,[.b true]⟩]++wRt (zrtR a b),by kernel_rfl⟩
 ·rw [outR_pos a b (show 0 < i * b.n by omega)]
  generalize gapK (cnd a b) (i*b.n)=g
  exact⟨[true],[pT (lt_tt xi.2)]++pO a b++[pZ ((i:Nat):Int),pZ ((0:Nat):Int)]++pOm a b++[wVb g.m]++wGp g++[pR (ptrN 2),pR ⟨false,[.b true]⟩]++wRt (zrtR a b),by kernel_rfl⟩
theorem orc_met(a b:Sh)(i m:Nat)(ha:a.n<=40)(hb:b.n<=40)(hi:i<a.n)(hm:m<b.n)(hs:∀x,x<i->∀k,k<b.n->countE (a.e x) (b.e k)=0)(hs2:∀k,k<m->countE (a.e i) (b.e k)=0)(hc:countE (a.e i) (b.e m)≠0) :
  OrcOk Tryz.prog (lpC 40 18) ⟨nF 40,oD a b zGpL 0,.rt,oX a b⟩:=by
 have h1:0<b.n:=by omega
 have h:=orc (X:=[]) (K:=KOo) (f:=40) (id:=18) (n:=nF 40) i (fun i=>oD a b (outR a b (i*b.n)) i) (fun x=>if x<i then inT a b x else inX a b i) (e:=.rt) (d1:=oX a b) (by kernel_rfl) (fun x=>by split<;>kernel_rfl) (fun x hx=>by
   split
   ·rename_i hx'
    exact LT.cons (orc_in a b x (by omega) ha hb h1 (hs x hx')) LT.nil
   ·exact LT.cons (orc_out a b i m hi ha hb hm hs2 hc) LT.nil)
  (fun x hx => by rw [if_pos hx]; exact rnd_out a b x (by omega) ha h1) (by
   rw[if_neg (Nat.lt_irrefl _)]
   exact rnd_met a b i hi ha) nofun
 simpa[outR] using h
theorem both_eq{a b:Sh}(ha:Good a)(hb:Good b):IntKind.i64.wrap (0-bothR a b)=sumR a b/\zrtR a b=zrt a b:=by
 have r1:=ha.r
 have r2:=hb.r
 have e1:bothR a b=a.r+b.r:=wrap_in (by unfold I64;omega)
 have e2:IntKind.i64.wrap (0-bothR a b) = -a.r-b.r:=by rw[e1];exact (wrap_in (by unfold I64;omega)).trans (by omega)
 have e3:sumR a b = -a.r-b.r:=by
  unfold sumR
  rw[show IntKind.i64.wrap (0-a.r) = -a.r from (wrap_in (by unfold I64;omega)).trans (by omega),wrap_in (by unfold I64;omega)]
 have e4:IntKind.i64.wrap (0-bothR a b)=sumR a b:=e2.trans e3.symm
 exact⟨e4,by unfold zrtR zrt;rw[e4]⟩
theorem r10Of_bad(a b:Sh)(h:chkS a≠0\/chkS b≠0):Fok Tryz.prog 40 [shpV a,shpV b] (ofV (Gp.no,false)):=by
 by_cases h1:chkS a≠0
 ·exact fok KOo [true] [pEd a,pT (ne_T h1)] (by kernel_rfl)
 ·exact fok KOo [false,true] [pEd a,pF (ne_F h1),pEd b,pT (ne_T (h.resolve_left h1))] (by kernel_rfl)
def pHo(a b:Sh)(h1:chkS a=0)(h2:chkS b=0):List Pf:=[pEd a,pF (ne_F (fun g=>g h1)),pEd b,pF (ne_F (fun g=>g h2)),pEd a,pEd b,pP (show a.n<=1000 by have:=(chk_good h1).n40;omega),pP (show 0<b.n from (chk_good h2).n1)]
def pHo2(a b:Sh)(h1:chkS a=0)(h2:chkS b=0):List Pf:=[pEd b,pEd a,pP (show b.n<=1000 by have:=(chk_good h2).n40;omega),pP (show 0<a.n from (chk_good h1).n1)]
theorem r10Of_aro(a b:Sh)(h1:chkS a=0)(h2:chkS b=0)(h:aroB a b=true\/aroB b a=true):Fok Tryz.prog 40 [shpV a,shpV b] (ofV (⟨true,zrtR a b,Sp.no,Sp.no⟩,true)):=by
 cases g:aroB a b with
 | true=>exact fok KOo [false,false,true] (pHo a b h1 h2++[pT g]) (by kernel_rfl)
 | false=>exact fok KOo [false,false,false,true] (pHo a b h1 h2++[pF g]++pHo2 a b h1 h2++[pT (h.resolve_left (by rw[g];decide))]) (by kernel_rfl)
end

set_option maxRecDepth 100000
section
theorem r10Of_far(a b:Sh)(h1:chkS a=0)(h2:chkS b=0)(g1:aroB a b=false)(g2:aroB b a=false)(hs:∀i,i<a.n->∀k,k<b.n->countE (a.e i) (b.e k)=0) :
  Fok Tryz.prog 40 [shpV a,shpV b] (ofV ({ gapK (cnd a b) (a.n*b.n) with d:=(plusR (gapK (cnd a b) (a.n*b.n)).d (IntKind.i64.wrap (0-bothR a b))).1 },true)):=by
 have o:=orc_all a b (chk_good h1).n40 (chk_good h2).n40 (chk_good h1).n1 (chk_good h2).n1 hs
 generalize gapK (cnd a b) (a.n*b.n)=g at o ⊢
 exact fokL [] KOo _ (LT.cons o LT.nil) [false,false,false,false] (pHo a b h1 h2++[pF g1]++pHo2 a b h1 h2++[pF g2]++pO a b++[pZ ((0:Nat):Int)]++pOm a b++[pSl,pSl]) (by kernel_rfl)
theorem r10Of_met(a b:Sh)(h1:chkS a=0)(h2:chkS b=0)(g1:aroB a b=false)(g2:aroB b a=false)(o:OrcOk Tryz.prog (lpC 40 18) ⟨nF 40,oD a b zGpL 0,.rt,oX a b⟩) :
  Fok Tryz.prog 40 [shpV a,shpV b] (ofV (⟨true,zrtR a b,Sp.no,Sp.no⟩,true)) :=
 fokL [] KOo _ (LT.cons o LT.nil) [false,false,false,false] (pHo a b h1 h2++[pF g1]++pHo2 a b h1 h2++[pF g2]++pO a b++[pZ ((0:Nat):Int)]++pOm a b++[pSl,pSl]) (by kernel_rfl)
theorem sep_at(a b:Sh){i k:Nat}(hk:k<b.n):sep a b (i*b.n+k)=(countE (a.e i) (b.e k)==0):=by
 unfold sep
 rw[show (i*b.n+k)/b.n=i by rw[Nat.mul_comm,Nat.mul_add_div (by omega),Nat.div_eq_of_lt hk,Nat.add_zero],show (i*b.n+k)%b.n=k by rw[Nat.mul_comm,Nat.mul_add_mod,Nat.mod_eq_of_lt hk]]
theorem pair_lt{i k n m:Nat}(hi:i<n)(hk:k<m):i*m+k<n*m:=by
 have:=Nat.mul_le_mul_right m (show i+1<=n from hi)
 rw[Nat.add_mul,Nat.one_mul] at this
 omega
theorem r10Of_fok(a b:Sh):Fok Tryz.prog 40 [shpV a,shpV b] (ofV (ofQ a b)):=by
 by_cases h:chkS a≠0\/chkS b≠0
 ·rw [show ofQ a b = (Gp.no, false) by unfold ofQ; rw [if_pos h]]
  exact r10Of_bad a b h
 have h1:chkS a=0:=Classical.not_not.1 fun g=>h (.inl g)
 have h2:chkS b=0:=Classical.not_not.1 fun g=>h (.inr g)
 have G1:=chk_good h1
 have G2:=chk_good h2
 obtain⟨es,ez⟩:=both_eq G1 G2
 cases hm:metB a b with
 | true =>
  rw[show ofQ a b=(metR a b,true) by unfold ofQ;rw[if_neg h,if_pos hm]]
  unfold metR
  rw[<- ez]
  by_cases ga:aroB a b=true\/aroB b a=true
  ·exact r10Of_aro a b h1 h2 ga
  have g1:aroB a b=false:=Bool.eq_false_iff.2 fun g=>ga (.inl g)
  have g2:aroB b a=false:=Bool.eq_false_iff.2 fun g=>ga (.inr g)
  have hf:allB (sep a b) (a.n*b.n)=false:=by
   unfold metB at hm
   rw[g1,g2] at hm
   simpa using hm
  obtain⟨j,hj,k1,k2⟩:=allB_f hf
  have hb0:0<b.n:=G2.n1
  have i1:j/b.n<a.n:=(Nat.div_lt_iff_lt_mul hb0).2 hj
  have i2:j%b.n<b.n:=Nat.mod_lt _ hb0
  have ej:j/b.n*b.n+j%b.n=j:=by rw[Nat.mul_comm];exact Nat.div_add_mod j b.n
  have sp:∀x k,k<b.n->x*b.n+k<j->countE (a.e x) (b.e k)=0:=fun x k hk hlt=>by
   have:=k2 _ hlt
   rw[sep_at a b hk] at this
   simpa using this
  refine r10Of_met a b h1 h2 g1 g2 (orc_met a b (j/b.n) (j%b.n) G1.n40 G2.n40 i1 i2 (fun x hx k hk=>sp x k hk ?_) (fun k hk=>sp _ k (by omega) (by omega)) ?_)
  ·have := pair_lt hx hk
   omega
  ·rw [<- ej, sep_at a b i2] at k1
   simpa using k1
 | false =>
  rw[show ofQ a b=({ gapK (cnd a b) (a.n*b.n) with d:=(plusR (gapK (cnd a b) (a.n*b.n)).d (sumR a b)).1 },true) by unfold ofQ;rw[if_neg h,if_neg (by rw[hm];decide)],<- es]
  have hm':=hm
  unfold metB at hm'
  simp only[Bool.or_eq_false_iff,Bool.not_eq_false'] at hm'
  obtain⟨⟨g1,g2⟩,hall⟩:=hm'
  refine r10Of_far a b h1 h2 g1 g2 fun i hi k hk=>?_
  have:=allB_t.1 hall _ (pair_lt hi hk)
  rw[sep_at a b hk] at this
  simpa using this
end

set_option maxRecDepth 100000
section
def d10Of:Con:=sh2F 40 (fun s u=>ofV (ofQ s u)) r10Of_fok
def KTr:List Con:=[d10Of,d02CmpInt]
theorem r10Touch_fok(s u:Sh):Fok Tryz.prog 43 [shpV s,shpV u] (.one (blV (touchQ s u))):=by
 cases h:(ofQ s u).2 with
 | false=>exact Fok.bb (show touchQ s u=false by unfold touchQ;rw[h];rfl) (fok KTr [false] [pEd s,pEd u,pF h] (by kernel_rfl))
 | true=>exact Fok.bb (show touchQ s u=decide (cmpG (ofQ s u).1 0<=0) by unfold touchQ;rw[h];rfl) (fok KTr [true] [pEd s,pEd u,pT h] (by kernel_rfl))
theorem r10Least_fok(s u:Sh)(z:Int):Fok Tryz.prog 44 [shpV s,shpV u,inV z lim] (.one (blV (leastB s u z))):=by
 cases h:(ofQ s u).2 with
 | false=>exact Fok.bb (show leastB s u z=false by unfold leastB;rw[h];rfl) (fok KTr [false] [pEd s,pEd u,pF h] (by kernel_rfl))
 | true=>exact Fok.bb (show leastB s u z=decide (cmpG (ofQ s u).1 z >= 0) by unfold leastB;rw[h];rfl) (fok KTr [true] [pEd s,pEd u,pT h] (by kernel_rfl))
def d10Touch:Con:=sh2F 43 (fun s u=>.one (blV (touchQ s u))) r10Touch_fok
def d10Least:Con:=sh3F 44 (fun s u z=>.one (blV (leastB s u z))) r10Least_fok
def KBr:List Con:=[d10Of,d09Chk]
theorem r10Border_fok(s u:Sh):Fok Tryz.prog 41 [shpV s,shpV u] (ofV (borderQ s u)):=by
 unfold borderQ
 by_cases h1:s.k≠2
 ·rw [if_pos (.inl h1)]
  exact fok KBr [true] [pT (ne_T h1)] (by kernel_rfl)
 by_cases h2:chkS s≠0
 ·rw [if_pos (.inr h2)]
  exact fok KBr [false,true] [pF (ne_F h1),pEd s,pT (ne_T h2)] (by kernel_rfl)
 ·rw [if_neg (fun g => g.elim h1 h2)]
  exact fok KBr [false,false] [pF (ne_F h1),pEd s,pF (ne_F h2),pEd s,pEd u] (by kernel_rfl)
def d10Bord:Con:=sh2F 41 (fun s u=>ofV (borderQ s u)) r10Border_fok
def KHr:List Con:=[d10Bord,d09Ins,d02CmpInt]
theorem r10Holds_fok(s u:Sh)(z:Int):Fok Tryz.prog 45 [shpV s,shpV u,inV z lim] (.one (blV (holdsQ s u z))):=by
 cases h1:(borderQ s u).2 with
 | false=>exact Fok.bb (show holdsQ s u z=false by unfold holdsQ;rw[if_pos (.inl h1)]) (fok KHr [true] [pEd s,pEd u,pT (not_T h1)] (by kernel_rfl))
 | true =>
  cases h2:(borderQ s u).1.m with
  | true=>exact Fok.bb (show holdsQ s u z=false by unfold holdsQ;rw[if_pos (.inr (.inl h2))]) (fok KHr [false,true] [pEd s,pEd u,pF (not_F h1),pT h2] (by kernel_rfl))
  | false =>
   by_cases h3:cmpG (borderQ s u).1 z<0
   ·exact Fok.bb (show holdsQ s u z=false by unfold holdsQ;rw[if_pos (.inr (.inr h3))]) (fok KHr [false,false,true] [pEd s,pEd u,pF (not_F h1),pF h2,pT (decide_eq_true h3)] (by kernel_rfl))
   ·obtain ⟨⟨_, k1⟩, _, k2⟩ := borderQ_ok h1
    have g1:=chk_good k1
    have g2:=chk_good k2
    have n1:=g1.n40
    have n2:=g2.n40
    have m1:=g1.n1
    have m2:=g2.n1
    have e0:holdsQ s u z=(insS s (u.e 0).ax (u.e 0).ay&&!((u.k==2)&&insS u (s.e 0).ax (s.e 0).ay)):=by unfold holdsQ;rw[if_neg (by simp[h1,h2,h3])];rfl
    cases h4:insS s (u.e 0).ax (u.e 0).ay with
    | false=>exact Fok.bb (show holdsQ s u z=false by rw[e0,h4];rfl) (fok KHr [false,false,false,false] [pEd s,pEd u,pF (not_F h1),pF h2,pF (decide_eq_false h3),pP (show 0<=(0:Int)/\(0:Int)<u.n by omega),pEd s,pP (show s.n<=1000 by omega),pF h4] (by kernel_rfl))
    | true =>
     by_cases h5:u.k=2
     ·exact Fok.bb (show holdsQ s u z=!(insS u (s.e 0).ax (s.e 0).ay) by rw[e0,h4,h5];rfl) (fok KHr [false,false,false,true,false] [pEd s,pEd u,pF (not_F h1),pF h2,pF (decide_eq_false h3),pP (show 0<=(0:Int)/\(0:Int)<u.n by omega),pEd s,pP (show s.n<=1000 by omega),pT h4,pF (ne_F (fun g=>g h5)),pP (show 0<=(0:Int)/\(0:Int)<s.n by omega),pEd u,pP (show u.n<=1000 by omega)] (by kernel_rfl))
     ·have h6 : (u.k == 2) = false := by simpa using h5
      exact Fok.bb (show holdsQ s u z=true by rw[e0,h4,h6];rfl) (fok KHr [false,false,false,true,true] [pEd s,pEd u,pF (not_F h1),pF h2,pF (decide_eq_false h3),pP (show 0<=(0:Int)/\(0:Int)<u.n by omega),pEd s,pP (show s.n<=1000 by omega),pT h4,pT (ne_T h5)] (by kernel_rfl))
def d10Holds:Con:=sh3F 45 (fun s u z=>.one (blV (holdsQ s u z))) r10Holds_fok
end

set_option maxRecDepth 100000
section
def KSm:List Con:=[d01Same]
theorem sp_self(s:Sp):eqZ [.i s.x,.i s.y,.i s.dx,.i s.dy,.i s.p,.i s.q,.i s.len] [.i s.x,.i s.y,.i s.dx,.i s.dy,.i s.p,.i s.q,.i s.len]=true:=by
 simp[eqZ,eqS]
theorem b_self(b:Bool):(b==b)=true:=by simp
theorem sameG_fok(g:Gp):Fok Tryz.prog 42 [gpV g,gpV g] (.one (blV true)) :=
 Fok.bb (sp_self g.b).symm (fok KSm [true,true,true,true,true,true] [pT (b_self g.m),pT (eq_tt (rfl:g.d.add=g.d.add)),pT (eq_tt (rfl:g.d.s=g.d.s)),pT (sameB_self g.d.n),pT (sameB_self g.d.d),pT (sp_self g.a)] (by kernel_rfl))
def toGp(l:List It):Option Gp :=
 match l with
 | [.v (.bool m),.i a _,.i s _,.d (.num n),.d (.num d),.i x0 _,.i x1 _,.i x2 _,.i x3 _,.i x4 _,.i x5 _,.i x6 _,.i y0 _,.i y1 _,.i y2 _,.i y3 _,.i y4 _,.i y5 _,.i y6 _]=>some ⟨m,⟨a,s,n,d⟩,⟨x0,x1,x2,x3,x4,x5,x6⟩,⟨y0,y1,y2,y3,y4,y5,y6⟩⟩
 | _=>none
theorem toGp_rep{V W:World}{r:Nat->Nat}{k:Nat}{l:List It}{g:Gp}(h:toGp l=some g):∀v,RepV V W r k ⟨true,l⟩ v->RepV V W r k (gpV g) v:=by
 unfold toGp at h
 split at h<;>cases h
 intro v hv
 obtain⟨cs,⟨_,_,rfl,h0,_,_,rfl,h1,_,_,rfl,h2,_,_,rfl,h3,_,_,rfl,h4,_,_,rfl,a0,_,_,rfl,a1,_,_,rfl,a2,_,_,rfl,a3,_,_,rfl,a4,_,_,rfl,a5,_,_,rfl,a6,_,_,rfl,b0,_,_,rfl,b1,_,_,rfl,b2,_,_,rfl,b3,_,_,rfl,b4,_,_,rfl,b5,_,_,rfl,b6,h5⟩,e1,e2⟩:=hv
 have L:∀ {z:Int} {B:Nat} {c:List Value},RepI V W r k (.i z B) c->RepI V W r k (.i z lim) c:=fun h=>⟨h.1,i64_lim h.2.2,h.2.2⟩
 exact⟨_,⟨_,_,rfl,h0,_,_,rfl,L h1,_,_,rfl,L h2,_,_,rfl,h3,_,_,rfl,h4,_,_,rfl,L a0,_,_,rfl,L a1,_,_,rfl,L a2,_,_,rfl,L a3,_,_,rfl,L a4,_,_,rfl,L a5,_,_,rfl,L a6,_,_,rfl,L b0,_,_,rfl,L b1,_,_,rfl,L b2,_,_,rfl,L b3,_,_,rfl,L b4,_,_,rfl,L b5,_,_,rfl,L b6,h5⟩,e1,e2⟩
def d10Same:Con where
 f:=42
 g:=fun | [⟨true,l⟩,⟨true,m⟩]=>(match toGp l,toGp m with|some x,some y=>some (.one (blV true),[x=y])|_,_=>none)|_=>none
 ok:=by
  intro args res ps h hp
  split at h<;>try cases h
  split at h<;>cases h
  rename_i l m x y hx hy
  obtain rfl:x=y:=hp.1
  exact (sameG_fok x).pre fun W=>rvs_1 (toGp_rep hx) (rvs_1 (toGp_rep hy) rvs_0)
def KLs:List Con:=[cGapF,d10Of,cBord,d10Bord,d10Same,cTouch,d10Touch,cLeastG,d10Least,cHolds,d10Holds]
def pE4(a b:Sh):List Pf:=[pEd a,pEd b,pEd a,pEd b]
theorem same_fok(a b:Sh)(z:Int):Fok Tryz.prog 13 [shpV a,shpV b,inV z lim] (.one (blV true)) :=
 Fok.bb (b_self (holdsQ a b z)).symm (fok KLs [true,true,true,true,true,true] (pE4 a b++pE4 a b++[pT (b_self (ofQ a b).2),pT (b_self (borderQ a b).2),⟨(ofQ a b).1=(ofQ a b).1,rfl⟩,pT (rfl:true=true),⟨(borderQ a b).1=(borderQ a b).1,rfl⟩,pT (rfl:true=true)]++pE4 a b++[pT (b_self (touchQ a b))]++pE4 a b++[pT (b_self (leastB a b z))]++pE4 a b) (by kernel_rfl))
def cSame:Con:=sh3F 13 (fun _ _ _=>.one (blV true)) same_fok
end

set_option maxHeartbeats 2000000
set_option maxRecDepth 100000
section
attribute [local go_sem] Gives givesU
def DrawH(w:World)(B:Nat)(v:Value)(d:List Value)(T:TypeId)(k:Nat):Prop:=w.heap[B]? = some (.cells (v::.int .i64 (k:Nat)::d).toArray T)
theorem DrawH.at{w:World}{B len cp k:Nat}{a:Option Addr}{d:List Value}{T:TypeId}(h:DrawH w B (.slice a len cp) d T k):DrawAt w B a len cp k:=by
 unfold DrawH at h
 refine⟨(Array.getElem?_eq_some_iff.1 h).1,?_,?_,fun o=>by simp[World.frozen?,h]⟩
 ·rw[cell_of_row _ _ _ _ _ _ h];simp
 ·rw[cell_of_row _ _ _ _ _ _ h];simp
theorem DrawH.ext{w w':World}{B k:Nat}{v:Value}{d:List Value}{T:TypeId}(h:DrawH w B v d T k)(hx:Ext w w'):DrawH w' B v d T k:=heap_ext h hx
theorem DrawH.set{w:World}{B k:Nat}{v:Value}{d:List Value}{T:TypeId}(h:DrawH w B v d T k)(j:Nat):DrawH (w.setCell ⟨B,1,none⟩ (.int .i64 (j:Nat))) B v d T j:=by
 unfold DrawH at *
 have hB:=(Array.getElem?_eq_some_iff.1 h).1
 have e:=(Array.getElem?_eq_some_iff.1 h).2
 rw[Array.getElem?_eq_some_iff]
 refine⟨by simpa[World.setCell] using hB,?_⟩
 simp only[World.setCell,Array.getElem_modify,if_true,e]
 simp
theorem r01_NextH(L:List Int)(B:Nat)(a:Option Addr)(len cp k:Nat)(n:Int)(d:List Value)(T:TypeId)(w:World)(hH:DrawH w B (.slice a len cp) d T k)(hL:Ints w a len L)(hne:0<len->∀x,a=some x->x.block≠B)(hn:0<n/\n<=4294967296)(hk:k<=len) :
  Calls Tryz.prog 34 #[.pointer (some ⟨B,0,none⟩),.int .i64 n] w fun e w'=>e=.returned (.int .i64 (nextV L k n))/\DrawH w' B (.slice a len cp) d T (nextK L k)/\Past B w w':=by
 have hd:=hH.at
 obtain⟨hB,c0,c1,hf⟩:=hd
 obtain⟨hl,hm,hrow⟩:=hL
 by_cases hlt:k<len
 ·have e1 : nextV L k n = modZ (L[k]?.getD 0) n := by unfold nextV; rw [if_pos (by omega)]
  have e2:nextK L k=k+1:=by unfold nextK;rw[if_pos (by omega)]
  rw[e1,e2]
  obtain⟨b,o,rfl,hb,hc⟩:=hrow (by omega)
  have hck:=hc k hlt
  have hbB:b≠B:=hne (by omega) _ rfl
  obtain⟨x,X⟩:∃x,L[k]?.getD 0=x:=⟨_,rfl⟩
  rw[X] at hck ⊢
  have MC:=Lib.hid (fun w=>r01_Mod x n w hn)
  replace hH:=Lib.hid hH
  clear e1 e2 hc hrow hl hne X hn
  have w1:IntKind.i64.wrap ((k:Int)+1)=((k+1:Nat):Int):=by rw[wrap_in];rfl;unfold I64;omega
  have w2:IntKind.i64.wrap (((k+1:Nat):Int)-1)=(k:Int):=by rw[wrap_in];omega;unfold I64;omega
  have g1:decide ((len:Int)<=(k:Int))=false:=by rw[decide_eq_false_iff_not];omega
  have i0:(0:Int)<=(k:Int):=by omega
  have i1:(k:Int)<(len:Int):=by omega
  go_enter Tryz.func34,Tryz.ntmps34
  have w3:IntKind.i64.wrap (k:Int)=(k:Int):=by rw[wrap_in];unfold I64;omega
  have ts:(k:Int).toNat=k:=by omega
  go_wp2_with fail
  refine wp_FSc (fun W=>W.cell? ⟨B,0,none⟩=some (.slice (some ⟨b,o,none⟩) len cp)/\W.cell? ⟨B,1,none⟩=some (.int .i64 k)) ?_
  repeat (first|refine F_s ?_|refine F_r ?_)
  rintro W ⟨hx,hc0,hc1⟩
  have hdW:DrawAt W B (some ⟨b,o,none⟩) len cp k:=DrawAt.ext ⟨hB,c0,c1,hf⟩ hx
  have hfW:=hdW.2.2.2
  have hkW:W.cell? ⟨b,o+k,none⟩=some (.int .i64 x):=(hx.cell (p:=⟨b,o+k,none⟩) hb).trans hck
  have hBW:B<W.heap.size:=Nat.lt_of_lt_of_le hB hx.size
  have hbW:b<W.heap.size:=Nat.lt_of_lt_of_le hb hx.size
  have hxs:=hx.size
  clear hdW
  have HD:=Lib.hid (hH.out.ext hx)
  have HX:Hid (Ext w W):=hx
  clear hx
  go_wp2_with fail
  refine wp_FSc (fun W=>W.cell? ⟨B,0,none⟩=some (.slice (some ⟨b,o,none⟩) len cp)/\W.cell? ⟨B,1,none⟩=some (.int .i64 (k+1:Nat))/\W.cell? ⟨b,o+k,none⟩=some (.int .i64 x)) ?_
  repeat (first|refine F_s ?_|refine F_r ?_)
  refine F_c (.int .i64 (modZ x n)) (fun W hW=>MC.out _) ?_
  repeat (first|refine F_s ?_|refine F_r ?_)
  rintro W2 ⟨hx2,hc2⟩
  go_wp2
  go_ret
  exact⟨rfl,(HD.out.set _).ext hx2,((Past.of_ext HX.out).step (Past.set W 1 _)).step (Past.of_ext hx2)⟩
 ·have e1 : nextV L k n = 0 := by unfold nextV; rw [if_neg (by omega)]
  have e2:nextK L k=k:=by unfold nextK;rw[if_neg (by omega)]
  rw[e1,e2]
  have g1:decide ((len:Int)<=(k:Int))=true:=by rw[decide_eq_true_iff];omega
  have hdh:=Lib.hid hH
  clear hH
  clear e1 e2 hl hne hn hrow
  go_enter Tryz.func34,Tryz.ntmps34
  go_wp2_with fail
  refine wp_FSc (fun W=>W.cell? ⟨B,0,none⟩=some (.slice a len cp)/\W.cell? ⟨B,1,none⟩=some (.int .i64 k)) ?_
  repeat (first|refine F_s ?_|refine F_r ?_)
  rintro W ⟨hx,hc0,hc1⟩
  go_wp2
  go_ret
  exact⟨rfl,hdh.out.ext hx,Past.of_ext hx⟩
theorem ints_ne{w:World}{L:List Int}{v:Value}{B:Nat}(h:IntsC w L v)(hne:∀a len c,v=.slice a len c->0<len->∀x,a=some x->x.block≠B):∃a len c,v=.slice a len c/\Ints w a len L/\(0<len->∀x,a=some x->x.block≠B):=by
 obtain⟨a,len,c,e,h1,h2,h3⟩:=h
 exact⟨a,len,c,e,h1,hne a len c e⟩
theorem nextK_le{L:List Int}{k:Nat}(h:k<=L.length):nextK L k<=L.length:=by unfold nextK;split<;>omega
def xNext:Eff where
 f:=34
 g:=fun L k args=>match args with | [⟨false,[.i n _]⟩]=>if 0<n/\n<=4294967296 then some (⟨false,[.i (nextV L k n) n.natAbs]⟩,nextK L k,[]) else none|_=>none
 ok:=by
  intro L k args res k' ps h hp W B v d T vals hg hL hne hk hv
  simp only at h
  split at h<;>(try (cases h;done))
  split at h<;>cases h
  rename_i n A hn
  simp only[rvs_cons,rvs_nil,rv_i] at hv
  obtain⟨_,⟨_,rfl⟩,_,rfl,rfl⟩:=hv
  obtain⟨a,len,c,rfl,h1,h2⟩:=ints_ne hL hne
  refine (r01_NextH L B a len c k n d T W hg h1 h2 hn (by rw[h1.1];exact hk)).mono fun e w' ⟨e1,h3,h4⟩=>⟨_,e1,?_,h3,nextK_le hk,h4⟩
  have:=nextV_bd L k hn.1
  exact rv_i.2 ⟨⟨by omega,by unfold I64;omega⟩,rfl⟩
end
def nK(L:List Int):Nat->Nat
 | 0=>0
 | n+1=>nextK L (nK L n)
def nV(L:List Int)(n:Nat)(m:Int):Int:=nextV L (nK L n) m
theorem nV_bd(L:List Int)(n:Nat){m:Int}(h:0<m):0<=nV L n m/\nV L n m<m:=nextV_bd _ _ h

set_option maxRecDepth 100000
section
def c40:Nat:=1099511627776
abbrev p4:Pf:=⟨(4:Int)≠0,by decide⟩
def moV(ax ay n:Int)(m:Bool)(A:Nat):V1:=⟨true,[.i ax A,.i ay A,.i n A,.v (.bool m)]⟩
def ptL(p:Int×Int):V1:=⟨true,[.i p.1 lim,.i p.2 lim]⟩
def applyQ(ax ay n:Int)(m:Bool)(x y:Int):Int×Int:=applyP ax ay (modZ n 4) m x y
theorem tn0{n x y ax ay:Int}{m:Bool}(h:modZ n 4=0):applyQ ax ay n m x y=((if m then 0-x else x)+ax,y+ay):=by
 unfold applyQ applyP;rw[h];cases m<;>simp[rot,mir]
theorem tn1{n x y ax ay:Int}{m:Bool}(h:modZ n 4=1):applyQ ax ay n m x y=(0-y+ax,(if m then 0-x else x)+ay):=by
 unfold applyQ applyP;rw[h];cases m<;>simp[rot,mir]
theorem tn2{n x y ax ay:Int}{m:Bool}(h:modZ n 4=2):applyQ ax ay n m x y=(0-(if m then 0-x else x)+ax,0-y+ay):=by
 unfold applyQ applyP;rw[h];cases m<;>simp[rot,mir]
theorem tn3{n x y ax ay:Int}{m:Bool}(h:modZ n 4=3):applyQ ax ay n m x y=(y+ax,0-(if m then 0-x else x)+ay):=by
 unfold applyQ applyP;rw[h];cases m<;>simp[rot,mir]
theorem dapply_ok(ax ay n x y:Int)(m:Bool):Fok Tryz.prog 76 [moV ax ay n m c40,ptV x y c40] (.one (ptL (applyQ ax ay n m x y))):=by
 have hb:=modZ_bd n (m:=4) (by omega)
 by_cases h1:modZ n 4=1
 ·rw [tn1 h1]
  cases m with
  | true=>exact fok [] [true,true] [pT rfl,p4,p4,pT (bq_T h1)] (by kernel_rfl)
  | false=>exact fok [] [false,true] [pF rfl,p4,p4,pT (bq_T h1)] (by kernel_rfl)
 by_cases h2:modZ n 4=2
 ·rw [tn2 h2]
  cases m with
  | true=>exact fok [] [true,false,true] [pT rfl,p4,p4,pF (bq_F h1),pT (bq_T h2)] (by kernel_rfl)
  | false=>exact fok [] [false,false,true] [pF rfl,p4,p4,pF (bq_F h1),pT (bq_T h2)] (by kernel_rfl)
 by_cases h3:modZ n 4=3
 ·rw [tn3 h3]
  cases m with
  | true=>exact fok [] [true,false,false,true] [pT rfl,p4,p4,pF (bq_F h1),pF (bq_F h2),pT (bq_T h3)] (by kernel_rfl)
  | false=>exact fok [] [false,false,false,true] [pF rfl,p4,p4,pF (bq_F h1),pF (bq_F h2),pT (bq_T h3)] (by kernel_rfl)
 ·rw [tn0 (by omega)]
  cases m with
  | true=>exact fok [] [true,false,false,false] [pT rfl,p4,p4,pF (bq_F h1),pF (bq_F h2),pF (bq_F h3)] (by kernel_rfl)
  | false=>exact fok [] [false,false,false,false] [pF rfl,p4,p4,pF (bq_F h1),pF (bq_F h2),pF (bq_F h3)] (by kernel_rfl)
theorem rot_bd(t:Nat){x y:Int}{D E:Nat}(h1:x.natAbs<=D)(h2:y.natAbs<=E):(rot t (x,y)).1.natAbs<=D+E/\(rot t (x,y)).2.natAbs<=D+E:=by
 induction t with
 | zero=>exact⟨by simp only[rot];omega,by simp only[rot];omega⟩
 | succ t ih =>
  obtain⟨a,b⟩:=ih
  simp only[rot]
  omega
theorem applyQ_bd{ax ay n x y:Int}{m:Bool}{A B D E:Nat}(a1:ax.natAbs<=A)(a2:ay.natAbs<=B)(h1:x.natAbs<=D)(h2:y.natAbs<=E):(applyQ ax ay n m x y).1.natAbs<=A+B+D+E/\(applyQ ax ay n m x y).2.natAbs<=A+B+D+E:=by
 unfold applyQ applyP mir
 cases m
 ·obtain ⟨u1, u2⟩ := rot_bd (modZ n 4).toNat h1 h2
  simp only[Bool.false_eq_true,if_false]
  omega
 ·obtain ⟨u1, u2⟩ := rot_bd (D := D) (modZ n 4).toNat (x := -x) (by omega) h2
  simp only[if_true]
  omega
def appC(f:FuncId)(S:Int->List Prop)(H:∀(ax ay n x y:Int) (m:Bool),All (S n)->Fok Tryz.prog f [moV ax ay n m c40,ptV x y c40] (.one (ptL (applyQ ax ay n m x y)))):Con where
 f:=f
 g:=fun | [⟨true,[.i ax A,.i ay B,.i n C,.v (.bool m)]⟩,⟨true,[.i x D,.i y E]⟩]=>if (A<=c40/\B<=c40/\C<=c40)/\D<=c40/\E<=c40 then some (.one ⟨true,[.i (applyQ ax ay n m x y).1 (A+B+D+E),.i (applyQ ax ay n m x y).2 (A+B+D+E)]⟩,S n) else none|_=>none
 ok:=by
  intro args res ps h hp
  split at h<;>try cases h
  split at h<;>cases h
  rename_i ax A ay B n C m x D y E hb
  intro W vals hv
  have hv2:=hv
  simp only[rvs_cons,rvs_nil,rv_t,rl_i,rl_v,rl_nil] at hv2
  obtain⟨_,⟨_,⟨⟨a1,i1⟩,_,rfl,⟨a2,i2⟩,_,rfl,⟨a3,i3⟩,_,rfl,_,_,rfl,rfl⟩,rfl⟩,_,rfl,_,⟨_,⟨⟨a4,i4⟩,_,rfl,⟨a5,i5⟩,_,rfl,rfl⟩,rfl⟩,_,rfl,rfl⟩:=hv2
  have hb2:=hb
  unfold c40 at hb2
  obtain⟨q1,q2⟩:=applyQ_bd (n:=n) (m:=m) a1 a2 a4 a5
  refine (H ax ay n x y m hp W _ (rvs_cons.2 ⟨_,rv_t.2 ⟨_,rl_i.2 ⟨⟨by omega,i1⟩,_,rfl,rl_i.2 ⟨⟨by omega,i2⟩,_,rfl,rl_i.2 ⟨⟨by omega,i3⟩,_,rfl,rl_v.2 ⟨rfl,_,rfl,rfl⟩⟩⟩⟩,rfl⟩,_,rfl,rvs_cons.2 ⟨_,rv_t.2 ⟨_,rl_i.2 ⟨⟨by omega,i4⟩,_,rfl,rl_i.2 ⟨⟨by omega,i5⟩,_,rfl,rfl⟩⟩,rfl⟩,_,rfl,rfl⟩⟩)).mono fun e w' ⟨v,e1,h1,h2⟩=>⟨v,e1,?_,h2⟩
  simp only[RepA,ptL,rv_t,rl_i,rl_nil] at h1 ⊢
  obtain⟨cs,⟨⟨_,g1⟩,_,rfl,⟨_,g2⟩,_,rfl,rfl⟩,e2⟩:=h1
  exact⟨_,⟨⟨q1,g1⟩,_,rfl,⟨q2,g2⟩,_,rfl,rfl⟩,e2⟩
def dApply:Con:=appC 76 (fun _=>[]) fun ax ay n x y m _=>dapply_ok ax ay n x y m
end
def lnEd(ax ay bx by':Int):Ed:=⟨1,ax,ay,bx,by',0,0⟩
def rowE(l:List Ed)(i:Nat):Ed:=(l[i]?).getD ⟨0,0,0,0,0,0,0⟩
def shL'(k:Int)(l:List Ed)(r:Int):Sh:=⟨k,l.length,rowE l,r⟩
def rectS(x0 y0 x1 y1:Int):Sh:=shL' 2 [lnEd x0 y0 x1 y0,lnEd x1 y0 x1 y1,lnEd x1 y1 x0 y1,lnEd x0 y1 x0 y0] 0
def discS(x y r:Int):Sh:=shL' 1 [lnEd x y x y] r
def quartE(px py r t:Int)(right:Bool):Ed :=
 let c:=applyQ 0 0 t false r 0
 let v:=applyQ 0 0 (if right then 3 else 1) false (px-(px+c.1)) (py-(py+c.2))
 ⟨if right then 3 else 2,px,py,px+c.1+v.1,py+c.2+v.2,px+c.1,py+c.2⟩
def roundS(px py r w h:Int):Sh :=
 shL' 2 [lnEd (px+r) py (px+r+w) py,⟨2,px+r+w,py,px+r+w+r,py+r,px+r+w,py+r⟩,
  lnEd (px+r+w+r) (py+r) (px+r+w+r) (py+r+h),⟨2,px+r+w+r,py+r+h,px+r+w,py+r+h+r,px+r+w,py+r+h⟩,
  lnEd (px+r+w) (py+r+h+r) (px+r) (py+r+h+r),⟨2,px+r,py+r+h+r,px,py+r+h,px+r,py+r+h⟩,
  lnEd px (py+r+h) px (py+r),⟨2,px,py+r,px+r,py,px+r,py+r⟩] 0
def pathB(L:List Int)(a:Nat):Bool:=decide (nV L (a+2) 2=1)
def pathE(L:List Int)(a:Nat)(px py:Int):Ed :=
 if pathB L a then quartE px py (1+nV L (a+3) 9) (nV L (a+4) 4) (decide (nV L (a+5) 2=1))
 else lnEd px py (max 0 (px+nV L a 21-10)) (max 0 (py+nV L (a+1) 21-10))
def pathN(L:List Int)(a:Nat):Nat:=if pathB L a then a+6 else a+3
def pathL(L:List Int):Nat->Nat->Int->Int->List Ed
 | 0,_,_,_=>[]
 | n+1,a,px,py=>pathE L a px py::pathL L n (pathN L a) (pathE L a px py).bx (pathE L a px py).by'
def madeS(L:List Int):Sh :=
 let x:=nV L 0 50
 let y:=nV L 1 50
 if nV L 2 6=0 then rectS x y (x+1+nV L 3 20) (y+1+nV L 4 20)
 else if nV L 2 6=1 then roundS x y (1+nV L 3 6) (1+nV L 4 9) (1+nV L 5 9)
 else if nV L 2 6=2 then shL' 2 [lnEd x y (x+1+nV L 3 20) (y+nV L 4 9),lnEd (x+1+nV L 3 20) (y+nV L 4 9) (x+nV L 5 9) (y+10+nV L 6 20),lnEd (x+nV L 5 9) (y+10+nV L 6 20) x y] 0
 else if nV L 2 6=3 then discS x y (nV L 3 9)
 else shL' 1 (pathL L (1+nV L 4 3).toNat 5 x y) (nV L 3 6)

set_option maxRecDepth 100000
section
def edsOf(m:List It)(n:Nat):List Ed:=(List.range n).map fun i=>edAt ((m.drop (i*7)).take 7)
def shOf(z:AV×List Mb):Option (Int×List Ed×Int) :=
 match z.1 with
 | .one ⟨true,[i,.sl b n c,k]⟩=>(match asI i,argI (z.2.map some) (.sl b n c),asI k with
  | some x,some (.fs _ m n c),some y=>if c=7/\(m.all fun i=>i.n==1)=true/\((List.range n).all fun i=>isEd ((m.drop (i*7)).take 7))=true then some (x.1,edsOf m n,y.1) else none
  | _,_,_=>none)
 | _=>none
theorem rowC_congr{R:List It->List Value->Prop}{V:World}{z n:Nat}{f g:Nat->List It}{v:Value}(h:∀i,i<n->f i=g i):RowC R V z n f v->RowC R V z n g v
 | ⟨a,c,e,h1,h2,h3⟩=>⟨a,c,e,h1,h2,fun i hi=>by rw[<- h i hi];exact h3 i hi⟩
theorem rowE_eds(m:List It)(n i:Nat)(h:i<n):rowE (edsOf m n) i=edAt ((m.drop (i*7)).take 7):=by
 unfold rowE edsOf
 simp[h]
theorem shOf_rep{V W:World}{r:Nat->Nat}{cm:Nat->List Value}{z:AV×List Mb}{x:Int×List Ed×Int}{v:Value}(h:shOf z=some x)(hM:RM V r cm (z.2.map some) W)(hv:RepA W W r z.2.length z.1 v):RepV W W (fun _=>0) 0 (shpV (shL' x.1 x.2.1 x.2.2)) v:=by
 obtain⟨z1,ms⟩:=z
 unfold shOf at h
 split at h
 ·rename_i i b n c k hz
  subst hz
  split at h
  ·rename_i x o m n' c' y hx ha hy
   split at h
   ·rename_i hc
    obtain⟨rfl,c1,c2⟩:=hc
    cases h
    obtain⟨cs,⟨a0,_,rfl,q0,a1,_,rfl,q1,a2,_,rfl,q2,rfl⟩,h2,h3⟩:=hv
    have k1:=argI_rep hM ha (show RepI V W r (ms.map some).length (.sl b n c) a1 by rw[List.length_map];exact q1)
    have k0:=asI_lim hx q0
    have k2:=asI_lim hy q2
    obtain⟨rfl,p0⟩:=k0
    obtain⟨rfl,p2⟩:=k2
    have ht:toRo (.fs o m n' 7)=some (n',fun i=>(m.drop (i*7)).take 7):=by
     unfold toRo
     simp only[c1,and_self,if_true]
    obtain⟨v',rfl,hro⟩:=toRo_rep ht (fun i hi=>by rw[List.all_eq_true] at c2;exact c2 i (List.mem_range.2 hi)) k1
    refine⟨_,⟨[_],_,rfl,⟨rfl,p0⟩,[_],_,rfl,⟨_,rfl,?_⟩,[_],[],rfl,⟨rfl,p2⟩,rfl⟩,h2,nofun⟩
    have hl:(edsOf m n').length=n':=by unfold edsOf;simp
    show RowC (RepF W) W 7 (edsOf m n').length _ _
    rw[hl]
    exact rowC_congr (fun i hi=>congrArg edI (rowE_eds m n' i hi).symm) hro
   ·cases h
  ·cases h
 ·cases h
theorem fokS{f:FuncId}{args:List V1}{k:Int}{l:List Ed}{r:Int}(X:List Eff)(K:List Con)(q:List Bool)(pf:List Pf)(h:((aFun Tryz.prog (env X) (tab K) 40 f args q).bind fun z=>(shOf z.1).map fun y=>(y,z.2))=some ((k,l,r),pf.map Pf.p,[])):Fok Tryz.prog f args (.one (shpV (shL' k l r))):=by
 cases hz:aFun Tryz.prog (env X) (tab K) 40 f args q with
 | none=>rw[hz] at h;cases h
 | some z =>
  obtain⟨z0,z2,z3⟩:=z
  rw[hz] at h
  cases hs:shOf z0 with
  | none=>simp[hs] at h
  | some y =>
   simp only[Option.bind_some,hs,Option.map_some,Option.some.injEq,Prod.mk.injEq] at h
   obtain⟨rfl,rfl,rfl⟩:=h
   have hB:=(aFun_ok prog_nm EQ_ok (env_ok X) MT_ok WR_ok (tab_ok K) 40).ok f args q _ _ [] hz (all_pf pf)
   intro W vals hv
   refine (hB W vals hv).mono ?_
   rintro e w' ⟨v,r,cm,rfl,hM,hr⟩
   refine⟨v,rfl,?_,hM.ext⟩
   exact shOf_rep hs hM hr
def qV(e:Ed)(A B:Nat):V1:=⟨true,[.i e.k 3,.i e.ax A,.i e.ay B,.i e.bx (A+64),.i e.by' (B+64),.i e.cx (A+64),.i e.cy (B+64)]⟩
theorem quart_fok(px py r t:Int)(g:Bool):Fok Tryz.prog 39 [ptV px py 1000,inV r 16,inV t 16,blV g] (.one (edV (quartE px py r t g) lim lim)):=by
 unfold quartE
 cases g with
 | true=>exact fok [dApply] [true] [pT rfl] (by kernel_rfl)
 | false=>exact fok [dApply] [false] [pF rfl] (by kernel_rfl)
theorem quart_bd{px py r t:Int}{g:Bool}{A B:Nat}(h1:px.natAbs<=A)(h2:py.natAbs<=B)(h3:r.natAbs<=16):((quartE px py r t g).k.natAbs<=3/\(quartE px py r t g).ax.natAbs<=A/\(quartE px py r t g).ay.natAbs<=B)/\((quartE px py r t g).bx.natAbs<=A+64/\(quartE px py r t g).by'.natAbs<=B+64)/\(quartE px py r t g).cx.natAbs<=A+64/\(quartE px py r t g).cy.natAbs<=B+64:=by
 obtain⟨u1,u2⟩:=applyQ_bd (ax:=0) (ay:=0) (n:=t) (x:=r) (y:=0) (m:=false) (A:=0) (B:=0) (D:=16) (E:=0) (by decide) (by decide) h3 (by decide)
 unfold quartE
 simp only
 generalize applyQ 0 0 t false r 0=c at *
 obtain⟨v1,v2⟩:=applyQ_bd (ax:=0) (ay:=0) (n:=if g then 3 else 1) (x:=px-(px+c.1)) (y:=py-(py+c.2)) (m:=false) (A:=0) (B:=0) (D:=16) (E:=16) (by decide) (by decide) (by omega) (by omega)
 generalize applyQ 0 0 (if g then 3 else 1) false (px-(px+c.1)) (py-(py+c.2))=v at *
 refine⟨⟨by split<;>decide,h1,h2⟩,⟨by omega,by omega⟩,by omega,by omega⟩
def dQuart:Con where
 f:=39
 g:=fun | [⟨true,[.i px A,.i py B]⟩,⟨false,[.i r C]⟩,⟨false,[.i t D]⟩,⟨false,[.v (.bool g)]⟩]=>if (A<=1000/\B<=1000)/\C<=16/\D<=16 then some (.one (qV (quartE px py r t g) A B),[]) else none|_=>none
 ok:=by
  intro args res ps h hp
  split at h<;>try cases h
  split at h<;>cases h
  rename_i px A py B r C t D g hb
  intro W vals hv
  have hv2:=hv
  simp only[rvs_cons,rvs_nil,rv_t,rv_i,rv_v,rl_i,rl_nil] at hv2
  obtain⟨_,⟨_,⟨⟨a1,i1⟩,_,rfl,⟨a2,i2⟩,_,rfl,rfl⟩,rfl⟩,_,rfl,_,⟨⟨a3,i3⟩,rfl⟩,_,rfl,_,⟨⟨a4,i4⟩,rfl⟩,_,rfl,_,⟨ok,rfl⟩,_,rfl,rfl⟩:=hv2
  obtain⟨⟨q1,q2,q3⟩,⟨q4,q5⟩,q6,q7⟩:=quart_bd (t:=t) (g:=g) a1 a2 (show r.natAbs<=16 by omega)
  refine (quart_fok px py r t g W _ (rvs_cons.2 ⟨_,rv_t.2 ⟨_,rl_i.2 ⟨⟨by omega,i1⟩,_,rfl,rl_i.2 ⟨⟨by omega,i2⟩,_,rfl,rfl⟩⟩,rfl⟩,_,rfl,rvs_cons.2 ⟨_,rv_i.2 ⟨⟨by omega,i3⟩,rfl⟩,_,rfl,rvs_cons.2 ⟨_,rv_i.2 ⟨⟨by omega,i4⟩,rfl⟩,_,rfl,rvs_cons.2 ⟨_,rv_v.2 ⟨ok,rfl⟩,_,rfl,rfl⟩⟩⟩⟩)).mono fun e w' ⟨v,e1,h1,h2⟩=>⟨v,e1,?_,h2⟩
  simp only[RepA,edV,qV,rv_t,rl_i,rl_nil] at h1 ⊢
  obtain⟨cs,⟨⟨_,g1⟩,_,rfl,⟨_,g2⟩,_,rfl,⟨_,g3⟩,_,rfl,⟨_,g4⟩,_,rfl,⟨_,g5⟩,_,rfl,⟨_,g6⟩,_,rfl,⟨_,g7⟩,_,rfl,rfl⟩,e2⟩:=h1
  exact⟨_,⟨⟨q1,g1⟩,_,rfl,⟨q2,g2⟩,_,rfl,⟨q3,g3⟩,_,rfl,⟨q4,g4⟩,_,rfl,⟨q5,g5⟩,_,rfl,⟨q6,g6⟩,_,rfl,⟨q7,g7⟩,_,rfl,rfl⟩,e2⟩
end
end Go.Proofs.YtceemiodpccbhaaGreat
