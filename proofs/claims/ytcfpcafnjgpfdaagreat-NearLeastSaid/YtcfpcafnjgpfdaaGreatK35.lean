import Derived.Test.YtcfpcafnjgpfdaaGreatK34
set_option linter.unusedVariables false
set_option linter.unusedSimpArgs false

namespace Go.Proofs.YtcfpcafnjgpfdaaGreat
open Go.RowKit

set_option maxRecDepth 100000
section
noncomputable abbrev fNl:FuncId:=3
def ptF(L:List (Int×Int))(i:Nat):List It:=ptW (L.getD i (0,0)).1 (L.getD i (0,0)).2
def ptsV(n:Nat)(L:List (Int×Int)):V1:=⟨false,[.ro 2 n (ptF L)]⟩
theorem pv_drop:∀(L:List (Int×Int)) (i:Nat),i<L.length->(pvL L).drop (i*2)=.int .i64 (L.getD i (0,0)).1::.int .i64 (L.getD i (0,0)).2::pvL (L.drop (i+1))
 | [],_,h=>by cases h
 | p::L,0,_=>by simp[pvL]
 | p::L,i+1,h=>by
  have:=pv_drop L i (by simpa using h)
  rw[show (i+1)*2=i*2+1+1 by omega]
  simpa[pvL] using this
theorem i64_c26{z:Int}(h:z.natAbs<=c26):I64 z:=by
 have:c26=67108864:=rfl
 unfold I64;omega
theorem own_ro{W:World}{B n c:Nat}{p:Option Addr}{L:List (Int×Int)}(h:OwnP W B p n c L)(hb:∀q∈L,q.1.natAbs<=c26/\q.2.natAbs<=c26):RepV W W (fun _=>0) 0 (ptsV n L) (.slice p n c):=by
 obtain⟨hn,hl,h⟩:=h
 refine RepI.val (i:=.ro 2 n (ptF L)) ⟨_,rfl,?_⟩
 rcases h with⟨hz,h0⟩|⟨g,cap,cur,hv,hB,hg,h1,h2,h3,h4⟩
 ·cases hz
  exact⟨none,0,rfl,Nat.le_refl _,by unfold maxLen;omega,fun i hi=>by omega⟩
 ·cases hv
  refine⟨_,_,rfl,h1,h2,fun i hi=>⟨g,0,cur,(25,(0,0)),rfl,hg,by rw[h3];omega,?_⟩⟩
  have hi':i<L.length:=by omega
  have e:cur.toList=pvL L++cur.toList.drop (n*2):=by rw[<- h4];exact (List.take_append_drop ..).symm
  have hp:(pvL L).length=n*2:=hl
  have hq:=hb _ (List.getElem_mem hi')
  have eq:L.getD i (0,0)=L[i]:=by simp[List.getD,hi']
  rw[<- eq] at hq
  refine⟨[.int .i64 (L.getD i (0,0)).1,.int .i64 (L.getD i (0,0)).2],pvL (L.drop (i+1))++cur.toList.drop (n*2),?_,?_⟩
  ·rw [Nat.zero_add]
   conv=>lhs;rw[e]
   rw[List.drop_append_of_le_length (by omega),pv_drop L i hi']
   rfl
  ·exact⟨[_],[_],rfl,⟨rfl,hq.1,i64_c26 hq.1⟩,[_],[],rfl,⟨rfl,hq.2,i64_c26 hq.2⟩,rfl⟩
theorem on_co{e:Ed}{x y:Int}(h:onE e x y=true):x.natAbs<=c26/\y.natAbs<=c26:=by
 have ho:e.ok=true:=by
  cases hh:e.ok with
  | true=>rfl
  | false=>rw[onE_bad hh] at h;cases h
 obtain⟨⟨h1,h2⟩,⟨h3,h4⟩,_⟩:=ok_right ho
 unfold onE at h
 simp only[Bool.and_eq_true] at h
 obtain⟨a,b⟩:=in_co h1 h2 h3 h4 h.2.1
 have:c26=67108864:=rfl
 unfold Co at a b
 omega
theorem nl_r6(e:Ed)(he:e.ok=true)(hs:Sml e)(a:Act)(W:World)(b:Nat)(Q:Exit->Act->World->Prop)(hsz:a.tmps.size=93)(h8:a.tmps.getD 8 undef=ptrW b)(f8:FqAt W b (eW e))
  (hQ:∀a' W' p n c L,a'.tmps.size=93->a'.defers=a.defers->(∀t,t≠35->t≠36->t≠13->a'.tmps.getD t undef=a.tmps.getD t undef)->Ext W W'->a'.tmps.getD 13 undef=.slice p n c->RepV W' W' (fun _=>0) 0 (ptsV n L) (.slice p n c)->n=L.length->n<=97->(∀q∈L,onE e q.1 q.2=true)->Q .normal a' W') :
  (Code.region 6 (opR fNl 6).toArray false).wp Tryz.prog Q a W:=by
 refine regS_wp ?_
 have es:opR fNl 6=[opO fNl 6 0]++[opO fNl 6 1,opO fNl 6 2]:=by kernel_rfl
 have q1:(opO fNl 6 1).dst=some 36:=by kernel_rfl
 have q2:(opO fNl 6 2).dst=some 13:=by kernel_rfl
 have go:WpS Tryz.prog (opR fNl 6).toArray (fun a w=>Q .normal a w) ([opO fNl 6 0]++[opO fNl 6 1,opO fNl 6 2]) a W:=by
  refine wpS_app ?_
  refine runS_ok (X:=[]) (K:=[]) (n:=93) (d:=⟨[(8,.eq (fpW (eW e)))],[]⟩) (d':=⟨[(35,.eq (edV e 3 c26))],[]⟩) (q:=[]) [⟨edV e 3 c26=edV e 3 c26,rfl⟩] (by kernel_rfl) (old_J hsz fun z hz=>?_) fun a1 W1 hJ1 ho1=>?_
  ·rw[List.mem_singleton.1 hz];show RepV _ _ _ _ (fpW (eW e)) (a.tmps.getD 8 undef);rw[h8];exact f8.rv
  obtain⟨k1,k2,r,k3,k4⟩:=blkW hJ1
  have hv:RepV W1 W1 (fun _=>0) 0 (edV e 3 c26) (a1.tmps.getD 35 undef):=by
   have:=k3 35 (edV e 3 c26) (by kernel_rfl)
   unfold edV at this ⊢
   simp only[rv_t,rl_i,rl_nil] at this ⊢
   exact this
  refine wpS_call (f:=fOn) (args:=#[a1.tmps.getD 35 undef]) (by kernel_rfl) ?_ (on_calls e he hs W1 _ hv) (fun x W2 ⟨p,n,c,L,hx,_⟩=>⟨_,hx⟩) ?_
  ·have := run_enter (P := Tryz.prog) (o := opO fNl 6 1) (a := dfA a.defers a1) (f := fOn) (x := .func fOn) (caps := #[]) (cl := { callee := .value (.func fOn), args := #[.tmp 35], argTypes := #[27] }) prog_nm Tryz.func8 rfl (by kernel_rfl) rfl rfl W1
   rw[this]
   simp only[List.map_toArray,List.map_cons,List.map_nil,Array.append_empty]
   rfl
  ·rintro v W2 ⟨p, n, c, L, hx, hO, hn, hL, hx2⟩
   obtain rfl:v=.slice p n c:=by injection hx
   rw[q1]
   refine wpS_val (x:=.slice p n c) (W:=W2) (by kernel_rfl) ?_ ?_
   ·have e2 : (opO fNl 6 2).op = .assign (.tmp 36) := by kernel_rfl
    unfold execOp
    simp only[e2]
    have e55:∀D v,((dfA D a1).put (some 36) v).eval (.tmp 36)=v:=fun D v=>by simp[Act.eval,Act.put,dfA,k2]
    rw[e55]
    rfl
   rw[q2]
   refine hQ _ W2 p n c L (by simp[Act.put,dfA,k2]) rfl (fun t t1 t2 t3=>?_) (Ext.step k1 hx2) (by simp[Act.put,dfA,k2]) (own_ro hO fun q hq=>on_co (hL q hq)) hO.1 hn hL
   have:=ho1 t (by
    have q0:(opO fNl 6 0).dst=some 35:=by kernel_rfl
    unfold offT
    simp[q0,Ne.symm t1])
   simp[Act.put,dfA,Array.getElem?_setIfInBounds,Ne.symm t2,Ne.symm t3] at this ⊢
   exact this
 rw[show WpS Tryz.prog (opR fNl 6).toArray (fun a w=>Q .normal a w) (opR fNl 6) a W=WpS Tryz.prog (opR fNl 6).toArray (fun a w=>Q .normal a w) ([opO fNl 6 0]++[opO fNl 6 1,opO fNl 6 2]) a W by rw[<- es]]
 exact go
theorem nl_r7(e:Ed)(he:e.ok=true)(hs:Sml e)(a:Act)(W:World)(b:Nat)(Q:Exit->Act->World->Prop)(hsz:a.tmps.size=93)(h8:a.tmps.getD 9 undef=ptrW b)(f8:FqAt W b (eW e))
  (hQ:∀a' W' p n c L,a'.tmps.size=93->a'.defers=a.defers->(∀t,t≠37->t≠38->t≠14->a'.tmps.getD t undef=a.tmps.getD t undef)->Ext W W'->a'.tmps.getD 14 undef=.slice p n c->RepV W' W' (fun _=>0) 0 (ptsV n L) (.slice p n c)->n=L.length->n<=97->(∀q∈L,onE e q.1 q.2=true)->Q .normal a' W') :
  (Code.region 7 (opR fNl 7).toArray false).wp Tryz.prog Q a W:=by
 refine regS_wp ?_
 have es:opR fNl 7=[opO fNl 7 0]++[opO fNl 7 1,opO fNl 7 2]:=by kernel_rfl
 have q1:(opO fNl 7 1).dst=some 38:=by kernel_rfl
 have q2:(opO fNl 7 2).dst=some 14:=by kernel_rfl
 have go:WpS Tryz.prog (opR fNl 7).toArray (fun a w=>Q .normal a w) ([opO fNl 7 0]++[opO fNl 7 1,opO fNl 7 2]) a W:=by
  refine wpS_app ?_
  refine runS_ok (X:=[]) (K:=[]) (n:=93) (d:=⟨[(9,.eq (fpW (eW e)))],[]⟩) (d':=⟨[(37,.eq (edV e 3 c26))],[]⟩) (q:=[]) [⟨edV e 3 c26=edV e 3 c26,rfl⟩] (by kernel_rfl) (old_J hsz fun z hz=>?_) fun a1 W1 hJ1 ho1=>?_
  ·rw[List.mem_singleton.1 hz];show RepV _ _ _ _ (fpW (eW e)) (a.tmps.getD 9 undef);rw[h8];exact f8.rv
  obtain⟨k1,k2,r,k3,k4⟩:=blkW hJ1
  have hv:RepV W1 W1 (fun _=>0) 0 (edV e 3 c26) (a1.tmps.getD 37 undef):=by
   have:=k3 37 (edV e 3 c26) (by kernel_rfl)
   unfold edV at this ⊢
   simp only[rv_t,rl_i,rl_nil] at this ⊢
   exact this
  refine wpS_call (f:=fOn) (args:=#[a1.tmps.getD 37 undef]) (by kernel_rfl) ?_ (on_calls e he hs W1 _ hv) (fun x W2 ⟨p,n,c,L,hx,_⟩=>⟨_,hx⟩) ?_
  ·have := run_enter (P := Tryz.prog) (o := opO fNl 7 1) (a := dfA a.defers a1) (f := fOn) (x := .func fOn) (caps := #[]) (cl := { callee := .value (.func fOn), args := #[.tmp 37], argTypes := #[27] }) prog_nm Tryz.func8 rfl (by kernel_rfl) rfl rfl W1
   rw[this]
   simp only[List.map_toArray,List.map_cons,List.map_nil,Array.append_empty]
   rfl
  ·rintro v W2 ⟨p, n, c, L, hx, hO, hn, hL, hx2⟩
   obtain rfl:v=.slice p n c:=by injection hx
   rw[q1]
   refine wpS_val (x:=.slice p n c) (W:=W2) (by kernel_rfl) ?_ ?_
   ·have e2 : (opO fNl 7 2).op = .assign (.tmp 38) := by kernel_rfl
    unfold execOp
    simp only[e2]
    have e55:∀D v,((dfA D a1).put (some 38) v).eval (.tmp 38)=v:=fun D v=>by simp[Act.eval,Act.put,dfA,k2]
    rw[e55]
    rfl
   rw[q2]
   refine hQ _ W2 p n c L (by simp[Act.put,dfA,k2]) rfl (fun t t1 t2 t3=>?_) (Ext.step k1 hx2) (by simp[Act.put,dfA,k2]) (own_ro hO fun q hq=>on_co (hL q hq)) hO.1 hn hL
   have:=ho1 t (by
    have q0:(opO fNl 7 0).dst=some 37:=by kernel_rfl
    unfold offT
    simp[q0,Ne.symm t1])
   simp[Act.put,dfA,Array.getElem?_setIfInBounds,Ne.symm t2,Ne.symm t3] at this ⊢
   exact this
 rw[show WpS Tryz.prog (opR fNl 7).toArray (fun a w=>Q .normal a w) (opR fNl 7) a W=WpS Tryz.prog (opR fNl 7).toArray (fun a w=>Q .normal a w) ([opO fNl 7 0]++[opO fNl 7 1,opO fNl 7 2]) a W by rw[<- es]]
 exact go
end
theorem loops_rest:∀(n:Nat) {c d:Code},d∈loopsOf (restS n c)->d∈loopsOf c
 | 0,_,_,h=>h
 | n+1,c,d,h=>by
  cases c with
  | seq a b=>exact List.mem_append_right _ (loops_rest n h)
  | _=>cases h
noncomputable def tailG(X:List Eff)(K:List Con)(L:List (Nat×Orc))(f:FuncId)(m n:Nat)(d:Ds)(q:List Bool):Option (AV×List Prop) :=
 match Tryz.prog.funcs[f]? with
 | none=>none
 | some fn=>if lpsOk f L then (match aCodeL Tryz.prog (env X) (callK X K) L (restS n (bodyF Tryz.prog f)) (mkS m d) q with
  | some (e,s,ps,[])=>(match e with
   | .ex _=>none
   | _=>match aRess Tryz.prog s fn.results.toList with
    | some l=>(match outVs (blI (l.map V1.l).flatten) l,outB s.m (blI (l.map V1.l).flatten) with
     | some l',some []=>some (oneA l',ps)
     | _,_=>none)
    | none=>none)
  | _=>none) else none
theorem tailG_wp{X:List Eff}{K:List Con}{L:List (Nat×Orc)}{f:FuncId}{fn:Func}{m n:Nat}{d:Ds}{res:AV}(hL:LT f L)(hne:L ≠ [])(q:List Bool)(pf:List Pf)(h:tailG X K L f m n d q=some (res,pf.map Pf.p))(hf:Tryz.prog.funcs[f]? = some fn){V w:World}{a:Act}{R:Ending->World->Prop}(hJ:JJ V (mkS m d) a w)(hR:∀v w',RepA w' w' (fun _=>0) 0 res v->Ext V w'->R (.returned v) w') :
  (restS n (bodyF Tryz.prog f)).wp Tryz.prog (bodyPost Tryz.prog fn R) a w:=by
 have hp:=all_pf pf
 generalize pf.map Pf.p=ps at h hp
 unfold tailG at h
 rw[hf] at h
 simp only at h
 split at h
 ·rename_i hk
  have g:LpOk Tryz.prog (lpsF f) L:=by
   cases L with
   | nil=>exact absurd rfl hne
   | cons x L=>exact LT.ok (lpsOk_at hk x (List.mem_cons_self ..)) hL (lpsOk_at hk)
  rw[lpsF_eq] at g
  split at h
  ·rename_i e s ps1 hc
   split at h
   ·cases h
   ·rename_i hex
    split at h
    ·rename_i l hl
     split at h
     ·rename_i l' hl' hms
      simp only[Option.some.injEq,Prod.mk.injEq] at h
      obtain⟨h1,rfl⟩:=h
      refine aCodeL_wp (snd_ok X K) (fun c hc'=>g c (loops_rest n hc')) hc hp hJ fun a' W' hJ'=>?_
      have key:=fin_ok hl hl' hms (res:=(res,[])) (by rw[h1]) hJ'
      obtain⟨k1,v,k2,v',r,cm,k3,k4,k5⟩:=key
      cases k3
      have post:∃v,(results fn a'.tmps).run Tryz.prog W'=.ok v W'/\R (.returned v) W':=⟨v,k2,hR _ _ (RepA.none k5) k4.ext⟩
      cases e with
      | nm=>exact⟨k1,post⟩
      | rt=>exact⟨k1,post⟩
      | ex k=>exact absurd rfl (hex k)
     ·cases h
    ·cases h
  ·cases h
 ·cases h
def rtO(r:Rt):List It:=[.i r.add lim,.i r.s lim,.o (.num r.n),.o (.num r.d)]
def KNl:List Con:=[cSan,dMadeB,dAtB,cPoint,cMeet,cEdges,cCmp,cCmpInt,d02Of,d01Of]
def nlB(a b:Ed)(px py:Int)(D:Rt)(n m:Nat)(L M:List (Int×Int)):List (Nat×Rq):=[(7,.eq ⟨false,[.b true]⟩),(8,.eq (fpW (eW a))),(9,.eq (fpW (eW b))),(10,.eq (fpW (ptW px py))),(11,.eq (fpW (rtO D))),(13,.eq (ptsV n L)),(14,.eq (ptsV m M))]
def pfNl(a b:Ed)(px py:Int)(D:Rt)(n m:Nat)(L M:List (Int×Int)):List Pf:=[⟨fpW (eW a)=fpW (eW a),rfl⟩,⟨fpW (eW b)=fpW (eW b),rfl⟩,⟨fpW (ptW px py)=fpW (ptW px py),rfl⟩,⟨fpW (rtO D)=fpW (rtO D),rfl⟩,⟨ptsV n L=ptsV n L,rfl⟩,⟨ptsV m M=ptsV m M,rfl⟩]

set_option maxRecDepth 100000
section
theorem lt_tN{a b:Int}(h:a<b):decide (a<b)=true:=by simpa using h
theorem lt_fN{a b:Int}(h:¬a<b):decide (a<b)=false:=by simpa using h
def pK(j:Nat)(h:j+1<=2000):Pf:=⟨((j:Nat):Int)+1=((j+1:Nat):Int)/\(((j:Nat):Int)+1).natAbs<=2000,by omega⟩
def pV(v:V1):Pf:=⟨v=v,rfl⟩
def pX(z:Int):Pf:=⟨z=z,rfl⟩
def sqL(px py:Int)(L:List (Int×Int))(k:Nat):Rt:=dR 0 1 ((px-(L.getD k (0,0)).1)*(px-(L.getD k (0,0)).1)+(py-(L.getD k (0,0)).2)*(py-(L.getD k (0,0)).2)) 1
def pBn(a b:Ed)(px py:Int)(D:Rt)(n m:Nat)(L M:List (Int×Int)):List Pf:=pV ⟨false,[.b true]⟩::pfNl a b px py D n m L M
section
variable (a b:Ed) (px py:Int) (D:Rt) (n m:Nat) (L M:List (Int×Int))
def nl1(k:Nat):Ds:=⟨(15,.le (inV (k:Int) 2000))::nlB a b px py D n m L M,[]⟩
theorem orc_1(hn:n<=97)(H:∀k,k<n->decide (cmpRt D (sqL px py L k)>0)=false):OrcOk Tryz.prog (lpC fNl 18) ⟨93,nl1 a b px py D n m L M 0,.ex 0,⟨nlB a b px py D n m L M,[]⟩⟩ :=
 orc (X:=[]) (K:=KNl) (f:=fNl) (id:=18) (n:=93) n (nl1 a b px py D n m L M) (fun _=>[]) (e:=.ex 0) (d1:=⟨nlB a b px py D n m L M,[]⟩) (by kernel_rfl) (fun _=>by kernel_rfl) (fun _ _=>LT.nil)
  (fun k hk=>⟨[true,false],pT (lt_tN (show (k:Int)<(n:Int) by omega))::pP (show 0<=(k:Int)/\(k:Int)<(n:Int) by omega)::pF (H k hk)::pK k (by omega)::pBn a b px py D n m L M,by kernel_rfl⟩)
  ⟨[false],pF (lt_fN (show ¬(n:Int)<(n:Int) by omega))::pBn a b px py D n m L M,by kernel_rfl⟩ nofun
def mbT(T:Rt):Option Mb:=some ⟨34,[.i T.add lim,.i T.s lim,.d (.num T.n),.d (.num T.d)]⟩
variable (T:Rt)
def nlE:List (Nat×Rq):=(16,.eq ⟨false,[.p 0 0]⟩)::nlB a b px py D n m L M
def nl2(k:Nat):Ds:=⟨(19,.le (inV (k:Int) 2000))::nlE a b px py D n m L M,[mbT T]⟩
def nl3(k j:Nat):Ds:=⟨(20,.le (inV (j:Int) 2000))::(19,.le (inV (k:Int) 2000))::nlE a b px py D n m L M,[mbT T]⟩
def pEn:List Pf:=pV ⟨false,[.p 0 0]⟩::pBn a b px py D n m L M++[pX T.add,pX T.s,⟨(It.d (.num T.n))=.d (.num T.n),rfl⟩,⟨(It.d (.num T.d))=.d (.num T.d),rfl⟩]
theorem orc_3(hn:n<=97)(hm:m<=97)(k:Nat)(hk:k<n)(H:∀j,j<m->decide (cmpRt T (sqL (L.getD k (0,0)).1 (L.getD k (0,0)).2 M j)>0)=false):OrcOk Tryz.prog (lpC fNl 44) ⟨93,nl3 a b px py D n m L M T k 0,.ex 4,nl2 a b px py D n m L M T k⟩ :=
 orc (X:=[]) (K:=KNl) (f:=fNl) (id:=44) (n:=93) m (nl3 a b px py D n m L M T k) (fun _=>[]) (e:=.ex 4) (d1:=nl2 a b px py D n m L M T k) (by kernel_rfl) (fun _=>by kernel_rfl) (fun _ _=>LT.nil)
  (fun j hj=>⟨[true,false],pT (lt_tN (show (j:Int)<(m:Int) by omega))::pP (show 0<=(k:Int)/\(k:Int)<(n:Int) by omega)::pP (show 0<=(j:Int)/\(j:Int)<(m:Int) by omega)::pF (H j hj)::pK j (by omega)::pX (k:Int)::pEn a b px py D n m L M T,by kernel_rfl⟩)
  ⟨[false],pF (lt_fN (show ¬(m:Int)<(m:Int) by omega))::pX (k:Int)::pEn a b px py D n m L M T,by kernel_rfl⟩ nofun
theorem orc_2(hn:n<=97)(hm:m<=97)(H:∀k,k<n->∀j,j<m->decide (cmpRt T (sqL (L.getD k (0,0)).1 (L.getD k (0,0)).2 M j)>0)=false):OrcOk Tryz.prog (lpC fNl 38) ⟨93,nl2 a b px py D n m L M T 0,.ex 2,⟨nlB a b px py D n m L M,[]⟩⟩ :=
 orc (X:=[]) (K:=KNl) (f:=fNl) (id:=38) (n:=93) n (nl2 a b px py D n m L M T) (fun k=>if k<n then [(44,⟨93,nl3 a b px py D n m L M T k 0,.ex 4,nl2 a b px py D n m L M T k⟩)] else []) (e:=.ex 2) (d1:=⟨nlB a b px py D n m L M,[]⟩) (by kernel_rfl) (fun k=>by by_cases h:k<n<;>simp only[h,if_true,if_false]<;>kernel_rfl) (fun k _=>by
   by_cases h:k<n
   ·rw[if_pos h];exact LT.cons (orc_3 a b px py D n m L M T hn hm k h (H k h)) LT.nil
   ·rw[if_neg h];exact LT.nil)
  (fun k hk => by
   rw[if_pos hk]
   exact⟨[true],pT (lt_tN (show (k:Int)<(n:Int) by omega))::pX 0::pX (k:Int)::pEn a b px py D n m L M T++pK k (by omega)::pEn a b px py D n m L M T,by kernel_rfl⟩)
  (by
   rw[if_neg (Nat.lt_irrefl n)]
   exact⟨[false],pF (lt_fN (show ¬(n:Int)<(n:Int) by omega))::pBn a b px py D n m L M,by kernel_rfl⟩) nofun
end
end

set_option maxRecDepth 100000
section
theorem getD_mem{L:List (Int×Int)}{k:Nat}(h:k<L.length):L.getD k (0,0)∈L:=by
 rw[show L.getD k (0,0)=L[k] by simp[List.getD,h]]
 exact List.getElem_mem h
theorem on_Co{e:Ed}{x y:Int}(h:onE e x y=true):Co x/\Co y:=⟨co_c26 (on_co h).1,co_c26 (on_co h).2⟩
theorem sqL_end(px py:Int)(L:List (Int×Int))(k:Nat):sqL px py L k=(endQ px py (L.getD k (0,0)).1 (L.getD k (0,0)).2).rt:=rfl
theorem not_gt{x:Int}(h:x<=0):decide (x>0)=false:=decide_eq_false (by omega)
theorem nl_pt{e:Ed}(he:e.ok=true){px py:Int}(hx:Co px)(hy:Co py){L:List (Int×Int)}(hL:∀q∈L,onE e q.1 q.2=true)(k:Nat)(hk:k<L.length):decide (cmpRt (pointR e px py).1 (sqL px py L k)>0)=false:=by
 have hq:=hL _ (getD_mem hk)
 obtain⟨c1,c2⟩:=on_Co hq
 rw[pointR_Q he (coordB_iff.2 ⟨hx,hy⟩),sqL_end,cmpQ_rt (pointQ_ok he hx hy) (endQ_ok hx hy c1 c2)]
 exact not_gt (point_le hq)
theorem nl_ed{a b:Ed}(ha:a.ok=true)(hb:b.ok=true)(hc:countE a b=0){L M:List (Int×Int)}(hL:∀q∈L,onE a q.1 q.2=true)(hM:∀q∈M,onE b q.1 q.2=true)(k:Nat)(hk:k<L.length)(j:Nat)(hj:j<M.length):decide (cmpRt (edgesR a b).d (sqL (L.getD k (0,0)).1 (L.getD k (0,0)).2 M j)>0)=false:=by
 have hq:=hL _ (getD_mem hk)
 have hr:=hM _ (getD_mem hj)
 obtain⟨c1,c2⟩:=on_Co hq
 obtain⟨c3,c4⟩:=on_Co hr
 rw[edgesR_Q ha hb hc,sqL_end,cmpQ_rt (leastQ_le' (candQ_ne _ _) (candQ_ok ha hb)) (endQ_ok c1 c2 c3 c4)]
 exact not_gt (least_le hq hr hc)
theorem nl_pos{a b:Ed}(ha:a.ok=true)(hb:b.ok=true)(hc:countE a b=0):decide (cmpRt (edgesR a b).d ⟨0,0,zero,ofZ 1⟩<=0)=false:=by
 rw[edgesR_Q ha hb hc,<- intQ_rt,cmpQ_rt (leastQ_le' (candQ_ne _ _) (candQ_ok ha hb)) (intQ_ok 0)]
 have:=least_gt ha hb hc
 exact decide_eq_false (by omega)
theorem rv_b0{V W:World}{r:Nat->Nat}{k:Nat}{b:Bool}:RepV V W r k ⟨false,[.b b]⟩ (.bool b):=⟨[_],⟨[_],[],rfl,rfl,rfl⟩,rfl,fun _=>rfl⟩
theorem pts_ext{W W':World}{n:Nat}{L:List (Int×Int)}{v:Value}(h:RepV W W (fun _=>0) 0 (ptsV n L) v)(hx:Ext W W'):RepV W' W' (fun _=>0) 0 (ptsV n L) v:=by
 obtain⟨cs,⟨c,d,rfl,⟨u,rfl,hr⟩,rfl⟩,h2,h3⟩:=h
 exact⟨_,⟨[u],[],rfl,⟨u,rfl,hr.imp hx fun l cs h=>h.ext hx⟩,rfl⟩,h2,h3⟩
theorem nl_tail{a b:Ed}(oa:a.ok=true)(ob:b.ok=true){px py:Int}(hx:Co px)(hy:Co py){n m:Nat}{L M:List (Int×Int)}(hn:n=L.length)(hm:m=M.length)(hn9:n<=97)(hm9:m<=97)(hL:∀q∈L,onE a q.1 q.2=true)(hM:∀q∈M,onE b q.1 q.2=true){V w:World}(A:Act)(hd:A.defers=[])(hJ:JJ V (mkS 93 ⟨nlB a b px py (pointR a px py).1 n m L M,[]⟩) A V)(hw:Ext w V) :
  (restS 8 (bodyF Tryz.prog fNl)).wp Tryz.prog (bodyPost Tryz.prog Tryz.f3 fun e w'=>e=.returned (.bool true)/\Ext w w') A V:=by
 obtain⟨D,hD⟩:∃D,(pointR a px py).1=D:=⟨_,rfl⟩
 have H1:∀k,k<n->decide (cmpRt D (sqL px py L k)>0)=false:=fun k hk=>by rw[<- hD];exact nl_pt oa hx hy hL k (by omega)
 rw[hD] at hJ
 have o1:=orc_1 a b px py D n m L M hn9 H1
 have e0:(0:Int)=((0:Nat):Int):=rfl
 cases hc:(!(countE a b==0)) with
 | true =>
  refine tailG_wp (X:=[]) (K:=KNl) (res:=.one ⟨false,[.b true]⟩) (LT.cons o1 LT.nil) (List.cons_ne_nil _ _) [true] (⟨(0:Int)=((0:Nat):Int),e0⟩::pBn a b px py D n m L M++[pT hc]) (by kernel_rfl) Tryz.func3 hJ fun v w' hv hx'=>⟨?_,Ext.step hw hx'⟩
  rw[show v=.bool true from (List.cons.inj (show [v]=[Value.bool true] from (show RepV w' w' (fun _=>0) 0 ⟨false,[.b true]⟩ v from hv).scal)).1]
 | false =>
  have c0:countE a b=0:=by simpa using hc
  have o2:=orc_2 a b px py D n m L M (edgesR a b).d hn9 hm9 fun k hk j hj=>nl_ed oa ob c0 hL hM k (by omega) j (by omega)
  refine tailG_wp (X:=[]) (K:=KNl) (res:=.one ⟨false,[.b true]⟩) (LT.cons o1 (LT.cons o2 LT.nil)) (List.cons_ne_nil _ _) [false,false] (⟨(0:Int)=((0:Nat):Int),e0⟩::pBn a b px py D n m L M++pF hc::pF (nl_pos oa ob c0)::⟨(0:Int)=((0:Nat):Int),e0⟩::pEn a b px py D n m L M (edgesR a b).d) (by kernel_rfl) Tryz.func3 hJ fun v w' hv hx'=>⟨?_,Ext.step hw hx'⟩
  rw[show v=.bool true from (List.cons.inj (show [v]=[Value.bool true] from (show RepV w' w' (fun _=>0) 0 ⟨false,[.b true]⟩ v from hv).scal)).1]
def pN(k:Nat):V1:=⟨false,[.p k 0]⟩
def nlP(a b:Ed)(px py:Int)(D:Rt):Ds:=⟨[(7,.eq ⟨false,[.b true]⟩),(8,.eq (pN 0)),(9,.eq (pN 1)),(10,.eq (pN 2)),(11,.eq (pN 3))],[some ⟨27,eW a⟩,some ⟨27,eW b⟩,some ⟨25,ptW px py⟩,mbT D]⟩
def pEw(e:Ed):List Pf:=[pX e.k,pX e.ax,pX e.ay,pX e.bx,pX e.by',pX e.cx,pX e.cy]
theorem nearLeast_ok(L M N:List Int):Fok Tryz.prog 3 [⟨false,[.ds L]⟩,⟨false,[.ds M]⟩,⟨false,[.ds N]⟩] (.one (blV true)):=by
 intro w vals hv
 have oa:=mad6_ok L
 have ob:=mad6_ok M
 have sa:=mad6_sm L
 have sb:=mad6_sm M
 obtain⟨b1,b2⟩:=at6_sm N sa ⟨rad_nn oa,by have:=rad_sm sa;omega⟩
 have hpre:preF [] KNl [] fNl 6 [⟨false,[.ds L]⟩,⟨false,[.ds M]⟩,⟨false,[.ds N]⟩] (nlP (mad6 L) (mad6 M) (at6 (mad6 L) N).1 (at6 (mad6 L) N).2 (pointR (mad6 L) (at6 (mad6 L) N).1 (at6 (mad6 L) N).2).1) []=some ((pP (And.intro oa (And.intro b1 b2))::pV ⟨false,[.b true]⟩::pV (pN 0)::pV (pN 1)::pV (pN 2)::pV (pN 3)::pEw (mad6 L)++(pEw (mad6 M)++[pX (at6 (mad6 L) N).1,pX (at6 (mad6 L) N).2,pX (pointR (mad6 L) (at6 (mad6 L) N).1 (at6 (mad6 L) N).2).1.add,pX (pointR (mad6 L) (at6 (mad6 L) N).1 (at6 (mad6 L) N).2).1.s,⟨(It.d (.num (pointR (mad6 L) (at6 (mad6 L) N).1 (at6 (mad6 L) N).2).1.n))=.d (.num (pointR (mad6 L) (at6 (mad6 L) N).1 (at6 (mad6 L) N).2).1.n),rfl⟩,⟨(It.d (.num (pointR (mad6 L) (at6 (mad6 L) N).1 (at6 (mad6 L) N).2).1.d))=.d (.num (pointR (mad6 L) (at6 (mad6 L) N).1 (at6 (mad6 L) N).2).1.d),rfl⟩])).map Pf.p):=by kernel_rfl
 have e6:restS 6 (bodyF Tryz.prog fNl)=.seq (.region 6 (opR fNl 6).toArray false) (.seq (.region 7 (opR fNl 7).toArray false) (restS 8 (bodyF Tryz.prog fNl))):=by kernel_rfl
 generalize mad6 L=a at *
 generalize mad6 M=b at *
 have hx:=co_c26 b1
 have hy:=co_c26 b2
 generalize (at6 a N).1=px at *
 generalize (at6 a N).2=py at *
 suffices H:Calls Tryz.prog fNl vals.toArray w fun e w'=>e=.returned (.bool true)/\Ext w w' from H.mono fun e w' ⟨h1,h2⟩=>⟨_,h1,rv_v.2 ⟨rfl,rfl⟩,h2⟩
 refine calls_of_wp Tryz.func3 (show _=some (bodyF Tryz.prog fNl) by kernel_rfl) ?_
 refine preF_wp LT.nil _ hpre hv (fun A W hJ=>?_)
 rw[e6]
 obtain⟨k1,k2,r,k3,k4⟩:=blkW hJ
 have hdf:A.defers=[]:=by obtain⟨_,_,⟨_,h⟩,_⟩:=hJ;exact h
 have hnf:nF fNl=93:=by kernel_rfl
 rw[hnf] at k2 k3
 have t7:A.tmps.getD 7 undef=.bool true:=(List.cons.inj (show [_]=[Value.bool true] from (k3 7 ⟨false,[.b true]⟩ (by kernel_rfl)).scal)).1
 have t8:A.tmps.getD 8 undef=ptrW (r 0):=(List.cons.inj (k3 8 (pN 0) (by kernel_rfl)).scal.2).1
 have t9:A.tmps.getD 9 undef=ptrW (r 1):=(List.cons.inj (k3 9 (pN 1) (by kernel_rfl)).scal.2).1
 have t10:A.tmps.getD 10 undef=ptrW (r 2):=(List.cons.inj (k3 10 (pN 2) (by kernel_rfl)).scal.2).1
 have t11:A.tmps.getD 11 undef=ptrW (r 3):=(List.cons.inj (k3 11 (pN 3) (by kernel_rfl)).scal.2).1
 have f0:FqAt W (r 0) (eW a):=(k4 0 ⟨27,eW a⟩ rfl (by kernel_rfl)).1
 have f1:FqAt W (r 1) (eW b):=(k4 1 ⟨27,eW b⟩ rfl (by kernel_rfl)).1
 have f2:FqAt W (r 2) (ptW px py):=(k4 2 ⟨25,ptW px py⟩ rfl (by kernel_rfl)).1
 have f3:FqAt W (r 3) (rtO (pointR a px py).1):=(k4 3 _ rfl (by kernel_rfl)).1
 refine wp_seq (nl_r6 a oa sa A W (r 0) _ k2 t8 f0 fun A1 W1 p1 n c1 P s1 d1 o1 x1 g1 v1 e1 z1 q1=>?_)
 refine wp_seq (nl_r7 b ob sb A1 W1 (r 1) _ s1 ((o1 9 (by decide) (by decide) (by decide)).trans t9) (f1.ext x1) fun A2 W2 p2 m c2 S s2 d2 o2 x2 g2 v2 e2 z2 q2=>?_)
 have hd2:A2.defers=[]:=d2.trans (d1.trans hdf)
 have x12:=Ext.step x1 x2
 have o12:∀t,t≠35->t≠36->t≠13->t≠37->t≠38->t≠14->A2.tmps.getD t undef=A.tmps.getD t undef:=fun t a b c d e f=>(o2 t d e f).trans (o1 t a b c)
 obtain⟨tm,df⟩:=A2
 obtain rfl:df=[]:=hd2
 refine nl_tail oa ob hx hy e1 e2 z1 z2 q1 q2 _ rfl ?_ (Ext.step k1 x12)
 refine old_J (a:=⟨tm,[]⟩) s2 fun z hz=>?_
 simp only[nlB,List.mem_cons,List.not_mem_nil,or_false] at hz
 rcases hz with rfl|rfl|rfl|rfl|rfl|rfl|rfl
 ·rw[o12 7 (by decide) (by decide) (by decide) (by decide) (by decide) (by decide),t7];exact rv_b0
 ·rw[o12 8 (by decide) (by decide) (by decide) (by decide) (by decide) (by decide),t8];exact (f0.ext x12).rv
 ·rw[o12 9 (by decide) (by decide) (by decide) (by decide) (by decide) (by decide),t9];exact (f1.ext x12).rv
 ·rw[o12 10 (by decide) (by decide) (by decide) (by decide) (by decide) (by decide),t10];exact (f2.ext x12).rv
 ·rw[o12 11 (by decide) (by decide) (by decide) (by decide) (by decide) (by decide),t11];exact (f3.ext x12).rv
 ·rw[(o2 13 (by decide) (by decide) (by decide)).trans g1];exact pts_ext v1 x2
 ·rw[g2];exact v2
end
end Go.Proofs.YtcfpcafnjgpfdaaGreat
