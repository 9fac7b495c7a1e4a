import Derived.Test.YtceemiodpccbhaaGreatQ26
import Derived.WalkMore
set_option linter.unusedVariables false
set_option linter.unusedSimpArgs false

namespace Go.Proofs.YtceemiodpccbhaaGreat
open Go.RowKit

section
section
variable {P:Program} {V:World} {E:Env} {call:CallF} {ops:Array Oper} {qk:Oper->Bool} {Q Q':Act->World->Prop}
def WpS(P:Program)(ops:Array Oper)(Q:Act->World->Prop):List Oper->Act->World->Prop
 | [],a,w=>Q a w
 | o::l,a,w=>(Region.wanted o (yielded ops a.tmps)=true/\∃R:Value->World->Prop,Gives P o a w R/\∀v w',R v w'->WpS P ops Q l (a.put o.dst v) w')\/(Region.wanted o (yielded ops a.tmps)=false/\WpS P ops Q l (a.put o.dst undef) w)
theorem aOps_S(hs:Sound P E call):∀ {l:List Oper} {s s':St} {q q':List Bool} {ob:Ob} {a:Act} {w:World} {r:Nat->Nat} {cm:Nat->List Value},aOps P E call ops qk l s q=some (s',ob,q')->All ob.ps->J V r cm s a w ->
  (∀a' W r' cm',J V r' cm' s' a' W->Q a' W)->WpS P ops Q l a w
 | [],s,s',q,q',ob,a,w,r,cm,h,_,hJ,hQ=>by
  unfold aOps at h
  cases h
  exact hQ _ _ _ _ hJ
 | o::l,s,s',q,q',ob,a,w,r,cm,h,hp,hJ,hQ=>by
  unfold aOps at h
  unfold WpS
  split at h
  ·cases h
  ·rename_i sg ps q1 hg
   split at h
   ·cases h
   cases hl:aOps P E call ops qk l (put sg o.dst .und) q1 with
   | none=>simp[hl] at h
   | some z =>
    obtain⟨s2,ob2,q2⟩:=z
    simp only[hl,Option.map_some,Option.some.injEq,Prod.mk.injEq] at h
    obtain⟨rfl,rfl,rfl⟩:=h
    obtain⟨p1,p2⟩:=All.app hp
    obtain⟨hJ,hw⟩:=hJ.gd hg p1
    exact .inr ⟨hw,aOps_S hs hl p2 (J.put hJ.1.1 hJ.2 hJ.1.2 rfl) hQ⟩
  ·rename_i sg ps q1 hg
   split at h
   ·cases h
   ·rename_i v s1 ob1 q2 hd
    cases hl:aOps P E call ops qk l (put s1 o.dst v) q2 with
    | none=>simp[hl] at h
    | some z =>
     obtain⟨s2,ob2,q3⟩:=z
     simp only[hl,Option.map_some,Option.some.injEq,Prod.mk.injEq] at h
     obtain⟨rfl,rfl,rfl⟩:=h
     obtain⟨p1,p2⟩:=All.app hp
     obtain⟨p3,p4⟩:=All.app p1
     obtain⟨hJ,hw⟩:=hJ.gd hg p3
     refine .inl ⟨hw,_,aDo_seq hs hJ hd p4,?_⟩
     rintro x w' ⟨r',cm',⟨h1,h2⟩,h3⟩
     exact aOps_S hs hl p2 (J.put h1 h2 hJ.1.2 h3) hQ
theorem WpS.df(D:List Deferred):∀ {l:List Oper} {a:Act} {w:World},WpS P ops Q l a w->(∀a' W,Q a' W->(∀t,offT l t=true->a'.tmps.getD t undef=a.tmps.getD t undef)->Q' (dfA D a') W)->WpS P ops Q' l (dfA D a) w
 | [],a,w,h,hQ=>hQ _ _ h fun _ _=>rfl
 | o::l,a,w,h,hQ=>by
  have nx:∀(v:Value) (a':Act) (W:World),Q a' W->(∀t,offT l t=true->a'.tmps.getD t undef=(a.put o.dst v).tmps.getD t undef)->Q' (dfA D a') W:=fun v a' W hq ht=>hQ a' W hq fun t hoff=>by
   unfold offT at hoff
   rw[List.all_cons,Bool.and_eq_true] at hoff
   rw[ht t hoff.2,put_off hoff.1]
  rcases (show _\/_ from h) with⟨hw,R,hg,hk⟩|⟨hw,hk⟩
  ·exact .inl ⟨hw,R,hg.df D,fun v w' hr=>by rw[put_df];exact WpS.df D (hk v w' hr) (nx v)⟩
  ·exact .inr ⟨hw,by rw[put_df];exact WpS.df D hk (nx undef)⟩
theorem WpS.wp{Q:Exit->Act->World->Prop}:∀ {l:List Oper} {a:Act} {w:World},WpS P ops (fun a w=>Q .normal a w) l a w->wpList P ops Q l a w
 | [],_,_,h=>h
 | o::l,a,w,h=>by
  unfold wpList
  rcases (show _\/_ from h) with⟨hw,R,hg,hk⟩|⟨hw,hk⟩
  ·rw [if_pos hw]
   exact .inl (hg.wp fun v w' hr=>WpS.wp (hk v w' hr))
  ·rw [if_neg (by rw [hw]; decide)]
   exact WpS.wp hk
theorem WpS.wpIn{Q:Exit->Act->World->Prop}{r m:Nat}:∀ {l:List Oper} {a:Act} {w:World},(l.all fun o=>match o.op with | .defer _=>false|_=>true)=true->WpS P ops (fun a w=>Q .normal a w) l a w->wpListIn (Fence.wide.inRound r) m P ops Q l a w
 | [],_,_,_,h=>h
 | o::l,a,w,hd,h=>by
  rw[List.all_cons,Bool.and_eq_true] at hd
  unfold wpListIn
  rcases (show _\/_ from h) with⟨hw,R,hg,hk⟩|⟨hw,hk⟩
  ·rw [if_pos hw]
   exact hg.wpIn (fun c e=>by simp[e] at hd) fun v w' hr=>WpS.wpIn hd.2 (hk v w' hr)
  ·rw [if_neg (by rw [hw]; decide)]
   exact⟨fun _ _=>trivial,WpS.wpIn hd.2 hk⟩
end
section
variable {P:Program} {ops:Array Oper} {Q:Act->World->Prop} {o:Oper} {a:Act} {w W:World}
theorem wpS_app:∀ {l m:List Oper} {a:Act} {w:World},WpS P ops (fun a w=>WpS P ops Q m a w) l a w->WpS P ops Q (l++m) a w
 | [],_,_,_,h=>h
 | _::_,_,_,_,h=>by
  rcases (show _\/_ from h) with⟨hw,R,hg,hk⟩|⟨hw,hk⟩
  ·exact .inl ⟨hw,R,hg,fun v w' hr=>wpS_app (hk v w' hr)⟩
  ·exact .inr ⟨hw,wpS_app hk⟩
theorem wpS_skip{l:List Oper}(hw:Region.wanted o (yielded ops a.tmps)=true)(h:(execOp a.eval o).run P w=.ok .skip W)(hk:WpS P ops Q l (a.put o.dst undef) W):WpS P ops Q (o::l) a w :=
 .inl ⟨hw,fun v w'=>v=undef/\w'=W,gives_skip h ⟨rfl,rfl⟩,fun v w' h=>by obtain⟨rfl,rfl⟩:=h;exact hk⟩
theorem wpS_val{l:List Oper}{x:Value}(hw:Region.wanted o (yielded ops a.tmps)=true)(h:(execOp a.eval o).run P w=.ok (.value x) W)(hk:WpS P ops Q l (a.put o.dst x) W):WpS P ops Q (o::l) a w :=
 .inl ⟨hw,fun v w'=>v=x/\w'=W,gives_val h ⟨rfl,rfl⟩,fun v w' h=>by obtain⟨rfl,rfl⟩:=h;exact hk⟩
theorem wpS_call{l:List Oper}{f:FuncId}{args:Array Value}{R:Ending->World->Prop}(hw:Region.wanted o (yielded ops a.tmps)=true)(h:(execOp a.eval o).run P w=.ok (.enter f args) w)(hc:Calls P f args w R)(hR:∀e W,R e W->∃v,e=.returned v)(hk:∀v W,R (.returned v) W->WpS P ops Q l (a.put o.dst v) W):WpS P ops Q (o::l) a w:=by
 refine .inl ⟨hw,fun v W=>R (.returned v) W,?_,fun v w' h=>hk v w' h⟩
 unfold Gives
 rw[h]
 exact hc.mono fun e W hr=>by obtain⟨v,rfl⟩:=hR e W hr;exact⟨v,rfl,hr⟩
end
noncomputable def runS(X:List Eff)(K:List Con)(ops l:List Oper)(n:Nat)(d d':Ds)(q:List Bool):Option (List Prop) :=
 match aOps Tryz.prog (env X) (callK X K) ops.toArray noQ l { mkS n d with al:=0 } q with
 | some (s',ob,[])=>if s'.t.n==n then (leS s' d').map (ob.ps++·) else none
 | _=>none
theorem runS_ok{X:List Eff}{K:List Con}{n:Nat}{ops l:List Oper}{d d':Ds}{q:List Bool}(pf:List Pf)(h:runS X K ops l n d d' q=some (pf.map Pf.p)){V w:World}{a:Act}{Q:Act->World->Prop}(hJ:JJ V (mkS n d) (dfA [] a) w)
  (hQ:∀a' W,JJ V (mkS n d') a' W->(∀t,offT l t=true->a'.tmps.getD t undef=a.tmps.getD t undef)->Q (dfA a.defers a') W):WpS Tryz.prog ops.toArray Q l a w:=by
 have hp:=all_pf pf
 generalize pf.map Pf.p=ps at h hp
 unfold runS at h
 split at h
 ·rename_i s' ob h1
  split at h
  ·rename_i hc
   simp only[beq_iff_eq] at hc
   cases h2:leS s' d' with
   | none=>simp[h2] at h
   | some ps2 =>
    simp only[h2,Option.map_some,Option.some.injEq] at h
    subst h
    obtain⟨p1,p2⟩:=All.app hp
    obtain⟨r,cm,hj⟩:=hJ
    have hW:=aOps_S (snd_ok X K) (Q:=fun a' W=>JJ V s' a' W) (ops:=ops.toArray) (s:={ mkS n d with al:=0 }) h1 p1 hj (fun a' W r' cm' hJ=>⟨r',cm',hJ⟩)
    exact WpS.df (a:=dfA [] a) a.defers hW fun a' W hq ht=>hQ a' W (le_J h2 p2 hc hq) ht
  ·cases h
 ·cases h
theorem old_J{n:Nat}{l:List (Nat×Rq)}{a:Act}{W:World}(hn:a.tmps.size=n)(hl:∀x∈l,RepV W W (fun _=>0) 0 x.2.v (a.tmps.getD x.1 undef)):JJ W (mkS n ⟨l,[]⟩) (dfA [] a) W:=by
 refine⟨fun _=>0,fun _=>[],⟨RM.nil (Below.refl _ _),rfl⟩,hn,fun i v hv=>?_⟩
 rcases Tr.sets_get (Tm.get_lt hv).2 with rfl|⟨x,hx',rfl⟩
 ·trivial
 ·exact hl _ hx'
theorem rv_fp{W:World}{l:List It}{cs ds:List Value}{b o:Nat}{xs:List Value}{T:TypeId}(hg:W.heap[b]? = some (.cells xs.toArray T))(ho:o<=xs.length)(hd:xs.drop o=cs++ds)(h:RepF W l cs):RepV W W (fun _=>0) 0 ⟨false,[.fp l]⟩ (.pointer (some ⟨b,o,none⟩)) :=
 ⟨[_],⟨[_],[],rfl,⟨b,o,_,(T,(0,0)),rfl,hg,by simpa using ho,cs,ds,by simpa using hd,h⟩,rfl⟩,rfl,fun _=>rfl⟩
end

set_option maxRecDepth 100000
section
def regG(id:Nat):Code->Option Code
 | .region k ops d=>if k=id then some (.region k ops d) else none
 | .seq a b=>match regG id a with|some c=>some c|none=>regG id b
 | .cond _ a b=>match regG id a with|some c=>some c|none=>regG id b
 | .block _ c=>regG id c
 | .loop c=>regG id c
 | .scope c=>regG id c
 | .rangeFunc _ _ a c=>match regG id a with|some c=>some c|none=>regG id c
 | _=>none
noncomputable def gR(k:Nat):List Oper:=match regG k (bodyF Tryz.prog 14) with|some (.region _ ops _)=>ops.toList|_=>[]
noncomputable def gO (k i : Nat) : Oper := ((gR k)[i]?).getD ⟨none, .move (.tmp 0), 0, "", #[], none⟩
theorem off_t{l m:List Oper}{t:Nat}(h:offT (l++m) t=true):offT l t=true/\offT m t=true:=by
 unfold offT at *
 rwa [List.all_append,Bool.and_eq_true] at h
def edL(e:Ed):List Value:=[.int .i64 e.k,.int .i64 e.ax,.int .i64 e.ay,.int .i64 e.bx,.int .i64 e.by',.int .i64 e.cx,.int .i64 e.cy]
def EdI(e:Ed):Prop:=I64 e.k/\I64 e.ax/\I64 e.ay/\I64 e.bx/\I64 e.by'/\I64 e.cx/\I64 e.cy
theorem EdI.rep{e:Ed}(h:EdI e)(W:World):RepF W (edI e) (edL e):=by
 obtain⟨a0,a1,a2,a3,a4,a5,a6⟩:=h
 exact⟨[_],_,rfl,⟨rfl,lim64 a0⟩,[_],_,rfl,⟨rfl,lim64 a1⟩,[_],_,rfl,⟨rfl,lim64 a2⟩,[_],_,rfl,⟨rfl,lim64 a3⟩,[_],_,rfl,⟨rfl,lim64 a4⟩,[_],_,rfl,⟨rfl,lim64 a5⟩,[_],[],rfl,⟨rfl,lim64 a6⟩,rfl⟩
def fpV(l:List It):V1:=⟨false,[.fp l]⟩
theorem rv_fp0{W:World}{l:List It}{cs:List Value}{b:Nat}{T:TypeId}(hg:W.heap[b]? = some (.cells cs.toArray T))(h:RepF W l cs):RepV W W (fun _=>0) 0 (fpV l) (.pointer (some ⟨b,0,none⟩)):=rv_fp (cs:=cs) (ds:=[]) hg (Nat.zero_le _) (by simp) h
theorem J_at{V W:World}{n:Nat}{d:Ds}{a:Act}(h:JJ V (mkS n d) a W):Ext V W/\a.tmps.size=n/\∃r,∀t v,(mkS n d).t.get t=some (.one v)->RepV V W r d.m.length v (a.tmps.getD t undef):=by
 obtain⟨r,cm,⟨hM,_⟩,hT⟩:=h
 exact⟨hM.ext,hT.1,r,fun t v hv=>hT.2 t _ hv⟩
def ptrA(b:Nat):Value:=.pointer (some ⟨b,0,none⟩)
theorem r8(a:Act)(W:World)(m:Bool)(x y:Ed)(B6 P9 P10:Nat)(Q:Act->World->Prop)(hsz:a.tmps.size=94)(h6:a.tmps.getD 6 undef=ptrA B6)(h9:a.tmps.getD 9 undef=ptrA P9)(h10:a.tmps.getD 10 undef=ptrA P10)
  (g6:W.heap[B6]? = some (.cells #[.bool m] 4)) (g9:W.heap[P9]? = some (.cells (edL x).toArray 70)) (g10:W.heap[P10]? = some (.cells (edL y).toArray 70)) (hx:EdI x) (hy:EdI y)
  (hQ:∀a' W1 W',a'.tmps.size=94->a'.defers=a.defers->(∀t,offT (gR 8) t=true->a'.tmps.getD t undef=a.tmps.getD t undef)->Ext W W1->OnlyB B6 W1 W'->W'.heap[B6]? = some (.cells #[.bool (m || !(countE x y==0))] 4)->Q a' W'):WpS Tryz.prog (gR 8).toArray Q (gR 8) a W:=by
 have es:gR 8=(gR 8).take 6++[gO 8 6]:=by kernel_rfl
 have key:∀a' W1,Ext W W1->a'.tmps.size=94->(∀t,offT ((gR 8).take 6) t=true->a'.tmps.getD t undef=a.tmps.getD t undef)->a'.tmps.getD 48 undef=.bool (m || !(countE x y==0))->WpS Tryz.prog (gR 8).toArray Q [gO 8 6] (dfA a.defers a') W1:=fun a' W1 hE hs hoff h48=>by
  have g6':=heap_ext g6 hE
  obtain⟨o1,o2⟩:=onlyB_setRow (cs':=(([.bool m]:List Value).take 0++(([.bool (m || !(countE x y==0))]:List Value)++([.bool m]:List Value).drop (0+1))).toArray) g6'
  refine wpS_skip (W:=W1.setRow B6 (([.bool m]:List Value).take 0++(([.bool (m || !(countE x y==0))]:List Value)++([.bool m]:List Value).drop (0+1))).toArray) (by kernel_rfl) ?_ ?_
  ·exact ex_store (x:=.tmp 6) (y:=.tmp 48) (t:=4) (j:=0) (n:=1) (by kernel_rfl) (show a'.tmps.getD 6 undef=_ by rw[hoff 6 (by kernel_rfl)];exact h6) g6' (by rw[show (dfA a.defers a').eval (.tmp 48)=a'.tmps.getD 48 undef from rfl,h48];rfl) (by kernel_rfl) rfl (by simp) (fun v hv=>by rw[List.mem_singleton.1 hv];rfl)
  ·refine hQ _ _ _ (show (Act.put (dfA a.defers a') _ undef).tmps.size = 94 by rw [show Act.put (dfA a.defers a') (gO 8 6).dst undef = dfA a.defers a' by kernel_rfl]; exact hs) ?_ (fun t ht => ?_) hE o1 o2
   ·rw[show Act.put (dfA a.defers a') (gO 8 6).dst undef=dfA a.defers a' by kernel_rfl];rfl
   ·rw [show Act.put (dfA a.defers a') (gO 8 6).dst undef = dfA a.defers a' by kernel_rfl]
    rw[es] at ht
    exact hoff t (off_t ht).1
 rw[show WpS Tryz.prog (gR 8).toArray Q (gR 8) a W=WpS Tryz.prog (gR 8).toArray Q ((gR 8).take 6++[gO 8 6]) a W by rw[<- es]]
 refine wpS_app ?_
 cases m with
 | true =>
  refine runS_ok (X:=[]) (K:=[cMeet]) (n:=94) (d:=⟨[(6,.eq (fpV [.b true])),(9,.eq (fpV (edI x))),(10,.eq (fpV (edI y)))],[]⟩) (d':=⟨[(48,.eq ⟨false,[.b true]⟩)],[]⟩) (q:=[]) [pR ⟨false,[.b true]⟩] (by kernel_rfl) (old_J hsz fun z hz=>?_) fun a' W1 hJ hoff=>?_
  ·simp only [List.mem_cons, List.not_mem_nil, or_false] at hz
   rcases hz with rfl|rfl|rfl
   ·rw[h6];exact rv_fp0 (cs:=[.bool true]) g6 ⟨[_],[],rfl,rfl,rfl⟩
   ·rw[h9];exact rv_fp0 g9 (hx.rep W)
   ·rw[h10];exact rv_fp0 g10 (hy.rep W)
  ·obtain ⟨h1, h2, r, h3⟩ := J_at hJ
   exact key a' W1 h1 h2 hoff (List.cons.inj (show _=[Value.bool true] from (h3 48 ⟨false,[.b true]⟩ (by kernel_rfl)).scal)).1
 | false =>
  refine runS_ok (X:=[]) (K:=[cMeet]) (n:=94) (d:=⟨[(6,.eq (fpV [.b false])),(9,.eq (fpV (edI x))),(10,.eq (fpV (edI y)))],[]⟩) (d':=⟨[(48,.eq (blV (!(countE x y==0))))],[]⟩) (q:=[]) [pR (blV (!(countE x y==0)))] (by kernel_rfl) (old_J hsz fun z hz=>?_) fun a' W1 hJ hoff=>?_
  ·simp only [List.mem_cons, List.not_mem_nil, or_false] at hz
   rcases hz with rfl|rfl|rfl
   ·rw[h6];exact rv_fp0 (cs:=[.bool false]) g6 ⟨[_],[],rfl,rfl,rfl⟩
   ·rw[h9];exact rv_fp0 g9 (hx.rep W)
   ·rw[h10];exact rv_fp0 g10 (hy.rep W)
  ·obtain ⟨h1, h2, r, h3⟩ := J_at hJ
   exact key a' W1 h1 h2 hoff (rv_v.1 (h3 48 (blV (!(countE x y==0))) (by kernel_rfl))).2
def FpAt(W:World)(b:Nat)(l:List It):Prop:=∃c d T,W.heap[b]? = some (.cells (c++d).toArray T)/\RepF W l c
theorem FpAt.ext{W W':World}{b:Nat}{l:List It}(h:FpAt W b l)(hx:Ext W W'):FpAt W' b l:=by
 obtain⟨c,d,T,h1,h2⟩:=h
 exact⟨c,d,T,heap_ext h1 hx,h2.ext hx⟩
theorem FpAt.rv{W:World}{b:Nat}{l:List It}(h:FpAt W b l):RepV W W (fun _=>0) 0 (fpV l) (ptrA b):=by
 obtain⟨c,d,T,h1,h2⟩:=h
 exact rv_fp (cs:=c) (ds:=d) h1 (Nat.zero_le _) rfl h2
theorem FpAt.of{W:World}{b:Nat}{l:List It}{cs:List Value}{T:TypeId}(h:W.heap[b]? = some (.cells cs.toArray T))(h2:RepF W l cs):FpAt W b l:=⟨cs,[],T,by rw[List.append_nil];exact h,h2⟩
theorem blk_at{V W:World}{n:Nat}{d:Ds}{a:Act}(h:JJ V (mkS n d) a W):Ext V W/\a.tmps.size=n/\∃r,(∀t v,(mkS n d).t.get t=some (.one v)->RepV V W r d.m.length v (a.tmps.getD t undef))/\∀b x,d.m[b]? = some (some x)->(x.l.all It.np)=true->FpAt W (r b) (x.l.map unO)/\V.heap.size<=r b:=by
 obtain⟨r,cm,⟨hM,_⟩,hT⟩:=h
 refine⟨hM.ext,hT.1,r,fun t v hv=>hT.2 t _ hv,fun b x hb hn=>?_⟩
 obtain⟨k1,cs,ds,k2,k3,_⟩:=hM.blk b x (mb_at.2 hb)
 exact⟨⟨cs,ds,_,by rw[<- k2];exact k1,np_F hM.ext hn k3⟩,hM.lo b x (mb_at.2 hb)⟩
def pSp(s:Sp):List Pf:=[⟨s.x=s.x,rfl⟩,⟨s.y=s.y,rfl⟩,⟨s.dx=s.dx,rfl⟩,⟨s.dy=s.dy,rfl⟩,⟨s.p=s.p,rfl⟩,⟨s.q=s.q,rfl⟩,⟨s.len=s.len,rfl⟩]
def pRt(r:Rt):List Pf:=[⟨r.add=r.add,rfl⟩,⟨r.s=r.s,rfl⟩,⟨It.d (.num r.n)=It.d (.num r.n),rfl⟩,⟨It.d (.num r.d)=It.d (.num r.d),rfl⟩]
theorem r10(a:Act)(W:World)(x y:Ed)(P9 P10:Nat)(Q:Act->World->Prop)(hsz:a.tmps.size=94)(h9:a.tmps.getD 9 undef=ptrA P9)(h10:a.tmps.getD 10 undef=ptrA P10)(g9:FpAt W P9 (edI x))(g10:FpAt W P10 (edI y))
  (hQ:∀a' W',a'.tmps.size=94->a'.defers=a.defers->(∀t,offT (gR 10) t=true->a'.tmps.getD t undef=a.tmps.getD t undef)->Ext W W'->(∃p q r,a'.tmps.getD 11 undef=ptrA p/\a'.tmps.getD 12 undef=ptrA q/\a'.tmps.getD 13 undef=ptrA r/\FpAt W' p (rtV (edgesR x y).d).l/\FpAt W' q (spV (edgesR x y).a).l/\FpAt W' r (spV (edgesR x y).b).l)->Q a' W'):WpS Tryz.prog (gR 10).toArray Q (gR 10) a W:=by
 refine runS_ok (X:=[]) (K:=[cEdges]) (n:=94) (d:=⟨[(9,.eq (fpV (edI x))),(10,.eq (fpV (edI y)))],[]⟩) (d':=⟨[(11,.eq (ptrN 0)),(12,.eq (ptrN 1)),(13,.eq (ptrN 2))],[some ⟨38,(rtV (edgesR x y).d).l⟩,some ⟨40,(spV (edgesR x y).a).l⟩,some ⟨40,(spV (edgesR x y).b).l⟩]⟩) (q:=[]) ([pR (ptrN 0),pR (ptrN 1),pR (ptrN 2)]++(pRt (edgesR x y).d++(pSp (edgesR x y).a++pSp (edgesR x y).b))) (by kernel_rfl) (old_J hsz fun z hz=>?_) fun a' W1 hJ hoff=>?_
 ·simp only [List.mem_cons, List.not_mem_nil, or_false] at hz
  rcases hz with rfl|rfl
  ·rw[h9];exact g9.rv
  ·rw[h10];exact g10.rv
 ·obtain ⟨h1, h2, r, h3, h4⟩ := blk_at hJ
  have pt:∀t b,(mkS 94 ⟨[(11,.eq (ptrN 0)),(12,.eq (ptrN 1)),(13,.eq (ptrN 2))],[some ⟨38,(rtV (edgesR x y).d).l⟩,some ⟨40,(spV (edgesR x y).a).l⟩,some ⟨40,(spV (edgesR x y).b).l⟩]⟩).t.get t=some (.one (ptrN b))->a'.tmps.getD t undef=ptrA (r b):=fun t b h=>(List.cons.inj (h3 t (ptrN b) h).scal.2).1
  exact hQ _ _ h2 rfl hoff h1 ⟨r 0,r 1,r 2,pt 11 0 (by kernel_rfl),pt 12 1 (by kernel_rfl),pt 13 2 (by kernel_rfl),(h4 0 _ rfl (by kernel_rfl)).1,(h4 1 _ rfl (by kernel_rfl)).1,(h4 2 _ rfl (by kernel_rfl)).1⟩
end

set_option maxRecDepth 100000
section
def gpI(p:Pr):List It:=.b false::([.i p.d.add lim,.i p.d.s lim,.o (.num p.d.n),.o (.num p.d.d)]++((spV p.a).l++(spV p.b).l))
theorem rl_onum{V W:World}{r:Nat->Nat}{k:Nat}{x:Nm}{l:List It}{cs:List Value}:RepL V W r k (.o (.num x)::l) cs <-> ∃n p m c,NR V n p m c x/\∃d,cs=.bool n::.slice p m c::d/\RepL V W r k l d :=
 ⟨fun ⟨c,d,e,⟨n,p,m,c',h1,h2⟩,h3⟩=>⟨n,p,m,c',h2,d,by rw[e,h1];rfl,h3⟩,fun ⟨n,p,m,c',h,d,e,h3⟩=>⟨[_,_],d,e,⟨n,p,m,c',rfl,h⟩,h3⟩⟩
theorem gpC_of{V W:World}{r:Nat->Nat}{k:Nat}{p:Pr}{cs:List Value}(h:RepL V W r k (gpI p) cs):GpC V p.gp cs:=by
 simp only[gpI,spV,List.cons_append,List.nil_append,rl_b,rl_i,rl_onum,rl_nil] at h
 obtain⟨_,rfl,⟨_,i1⟩,_,rfl,⟨_,i2⟩,_,rfl,n,p',l,c,h1,_,rfl,m,q,k',d,h2,_,rfl,⟨_,j1⟩,_,rfl,⟨_,j2⟩,_,rfl,⟨_,j3⟩,_,rfl,⟨_,j4⟩,_,rfl,⟨_,j5⟩,_,rfl,⟨_,j6⟩,_,rfl,⟨_,j7⟩,_,rfl,⟨_,k1⟩,_,rfl,⟨_,k2⟩,_,rfl,⟨_,k3⟩,_,rfl,⟨_,k4⟩,_,rfl,⟨_,k5⟩,_,rfl,⟨_,k6⟩,_,rfl,⟨_,k7⟩,_,rfl,rfl⟩:=h
 exact⟨n,p',l,c,m,q,k',d,rfl,h1,h2,⟨i1,i2⟩,⟨j1,j2,j3,j4,j5,j6,j7⟩,k1,k2,k3,k4,k5,k6,k7⟩
theorem put_lt{a:Act}{d:Nat}{v:Value}(h:d<a.tmps.size):(a.put (some d) v).tmps.getD d undef=v:=by simp[Act.put,h]
def kpF(Bs Bl:Nat):Value:=.func (.func 88) #[] #[ptrA Bs,ptrA Bl]
theorem r11(a:Act)(W:World)(p:Pr)(h:Gp)(sm:Bool)(B7 Bs Bl P11 P12 P13:Nat)(Q:Act->World->Prop)(hsz:a.tmps.size=94)(h7:a.tmps.getD 7 undef=ptrA B7)(h11:a.tmps.getD 11 undef=ptrA P11)(h12:a.tmps.getD 12 undef=ptrA P12)(h13:a.tmps.getD 13 undef=ptrA P13)
  (g7:W.heap[B7]? = some (.cells #[kpF Bs Bl] 85)) (g11:FpAt W P11 (rtV p.d).l) (g12:FpAt W P12 (spV p.a).l) (g13:FpAt W P13 (spV p.b).l) (hs:W.heap[Bs]? = some (.cells #[.bool sm] 4)) (hl:GpAt W Bl h) (hne:Bs≠Bl)
  (hQ:∀a' W1 W',a'.defers=a.defers->Ext W W1->But2 Bs Bl W1 W'->W'.heap[Bs]? = some (.cells #[.bool true] 4)->GpAt W' Bl (if (!sm||decide (cmpRt p.d h.d<0))=true then p.gp else h)->Q a' W'):WpS Tryz.prog (gR 11).toArray Q (gR 11) a W:=by
 have es:gR 11=gO 11 0::(((gR 11).drop 1).take 4++[gO 11 5]):=by kernel_rfl
 have d0:(gO 11 0).dst=some 57:=by kernel_rfl
 have d5:(gO 11 5).dst=some 62:=by kernel_rfl
 rw[show WpS Tryz.prog (gR 11).toArray Q (gR 11) a W=WpS Tryz.prog (gR 11).toArray Q (gO 11 0::(((gR 11).drop 1).take 4++[gO 11 5])) a W by rw[<- es]]
 refine wpS_val (x:=kpF Bs Bl) (W:=W) (by kernel_rfl) ?_ ?_
 ·have := ex_load (P := Tryz.prog) (o := gO 11 0) (a := a) (w := W) (t := 85) (x := .tmp 7) (j := 0) (n := 1) (b := false) (cs := [kpF Bs Bl]) (by kernel_rfl) h7 g7 (by kernel_rfl) (by kernel_rfl) (by simp) (fun _ => rfl)
  exact this
 rw[d0]
 have hsz1:(a.put (some 57) (kpF Bs Bl)).tmps.size=94:=by simp[Act.put,hsz]
 have e57:(a.put (some 57) (kpF Bs Bl)).tmps.getD 57 undef=kpF Bs Bl:=put_lt (by rw[hsz];decide)
 have off57:∀t,t≠57->(a.put (some 57) (kpF Bs Bl)).tmps.getD t undef=a.tmps.getD t undef:=fun t ht=>by simp[Act.put,Array.getElem?_setIfInBounds,Ne.symm ht]
 refine wpS_app ?_
 refine runS_ok (X:=[]) (K:=[]) (n:=94) (d:=⟨[(11,.eq (fpV (rtV p.d).l)),(12,.eq (fpV (spV p.a).l)),(13,.eq (fpV (spV p.b).l))],[]⟩) (d':=⟨[(61,.eq ⟨true,gpI p⟩)],[]⟩) (q:=[]) [pR ⟨true,gpI p⟩] (by kernel_rfl) (old_J hsz1 fun z hz=>?_) fun a' W1 hJ hoff=>?_
 ·simp only [List.mem_cons, List.not_mem_nil, or_false] at hz
  rcases hz with rfl|rfl|rfl
  ·rw[off57 11 (by decide),h11];exact g11.rv
  ·rw[off57 12 (by decide),h12];exact g12.rv
  ·rw[off57 13 (by decide),h13];exact g13.rv
 ·obtain ⟨h1, h2, r, h3⟩ := J_at hJ
  obtain⟨ys,hy,e61⟩:=rv_t.1 (h3 61 ⟨true,gpI p⟩ (by kernel_rfl))
  have f57:a'.tmps.getD 57 undef=kpF Bs Bl:=by rw[hoff 57 (by kernel_rfl)];exact e57
  have en:(execOp (dfA (a.put (some 57) (kpF Bs Bl)).defers a').eval (gO 11 5)).run Tryz.prog W1=.ok (.enter 88 (#[.agg ys.toArray]++#[ptrA Bs,ptrA Bl])) W1:=by
   have:=run_enter (P:=Tryz.prog) (o:=gO 11 5) (a:=dfA (a.put (some 57) (kpF Bs Bl)).defers a') (f:=88) (x:=.tmp 57) (caps:=#[ptrA Bs,ptrA Bl]) (cl:={ callee:=.value (.tmp 57),args:=#[.tmp 61],argTypes:=#[42] }) prog_nm Tryz.func88 rfl (by kernel_rfl) rfl f57 W1
   rw[this]
   simp only[List.map_toArray,List.map_cons,List.map_nil]
   rw[show (dfA (a.put (some 57) (kpF Bs Bl)).defers a').eval (.tmp 61)=.agg ys.toArray from e61]
  refine wpS_call (by kernel_rfl) en (keep_gp Bs Bl p.gp h ys sm W1 (heap_ext hs h1) (hl.ext h1) hne ((gpC_of hy).ext h1)) (fun e W h=>h.1) fun v W' ⟨_,k2,k3,k4⟩=>?_
  exact hQ _ W1 W' (by rw[d5];rfl) h1 k2 k3 k4
end

set_option maxRecDepth 100000
section
def shL(s:Sh):List It:=(shpV s).l
def sumR(a b:Sh):Int:=IntKind.i64.wrap (IntKind.i64.wrap (0-a.r)-b.r)
def zrt(a b:Sh):Rt:=(ofP (sumR a b) 0 (ofZ 0) (ofZ 1)).1
def KOf:List Con:=[cNOf,cRtOf,cPlus]
theorem r13(a:Act)(W:World)(s u:Sh)(B2 B3:Nat)(Q:Exit->Act->World->Prop)(hsz:a.tmps.size=94)(h2:a.tmps.getD 2 undef=ptrA B2)(h3:a.tmps.getD 3 undef=ptrA B3)(g2:FpAt W B2 (shL s))(g3:FpAt W B3 (shL u))
  (hQ:∀a' W',a'.tmps.size=94->a'.defers=a.defers->(∀t,offT (gR 13) t=true->a'.tmps.getD t undef=a.tmps.getD t undef)->Ext W W'->(∃p,a'.tmps.getD 14 undef=ptrA p/\FpAt W' p (rtV (zrt s u)).l)->Q .normal a' W'):(Code.region 13 (gR 13).toArray true).wp Tryz.prog Q a W:=by
 refine regD_wp (X:=[]) (K:=KOf) (n:=94) (d:=⟨[(2,.eq (fpV (shL s))),(3,.eq (fpV (shL u)))],[]⟩) (d':=⟨[(14,.eq (ptrN 0))],[some ⟨38,(rtV (zrt s u)).l⟩]⟩) (q:=[]) ([pR (ptrN 0)]++pRt (zrt s u)) (by kernel_rfl) (old_J hsz fun z hz=>?_) fun a' W1 hJ hoff=>?_
 ·simp only [List.mem_cons, List.not_mem_nil, or_false] at hz
  rcases hz with rfl|rfl
  ·rw[h2];exact g2.rv
  ·rw[h3];exact g3.rv
 ·obtain ⟨h1, h2, r, h3, h4⟩ := blk_at hJ
  exact hQ _ _ h2 rfl hoff h1 ⟨r 0,(List.cons.inj (h3 14 (ptrN 0) (by kernel_rfl)).scal.2).1,(h4 0 _ rfl (by kernel_rfl)).1⟩
theorem ex_assign{P:Program}{o:Oper}{a:Act}{x:Operand}(ho:o.op=.assign x)(w:World):(execOp a.eval o).run P w=.ok (.value (a.eval x)) w:=by
 unfold execOp
 rw[ho]
 rfl
theorem ex_move{P:Program}{o:Oper}{a:Act}{x:Operand}(ho:o.op=.move x)(w:World):(execOp a.eval o).run P w=.ok (.value (a.eval x)) w:=by
 unfold execOp
 rw[ho]
 rfl
theorem GpC.one{W:World}{g:Gp}{cs:List Value}(h:GpC W g cs):cs.length=21/\∀v∈cs,v.oneCell'=true:=by
 obtain⟨n,p,l,c,m,q,k,d,rfl,_⟩:=h
 refine⟨rfl,fun v hv=>?_⟩
 simp only[List.mem_cons,List.not_mem_nil,or_false] at hv
 rcases hv with rfl|rfl|rfl|rfl|rfl|rfl|rfl|rfl|rfl|rfl|rfl|rfl|rfl|rfl|rfl|rfl|rfl|rfl|rfl|rfl|rfl<;>rfl
structure RtS (a a':Act) (W W':World) (B4:Nat) (b:Bool) (vs:List Value):Prop where
 df:a'.defers=a.defers
 t4:a'.tmps.getD 4 undef=ptrA B4
 t5:a'.tmps.getD 5 undef=.bool b
 on:OnlyB B4 W W'
 c:W'.heap[B4]? = some (.cells vs.toArray 42)
theorem tlG{ops:Array Oper}{o1 o2:Oper}(a:Act)(W:World)(t B4:Nat)(b:Bool)(vs:List Value)(Q:Act->World->Prop)(h1:o1.op=.store 42 (.tmp 4) (.tmp t))(h2:o2.op=.assign (.const (.bool b)))(d1:o1.dst=none)(d2:o2.dst=some 5)(g1:o1.guard=none)(g2:o2.guard=none)(hsz:a.tmps.size=94)
  (h4:a.tmps.getD 4 undef=ptrA B4) (ht:a.tmps.getD t undef=.agg vs.toArray) (hl:vs.length=21) (hv:∀v∈vs,v.oneCell'=true) (hB:W.heap[B4]? = some (.cells zGp.toArray 42)) (hQ:∀a' W',RtS a a' W W' B4 b vs->Q a' W'):WpS Tryz.prog ops Q [o1,o2] a W:=by
 obtain⟨k1,k2⟩:=onlyB_setRow (cs':=(zGp.take 0++(vs++zGp.drop (0+vs.length))).toArray) hB
 refine wpS_skip (W:=W.setRow B4 (zGp.take 0++(vs++zGp.drop (0+vs.length))).toArray) (by unfold Region.wanted;rw[g1]) ?_ ?_
 ·exact ex_store h1 h4 hB (by rw[show a.eval (.tmp t)=a.tmps.getD t undef from rfl,ht];rfl) (by kernel_rfl) hl (by rw[hl];decide) hv
 ·have e1 : a.put o1.dst undef = a := by rw [d1]; rfl
  rw[e1]
  refine wpS_val (by unfold Region.wanted;rw[g2]) (ex_assign h2 _) ?_
  rw[d2]
  refine hQ _ _ ⟨rfl,?_,put_lt (by rw[hsz];decide),k1,?_⟩
  ·simpa[Act.put,Array.getElem?_setIfInBounds] using h4
  ·rw [k2]
   simp only[List.take_zero,List.nil_append]
   rw[show zGp.drop (0+vs.length)=[] by rw[hl];rfl,List.append_nil]
def zSp:List It:=[.k 0,.k 0,.k 0,.k 0,.k 0,.k 0,.k 0]
def gpM(r:Rt):List It:=.b true::([.i r.add lim,.i r.s lim,.o (.num r.n),.o (.num r.d)]++(zSp++zSp))
theorem rl_k{V W:World}{r:Nat->Nat}{k:Nat}{n:Int}{l:List It}{cs:List Value}:RepL V W r k (.k n::l) cs <-> I64 n/\∃d,cs=.int .i64 n::d/\RepL V W r k l d :=
 ⟨fun ⟨c,d,e,⟨h1,h2⟩,h3⟩=>⟨h2,d,by rw[e,h1];rfl,h3⟩,fun ⟨h,d,e,h3⟩=>⟨[_],d,e,⟨rfl,h⟩,h3⟩⟩
theorem gpM_of{V W:World}{r:Nat->Nat}{k:Nat}{p:Rt}{cs:List Value}(h:RepL V W r k (gpM p) cs):GpC V ⟨true,p,Sp.no,Sp.no⟩ cs:=by
 simp only[gpM,zSp,List.cons_append,List.nil_append,rl_b,rl_i,rl_onum,rl_k,rl_nil] at h
 obtain⟨_,rfl,⟨_,i1⟩,_,rfl,⟨_,i2⟩,_,rfl,n,p',l,c,h1,_,rfl,m,q,k',d,h2,_,rfl,z,_,rfl,_,_,rfl,_,_,rfl,_,_,rfl,_,_,rfl,_,_,rfl,_,_,rfl,_,_,rfl,_,_,rfl,_,_,rfl,_,_,rfl,_,_,rfl,_,_,rfl,_,_,rfl,rfl⟩:=h
 exact⟨n,p',l,c,m,q,k',d,rfl,h1,h2,⟨i1,i2⟩,⟨z,z,z,z,z,z,z⟩,z,z,z,z,z,z,z⟩
theorem r14(a:Act)(W:World)(r:Rt)(B4 P14:Nat)(Q:Act->World->Prop)(hsz:a.tmps.size=94)(h4:a.tmps.getD 4 undef=ptrA B4)(h14:a.tmps.getD 14 undef=ptrA P14)(g14:FpAt W P14 (rtV r).l)(hB:W.heap[B4]? = some (.cells zGp.toArray 42))
  (hQ:∀a' W1 W' vs,Ext W W1->GpC W1 ⟨true,r,Sp.no,Sp.no⟩ vs->RtS a a' W1 W' B4 true vs->Q a' W'):WpS Tryz.prog (gR 14).toArray Q (gR 14) a W:=by
 have es:gR 14=((gR 14).take 2++[gO 14 2,gO 14 3]):=by kernel_rfl
 rw[show WpS Tryz.prog (gR 14).toArray Q (gR 14) a W=WpS Tryz.prog (gR 14).toArray Q ((gR 14).take 2++[gO 14 2,gO 14 3]) a W by rw[<- es]]
 refine wpS_app ?_
 refine runS_ok (X:=[]) (K:=[]) (n:=94) (d:=⟨[(14,.eq (fpV (rtV r).l))],[]⟩) (d':=⟨[(77,.eq ⟨true,gpM r⟩)],[]⟩) (q:=[]) [pR ⟨true,gpM r⟩] (by kernel_rfl) (old_J hsz fun z hz=>?_) fun a' W1 hJ hoff=>?_
 ·simp only [List.mem_cons, List.not_mem_nil, or_false] at hz
  subst hz
  rw[h14];exact g14.rv
 ·obtain ⟨h1, h2, r', h3⟩ := J_at hJ
  obtain⟨ys,hy,e⟩:=rv_t.1 (h3 77 ⟨true,gpM r⟩ (by kernel_rfl))
  have hg:=gpM_of hy
  exact tlG _ W1 77 B4 true ys Q (by kernel_rfl) (by kernel_rfl) (by kernel_rfl) (by kernel_rfl) (by kernel_rfl) (by kernel_rfl) h2 (by rw[show (dfA a.defers a').tmps.getD 4 undef=a'.tmps.getD 4 undef from rfl,hoff 4 (by kernel_rfl)];exact h4) e hg.one.1 hg.one.2 (heap_ext hB h1) fun a2 W' h=>hQ a2 W1 W' ys h1 (hg.ext h1) ⟨h.df,h.t4,h.t5,h.on,h.c⟩
end

set_option maxRecDepth 100000
section
def pGp(g:Gp):List Pf:=[⟨It.v (.bool g.m)=It.v (.bool g.m),rfl⟩]++(pRt g.d++(pSp g.a++pSp g.b))
def lsF(Bl:Nat):Value:=.func (.func 89) #[] #[ptrA Bl]
def dG(g:Gp)(s u:Sh):Ds:=⟨[(16,.eq (ptrN 0)),(2,.eq (fpV (shL s))),(3,.eq (fpV (shL u)))],[some ⟨42,gpL g⟩]⟩
theorem GpC.rep{W:World}{g:Gp}{cs:List Value}(h:GpC W g cs):RepF W (gpL g) cs:=by
 obtain⟨n,p,l,c,m,q,k,d,rfl,h1,h2,⟨i1,i2⟩,⟨j1,j2,j3,j4,j5,j6,j7⟩,k1,k2,k3,k4,k5,k6,k7⟩:=h
 exact⟨[_],_,rfl,⟨rfl,rfl⟩,[_],_,rfl,⟨rfl,lim64 i1⟩,[_],_,rfl,⟨rfl,lim64 i2⟩,[_,_],_,rfl,⟨_,_,_,_,rfl,h1⟩,[_,_],_,rfl,⟨_,_,_,_,rfl,h2⟩,[_],_,rfl,⟨rfl,lim64 j1⟩,[_],_,rfl,⟨rfl,lim64 j2⟩,[_],_,rfl,⟨rfl,lim64 j3⟩,[_],_,rfl,⟨rfl,lim64 j4⟩,[_],_,rfl,⟨rfl,lim64 j5⟩,[_],_,rfl,⟨rfl,lim64 j6⟩,[_],_,rfl,⟨rfl,lim64 j7⟩,[_],_,rfl,⟨rfl,lim64 k1⟩,[_],_,rfl,⟨rfl,lim64 k2⟩,[_],_,rfl,⟨rfl,lim64 k3⟩,[_],_,rfl,⟨rfl,lim64 k4⟩,[_],_,rfl,⟨rfl,lim64 k5⟩,[_],_,rfl,⟨rfl,lim64 k6⟩,[_],[],rfl,⟨rfl,lim64 k7⟩,rfl⟩
theorem gpC_ofL{V W:World}{r:Nat->Nat}{k:Nat}{g:Gp}{cs:List Value}(h:RepL V W r k (gpL g) cs):GpC W g cs:=by
 simp only[gpL,rtV,spV,List.cons_append,List.nil_append,rl_v,rl_i,rl_num,rl_nil] at h
 obtain⟨_,_,rfl,⟨_,i1⟩,_,rfl,⟨_,i2⟩,_,rfl,n,p',l,c,h1,_,rfl,m,q,k',d,h2,_,rfl,⟨_,j1⟩,_,rfl,⟨_,j2⟩,_,rfl,⟨_,j3⟩,_,rfl,⟨_,j4⟩,_,rfl,⟨_,j5⟩,_,rfl,⟨_,j6⟩,_,rfl,⟨_,j7⟩,_,rfl,⟨_,k1⟩,_,rfl,⟨_,k2⟩,_,rfl,⟨_,k3⟩,_,rfl,⟨_,k4⟩,_,rfl,⟨_,k5⟩,_,rfl,⟨_,k6⟩,_,rfl,⟨_,k7⟩,_,rfl,rfl⟩:=h
 exact⟨n,p',l,c,m,q,k',d,rfl,h1,h2,⟨i1,i2⟩,⟨j1,j2,j3,j4,j5,j6,j7⟩,k1,k2,k3,k4,k5,k6,k7⟩
theorem put_ne{a:Act}{d t:Nat}{v:Value}(h:d≠t):(a.put (some d) v).tmps.getD t undef=a.tmps.getD t undef:=by simp[Act.put,Array.getElem?_setIfInBounds,h]
theorem r15(a:Act)(W:World)(g:Gp)(s u:Sh)(B2 B3 Bl:Nat)(Q:Act->World->Prop)(hsz:a.tmps.size=94)(h8:a.tmps.getD 8 undef=lsF Bl)(h2:a.tmps.getD 2 undef=ptrA B2)(h3:a.tmps.getD 3 undef=ptrA B3)(g2:FpAt W B2 (shL s))(g3:FpAt W B3 (shL u))(gl:GpAt W Bl g)
  (hQ:∀a' W1 W',Ext W W1->JJ W1 (mkS 94 (dG g s u)) a' W'->(∀t,offT (gR 15) t=true->a'.tmps.getD t undef=a.tmps.getD t undef)->Q (dfA a.defers a') W'):WpS Tryz.prog (gR 15).toArray Q (gR 15) a W:=by
 have es:gR 15=gO 15 0::gO 15 1::(gR 15).drop 2:=by kernel_rfl
 have d0:(gO 15 0).dst=some 78:=by kernel_rfl
 have d1:(gO 15 1).dst=some 79:=by kernel_rfl
 rw[show WpS Tryz.prog (gR 15).toArray Q (gR 15) a W=WpS Tryz.prog (gR 15).toArray Q (gO 15 0::gO 15 1::(gR 15).drop 2) a W by rw[<- es]]
 refine wpS_val (by kernel_rfl) (ex_move (x:=.tmp 8) (by kernel_rfl) W) ?_
 rw[d0,show a.eval (.tmp 8)=lsF Bl from h8]
 have e78:(a.put (some 78) (lsF Bl)).eval (.tmp 78)=lsF Bl:=put_lt (by rw[hsz];decide)
 have en:(execOp (a.put (some 78) (lsF Bl)).eval (gO 15 1)).run Tryz.prog W=.ok (.enter 89 (#[]++#[ptrA Bl])) W :=
  by simpa using run_enter (P:=Tryz.prog) (o:=gO 15 1) (a:=a.put (some 78) (lsF Bl)) (f:=89) (x:=.tmp 78) (caps:=#[ptrA Bl]) (cl:={ callee:=.value (.tmp 78),args:=#[],argTypes:=#[] }) prog_nm Tryz.func89 rfl (by kernel_rfl) rfl e78 W
 obtain⟨cs,hc,hg⟩:=gl
 refine wpS_call (by kernel_rfl) en (least_fok g W [ptrA Bl] (rvs_cons.2 ⟨_,(FpAt.of hc hg.rep).rv,_,rfl,rfl⟩)) (fun e W h=>by obtain⟨v,h,_⟩:=h;exact⟨v,h⟩) fun v W1 ⟨v',e,hv,hx⟩=>?_
 cases e
 rw[d1]
 refine runS_ok (X:=[]) (K:=[]) (n:=94) (d:=⟨[(79,.eq (gpV g)),(2,.eq (fpV (shL s))),(3,.eq (fpV (shL u)))],[]⟩) (d':=dG g s u) (q:=[]) ([pR (ptrN 0),pR (fpV (shL s)),pR (fpV (shL u))]++pGp g) (by kernel_rfl) (old_J (by simp[Act.put,hsz]) fun z hz=>?_) fun a' W2 hJ hoff=>?_
 ·simp only [List.mem_cons, List.not_mem_nil, or_false] at hz
  rcases hz with rfl|rfl|rfl
  ·rw[put_lt (by simp[Act.put,hsz])];exact hv
  ·rw[put_ne (show 79≠2 by decide),put_ne (show 78≠2 by decide),h2];exact (g2.ext hx).rv
  ·rw[put_ne (show 79≠3 by decide),put_ne (show 78≠3 by decide),h3];exact (g3.ext hx).rv
 ·refine hQ _ W1 _ hx hJ fun t ht => ?_
  rw[es] at ht
  have n0:78≠t:=fun e=>by subst e;revert ht;unfold offT;rw[List.all_cons,d0];simp
  have n1:79≠t:=fun e=>by subst e;revert ht;unfold offT;rw[List.all_cons,List.all_cons,d1];simp
  rw[hoff t (by unfold offT at *;rw[List.all_cons,List.all_cons,Bool.and_eq_true,Bool.and_eq_true] at ht;exact ht.2.2),put_ne n1,put_ne n0]
theorem r16(a:Act)(V W:World)(g:Gp)(s u:Sh)(Q:Act->World->Prop)(hJ:JJ V (mkS 94 (dG g s u)) (dfA [] a) W)
  (hQ:∀a' W',JJ V (mkS 94 (dG { g with d:=(plusR g.d (sumR s u)).1 } s u)) a' W'->(∀t,offT (gR 16) t=true->a'.tmps.getD t undef=a.tmps.getD t undef)->Q (dfA a.defers a') W'):WpS Tryz.prog (gR 16).toArray Q (gR 16) a W :=
 runS_ok (X:=[]) (K:=KOf) (n:=94) (d:=dG g s u) (d':=dG { g with d:=(plusR g.d (sumR s u)).1 } s u) (q:=[]) ([pR (ptrN 0),pR (fpV (shL s)),pR (fpV (shL u))]++pGp { g with d:=(plusR g.d (sumR s u)).1 }) (by kernel_rfl) hJ hQ
theorem r17(a:Act)(V W:World)(g:Gp)(s u:Sh)(B4:Nat)(Q:Act->World->Prop)(hJ:JJ V (mkS 94 (dG g s u)) (dfA [] a) W)(h4:a.tmps.getD 4 undef=ptrA B4)(hB:V.heap[B4]? = some (.cells zGp.toArray 42))
  (hQ:∀a' W1 W' vs,Ext V W1->GpC W1 g vs->RtS a a' W1 W' B4 true vs->Q a' W'):WpS Tryz.prog (gR 17).toArray Q (gR 17) a W:=by
 have es:gR 17=((gR 17).take 1++[gO 17 1,gO 17 2]):=by kernel_rfl
 rw[show WpS Tryz.prog (gR 17).toArray Q (gR 17) a W=WpS Tryz.prog (gR 17).toArray Q ((gR 17).take 1++[gO 17 1,gO 17 2]) a W by rw[<- es]]
 refine wpS_app ?_
 refine runS_ok (X:=[]) (K:=[]) (n:=94) (d:=dG g s u) (d':=⟨[(93,.eq (gpV g))],[]⟩) (q:=[]) [pR (gpV g)] (by kernel_rfl) hJ fun a' W1 hJ' hoff=>?_
 obtain⟨h1,h2,r',h3⟩:=J_at hJ'
 obtain⟨ys,hy,e⟩:=rv_t.1 (h3 93 (gpV g) (by kernel_rfl))
 have hg:GpC W1 g ys:=gpC_ofL hy
 exact tlG _ W1 93 B4 true ys Q (by kernel_rfl) (by kernel_rfl) (by kernel_rfl) (by kernel_rfl) (by kernel_rfl) (by kernel_rfl) h2 (by rw[show (dfA a.defers a').tmps.getD 4 undef=a'.tmps.getD 4 undef from rfl,hoff 4 (by kernel_rfl)];exact h4) e hg.one.1 hg.one.2 (heap_ext hB h1) fun a2 W' h=>hQ a2 W1 W' ys h1 hg ⟨h.df,h.t4,h.t5,h.on,h.c⟩
end

set_option maxHeartbeats 4000000
set_option maxRecDepth 100000
section
open Go.RowKit Go.Shelf
attribute [local go_sem] Oper.semAt_some
attribute [local go_sem] Gives givesU
def cnd(a b:Sh)(i:Nat):Pr:=edgesR (a.e (i/b.n)) (b.e (i%b.n))
def sep(a b:Sh)(i:Nat):Bool:=countE (a.e (i/b.n)) (b.e (i%b.n))==0
def metR(a b:Sh):Gp:=⟨true,zrt a b,Sp.no,Sp.no⟩
def metB(a b:Sh):Bool:=aroB a b||aroB b a || !allB (sep a b) (a.n*b.n)
def ofQ(a b:Sh):Gp×Bool :=
 if chkS a≠0\/chkS b≠0 then (Gp.no,false)
 else if metB a b=true then (metR a b,true)
 else ({ gapK (cnd a b) (a.n*b.n) with d:=(plusR (gapK (cnd a b) (a.n*b.n)).d (sumR a b)).1 },true)
structure ShAt (W:World) (s:Sh) (p:Option Addr) (c:Nat):Prop where
 k:I64 s.k
 r:I64 s.r
 le:s.n<=c
 mx:c<=maxLen
 row:RowC (RepF W) W 7 s.n (fun i=>edI (s.e i)) (.slice p s.n c)
theorem ShAt.ext{W W':World}{s:Sh}{p:Option Addr}{c:Nat}(h:ShAt W s p c)(hx:Ext W W'):ShAt W' s p c:=⟨h.k,h.r,h.le,h.mx,h.row.imp hx fun _ _ h=>h.ext hx⟩
theorem ShAt.rep{W:World}{s:Sh}{p:Option Addr}{c:Nat}(h:ShAt W s p c):RepV W W (fun _=>0) 0 (shpV s) (.agg #[.int .i64 s.k,.slice p s.n c,.int .i64 s.r]) :=
 ⟨_,⟨[_],_,rfl,⟨rfl,i64_lim h.k,h.k⟩,[_],_,rfl,⟨_,rfl,h.row⟩,[_],[],rfl,⟨rfl,i64_lim h.r,h.r⟩,rfl⟩,rfl,nofun⟩
theorem ShAt.of{W:World}{s:Sh}{v:Value}(h:RepV W W (fun _=>0) 0 (shpV s) v):∃p c,v=.agg #[.int .i64 s.k,.slice p s.n c,.int .i64 s.r]/\ShAt W s p c:=by
 obtain⟨cs,⟨_,_,rfl,⟨rfl,_,ik⟩,_,_,rfl,⟨v,rfl,hro⟩,_,_,rfl,⟨rfl,_,ir⟩,rfl⟩,rfl,_⟩:=h
 obtain⟨p,c,rfl,h1,h2,h3⟩:=id hro
 exact⟨p,c,rfl,ik,ir,h1,h2,hro⟩
theorem ShAt.edr{W:World}{s:Sh}{p:Option Addr}{c:Nat}(h:ShAt W s p c):EdRow W.heap.size W p s.n s.e:=by
 obtain⟨p',c',e,_,_,hR⟩:=ro_row (V:=W) (W:=W) (r:=fun _=>0) (k:=0) ⟨_,rfl,h.row⟩
 cases e
 exact hR
theorem rightC'(s:Sh){W0:World}{p:Option Addr}{c:Nat}(h:ShAt W0 s p c)(W:World)(hW:Ext W0 W):Calls Tryz.prog 46 #[.agg #[.int .i64 s.k,.slice p s.n c,.int .i64 s.r]] W fun e W'=>e=.returned (.bool (chkS s==0))/\Ext W W' :=
 (right_fok s W _ (rvs_cons.2 ⟨_,(h.ext hW).rep,_,rfl,rfl⟩)).mono fun _ _ ⟨_,e,hv,hx⟩=>⟨by rw[e,(rv_v.1 hv).2],hx⟩
theorem aroundC(a b:Sh){W0:World}{p q:Option Addr}{c d:Nat}(h:ShAt W0 a p c)(g:ShAt W0 b q d)(ha:a.n<=1000)(hb:0<b.n)(W:World)(hW:Ext W0 W):Calls Tryz.prog 47 #[.agg #[.int .i64 a.k,.slice p a.n c,.int .i64 a.r],.agg #[.int .i64 b.k,.slice q b.n d,.int .i64 b.r]] W fun e W'=>e=.returned (.bool (aroB a b))/\Ext W W' :=
 (around_fok a b ha hb W _ (rvs_cons.2 ⟨_,(h.ext hW).rep,_,rfl,rvs_cons.2 ⟨_,(g.ext hW).rep,_,rfl,rfl⟩⟩)).mono fun _ _ ⟨_,e,hv,hx⟩=>⟨by rw[e,(rv_v.1 hv).2],hx⟩
abbrev ofV(g:Gp×Bool):AV:=.tup [gpV g.1,blV g.2]
theorem wp_as{c c':Code}{Q:Exit->Act->World->Prop}{a:Act}{w:World}(e:c=c')(h:c'.wp Tryz.prog Q a w):c.wp Tryz.prog Q a w:=e ▸ h
theorem zGpC(W:World):GpC W Gp.no zGp:=by
 have z:I64 0:=by unfold I64;omega
 have r:∀W,NR W false none 0 0 zero:=fun W=>⟨rfl,rfl,Nat.le_refl _,Nat.zero_le _,(fun _ h=>nomatch h),fun h=>absurd h (Nat.lt_irrefl _)⟩
 exact⟨_,_,_,_,_,_,_,_,rfl,r W,r W,⟨z,z⟩,⟨z,z,z,z,z,z,z⟩,z,z,z,z,z,z,z⟩
theorem r2(a:Act)(W:World)(B4:Nat)(Q:Act->World->Prop)(hsz:a.tmps.size=94)(h4:a.tmps.getD 4 undef=ptrA B4)(hB:W.heap[B4]? = some (.cells zGp.toArray 42))(hQ:∀a' W',RtS a a' W W' B4 false zGp->Q a' W'):WpS Tryz.prog (gR 2).toArray Q (gR 2) a W:=by
 have es:gR 2=[gO 2 0,gO 2 1,gO 2 2]:=by kernel_rfl
 have d0:(gO 2 0).dst=some 25:=by kernel_rfl
 rw[show WpS Tryz.prog (gR 2).toArray Q (gR 2) a W=WpS Tryz.prog (gR 2).toArray Q [gO 2 0,gO 2 1,gO 2 2] a W by rw[<- es]]
 refine wpS_val (x:=.agg zGp.toArray) (W:=W) (by kernel_rfl) (by kernel_rfl) ?_
 rw[d0]
 exact tlG _ W 25 B4 false zGp Q (by kernel_rfl) (by kernel_rfl) (by kernel_rfl) (by kernel_rfl) (by kernel_rfl) (by kernel_rfl) (by simp[Act.put,hsz]) (by rw[put_ne (by decide)];exact h4) (put_lt (by rw[hsz];decide)) rfl (zGpC W).one.2 hB fun a2 W' h=>hQ a2 W' ⟨h.df,h.t4,h.t5,h.on,h.c⟩
theorem gp_val{W:World}{g:Gp}{cs:List Value}(h:GpC W g cs):RepV W W (fun _=>0) 0 (gpV g) (.agg cs.toArray):=by
 obtain⟨n,p,l,c,m,q,k,d,rfl,h1,h2,⟨i1,i2⟩,⟨j1,j2,j3,j4,j5,j6,j7⟩,k1,k2,k3,k4,k5,k6,k7⟩:=h
 exact⟨_,⟨[_],_,rfl,⟨rfl,rfl⟩,[_],_,rfl,⟨rfl,lim64 i1⟩,[_],_,rfl,⟨rfl,lim64 i2⟩,[_,_],_,rfl,⟨_,_,_,_,rfl,h1⟩,[_,_],_,rfl,⟨_,_,_,_,rfl,h2⟩,[_],_,rfl,⟨rfl,lim64 j1⟩,[_],_,rfl,⟨rfl,lim64 j2⟩,[_],_,rfl,⟨rfl,lim64 j3⟩,[_],_,rfl,⟨rfl,lim64 j4⟩,[_],_,rfl,⟨rfl,lim64 j5⟩,[_],_,rfl,⟨rfl,lim64 j6⟩,[_],_,rfl,⟨rfl,lim64 j7⟩,[_],_,rfl,⟨rfl,lim64 k1⟩,[_],_,rfl,⟨rfl,lim64 k2⟩,[_],_,rfl,⟨rfl,lim64 k3⟩,[_],_,rfl,⟨rfl,lim64 k4⟩,[_],_,rfl,⟨rfl,lim64 k5⟩,[_],_,rfl,⟨rfl,lim64 k6⟩,[_],[],rfl,⟨rfl,lim64 k7⟩,rfl⟩,rfl,nofun⟩
theorem gapRes{tm:Array Value}{W:World}{B4:Nat}{b:Bool}{vs:List Value}(h4:tm.getD 4 undef=ptrA B4)(h5:tm.getD 5 undef=.bool b)(hg:W.heap[B4]? = some (.cells vs.toArray 42))(hl:vs.length=21):(results Tryz.f14 tm).run Tryz.prog W=.ok (.tuple #[.agg vs.toArray,.bool b]) W:=by
 have hR:Tryz.f14.results=#[.cell 4 42,.tmp 5]:=by kernel_rfl
 have h2:([ResultVar.cell 4 42,.tmp 5].mapM (rvM ⟨tm,[]⟩)).run Tryz.prog W=.ok [.agg vs.toArray,.bool b] W:=by
  have e:(loadVar 42 ⟨B4,0,none⟩).run Tryz.prog W=.ok (cellsV true ((vs.drop 0).take 21)) W:=run_loadVarT hg (by kernel_rfl) (by kernel_rfl) (by omega) nofun
  have e2:cellsV true ((vs.drop 0).take 21)=.agg vs.toArray:=by rw[List.drop_zero,List.take_of_length_le (by omega)];rfl
  rw[e2] at e
  simp only[List.mapM_cons,List.mapM_nil,rvM,Sem.run_bind,h4,h5,ptrA,asAddr,Sem.run_pure,Result.andThen_ok,e]
 show (results Tryz.f14 (⟨tm,[]⟩:Act).tmps).run Tryz.prog W=_
 rw[results_eq,hR,Sem.run_bind,Array.mapM_eq_mapM_toList,Sem.run_map]
 rw[show (#[ResultVar.cell 4 42,.tmp 5]:Array ResultVar).toList=[ResultVar.cell 4 42,.tmp 5] from rfl,h2]
 rfl
def OfPost(w:World)(g:Gp)(b:Bool)(e:Ending)(w':World):Prop:=∃v,e=.returned v/\RepA w' w' (fun _=>0) 0 (ofV (g,b)) v/\Ext w w'
theorem gapVal{W:World}{g:Gp}{b:Bool}{vs:List Value}(h:GpC W g vs):RepA W W (fun _=>0) 0 (ofV (g,b)) (.tuple #[.agg vs.toArray,.bool b]) :=
 ⟨[_,_],rfl,rvs_cons.2 ⟨_,gp_val h,_,rfl,rvs_cons.2 ⟨_,rv_v.2 ⟨rfl,rfl⟩,_,rfl,rfl⟩⟩⟩
theorem gapOf_no(a b:Sh)(h:chkS a≠0\/chkS b≠0):Fok Tryz.prog 14 [shpV a,shpV b] (ofV (Gp.no,false)):=by
 intro w vals hv
 obtain⟨va,ha,_,rfl,hv1⟩:=rvs_cons.1 hv
 obtain⟨vb,hb,_,rfl,hv2⟩:=rvs_cons.1 hv1
 cases hv2
 obtain⟨p,c,rfl,Ha⟩:=ShAt.of ha
 obtain⟨q,d,rfl,Hb⟩:=ShAt.of hb
 have C1:=Lib.hid (rightC' a Ha)
 have C2:=Lib.hid (rightC' b Hb)
 clear ha hb hv hv1 Ha Hb
 have z0:∀w:World,(w.alloc (.cells zGp.toArray 42)).heap[w.heap.size]? = some (.cells zGp.toArray 42):=fun w=>World.alloc_heap_new _ _
 have hx0:Ext w (((w.alloc (.cells #[.int .i64 a.k,.slice p a.n c,.int .i64 a.r] 24)).alloc (.cells #[.int .i64 b.k,.slice q b.n d,.int .i64 b.r] 24)).alloc (.cells zGp.toArray 42)):=bxx
 have X0:=Lib.hid hx0
 have Z0:=Lib.hid (show (((w.alloc (.cells #[.int .i64 a.k,.slice p a.n c,.int .i64 a.r] 24)).alloc (.cells #[.int .i64 b.k,.slice q b.n d,.int .i64 b.r] 24)).alloc (.cells zGp.toArray 42)).heap[w.heap.size+1+1]? = some (.cells zGp.toArray 42) by have:=z0 ((w.alloc (.cells #[.int .i64 a.k,.slice p a.n c,.int .i64 a.r] 24)).alloc (.cells #[.int .i64 b.k,.slice q b.n d,.int .i64 b.r] 24));simpa using this)
 clear hx0 z0
 have fin:∀(a':Act) (W W':World),Ext w W->W.heap.size<=W'.heap.size->RtS ⟨a'.tmps,[]⟩ a' W W' (w.heap.size+1+1) false zGp->bodyPost Tryz.prog Tryz.f14 (OfPost w Gp.no false) .ret a' W':=fun a' W W' hx _ ⟨h1,h2,h3,h4,h5⟩ =>
  bodyPost_ret (gapRes h2 h3 h5 rfl) h1 ⟨_,rfl,gapVal (zGpC W'),hx.trans (h4.below (by omega))⟩
 have FIN:=Lib.hid fin
 clear fin
 by_cases h1:chkS a=0
 ·have h2 : chkS b ≠ 0 := h.resolve_left (fun g => g h1)
  have b1:(chkS a==0)=true:=by simpa using h1
  have b2:(chkS b==0)=false:=by simpa using h2
  clear h h1 h2
  go_enter Tryz.func14,Tryz.ntmps14
  go_wp2_with fail
  go_step3
  go_wp2_with fail
  refine (C1.out _ X0.out).mono ?_
  rintro e W1 ⟨rfl,hx1⟩
  rw[b1]
  have x1:=Ext.step X0.out hx1
  have z1:=heap_ext Z0.out hx1
  have hk:W1.cell? ⟨w.heap.size+1,0,none⟩=some (.int .i64 b.k)/\W1.cell? ⟨w.heap.size+1,1,none⟩=some (.slice q b.n d)/\W1.cell? ⟨w.heap.size+1,2,none⟩=some (.int .i64 b.r):=by
   refine⟨(hx1.cell (p:=⟨_,0,none⟩) (by simp)).trans (by go_simp),(hx1.cell (p:=⟨_,1,none⟩) (by simp)).trans (by go_simp),(hx1.cell (p:=⟨_,2,none⟩) (by simp)).trans (by go_simp)⟩
  obtain⟨k0,k1,k2⟩:=hk
  have XX:=Lib.hid x1
  have Tryz1:=Lib.hid z1
  clear hx1 x1 z1
  go_wp2_with fail
  refine (C2.out _ XX.out).mono ?_
  rintro e W2 ⟨rfl,hx2⟩
  rw[b2]
  have x2:=Lib.hid (Ext.step XX.out hx2)
  have z2:=Lib.hid (heap_ext Tryz1.out hx2)
  clear hx2 k0 k1 k2
  go_upto_region 2 with (fail)
  refine wp_as (c':=Code.region 2 (gR 2).toArray false) (by kernel_rfl) ?_
  refine wp_region_lit (WpS.wp ?_)
  refine r2 _ _ (w.heap.size+1+1) _ (by rfl) (by rfl) z2.out ?_
  rintro⟨tm,df⟩ W' ⟨h1,h2,h3,h4,h5⟩
  obtain rfl:df=[]:=h1
  go_wp2_with fail
  all_goals exact FIN.out _ W2 W' x2.out (by rw[h4.size];exact Nat.le_refl _) ⟨rfl,h2,h3,h4,h5⟩
 ·have b1 : (chkS a == 0) = false := by simpa using h1
  clear h h1 C2
  go_enter Tryz.func14,Tryz.ntmps14
  go_wp2_with fail
  go_step3
  go_wp2_with fail
  refine (C1.out _ X0.out).mono ?_
  rintro e W1 ⟨rfl,hx1⟩
  rw[b1]
  have x2:=Lib.hid (Ext.step X0.out hx1)
  have z2:=Lib.hid (heap_ext Z0.out hx1)
  clear hx1
  go_upto_region 2 with (fail)
  refine wp_as (c':=Code.region 2 (gR 2).toArray false) (by kernel_rfl) ?_
  refine wp_region_lit (WpS.wp ?_)
  refine r2 _ _ (w.heap.size+1+1) _ (by rfl) (by rfl) z2.out ?_
  rintro⟨tm,df⟩ W' ⟨h1,h2,h3,h4,h5⟩
  obtain rfl:df=[]:=h1
  go_wp2_with fail
  all_goals exact FIN.out _ W1 W' x2.out (by rw[h4.size];exact Nat.le_refl _) ⟨rfl,h2,h3,h4,h5⟩
end
end Go.Proofs.YtceemiodpccbhaaGreat
