import Derived.Test.YtghemgdfmldoeaaGreatP11
import Derived.LoopN
set_option linter.unusedVariables false
set_option linter.unusedSimpArgs false
namespace Go.Proofs.YtghemgdfmldoeaaGreat
open Go.RowKit
section
section
variable {P:Program} {E:Env} {call:gw}
def Ex.go:Ex->Exit
 | .nm=>.normal|.rt=>.ret|.ex k=>.exit k
def JJ(V:World)(s:St)(a:Act)(W:World):Prop:=∃r cm,J V r cm s a W
def JR(m0:List (Option Mb))(r0:Nat->Nat)(cm0:Nat->List Value)(V:World)(s:St)(a:Act)(W:World):Prop:=∃r cm,Ag m0 r0 cm0 s.m r cm/\J V r cm s a W
theorem a0D{l:List Oper}(h:Ig l=true):l=[]\/∃o t x y,l=[o]/\o.op=.store t x y:=by
 unfold Ig at h;split at h
 ·exact .inl rfl
 ·rename_i o;split at h
  ·rename_i t x y ho;exact .inr ⟨o,t,x,y,rfl,ho⟩
  ·cases h
 ·cases h
theorem a3R{ops:Array Oper}{o:Oper}(h:pn ops o=true):av o=0:=by
 unfold pn at h;split at h
 ·rename_i ho;simp[av,ho]
 ·cases h
theorem iv{m0:List (Option Mb)}{r0:Nat->Nat}{cm0:Nat->List Value}(hs:iP P E call):∀ {c:Code} {V:World} {s s':St} {q q':List Bool} {e:Ex} {ps:List Prop} {a:Act} {w:World} {Q:Exit->Act->World->Prop},dM P E call c s q=some (e,s',ps,q')->aw ps->JR m0 r0 cm0 V s a w ->
  (∀a' W,JR m0 r0 cm0 V s' a' W->Q e.go a' W)->c.wp P Q a w
 | .skip,V,s,s',q,q',e,ps,a,w,Q,h,hp,hJ,hQ=>by
  unfold dM at h;cases h;exact wp_skip (hQ _ _ hJ)
 | .label _,V,s,s',q,q',e,ps,a,w,Q,h,hp,hJ,hQ=>by
  unfold dM at h;cases h;exact wp_label (hQ _ _ hJ)
 | .ret,V,s,s',q,q',e,ps,a,w,Q,h,hp,hJ,hQ=>by
  unfold dM at h;cases h;exact wp_ret (hQ _ _ hJ)
 | .exit k,V,s,s',q,q',e,ps,a,w,Q,h,hp,hJ,hQ=>by
  unfold dM at h;cases h;exact wp_exit (hQ _ _ hJ)
 | .seq x y,V,s,s',q,q',e,ps,a,w,Q,h,hp,hJ,hQ=>by
  unfold dM at h;refine wp_seq ?_;split at h
  ·cases h
  ·rename_i s1 ps1 q1 h1;cases h2:dM P E call y s1 q1 with
   | none=>simp[h2] at h
   | some z =>
    obtain⟨e2,s2,ps2,q2⟩:=z;simp only[h2,Option.map_some,Option.some.injEq,Prod.mk.injEq] at h;obtain⟨rfl,rfl,rfl,rfl⟩:=h;obtain⟨p1,p2⟩:=aw.app hp;exact iv hs h1 p1 hJ λa' W hW=>iv hs h2 p2 hW hQ
  ·rename_i hne;refine iv hs h hp hJ λa' W hW=>?_
   cases e with
   | nm=>exact absurd h (hne _ _ _)
   | rt=>exact hQ _ _ hW
   | ex k=>exact hQ _ _ hW
 | .cond c x y,V,s,s',q,q',e,ps,a,w,Q,h,hp,hJ,hQ=>by
  unfold dM at h;obtain⟨r,cm,hA,hj⟩:=hJ;split at h
  ·rename_i q1 hb;have hv:a.eval c=.bool true:=by simpa using (show [a.eval c]=[Value.bool true] from gU hj.2 hb)
   exact wp_cond_true hv (iv hs h hp ⟨r,cm,hA,hj⟩ hQ)
  ·rename_i q1 hb;have hv:a.eval c=.bool false:=by simpa using (show [a.eval c]=[Value.bool false] from gU hj.2 hb)
   exact wp_cond_false hv (iv hs h hp ⟨r,cm,hA,hj⟩ hQ)
  ·rename_i b q1 hb;have hv:a.eval c=.bool b:=by have:=(gU hj.2 hb).1;simpa using this
   cases h2:dM P E call x s q1 with
   | none=>simp[h2] at h
   | some z =>
    obtain⟨e2,s2,ps2,q2⟩:=z;simp only[h2,Option.map_some,Option.some.injEq,Prod.mk.injEq] at h;obtain⟨rfl,rfl,rfl,rfl⟩:=h;exact wp_cond_true (by rw[hv,hp.1]) (iv hs h2 hp.2 ⟨r,cm,hA,hj⟩ hQ)
  ·rename_i b q1 hb;have hv:a.eval c=.bool b:=by have:=(gU hj.2 hb).1;simpa using this
   cases h2:dM P E call y s q1 with
   | none=>simp[h2] at h
   | some z =>
    obtain⟨e2,s2,ps2,q2⟩:=z;simp only[h2,Option.map_some,Option.some.injEq,Prod.mk.injEq] at h;obtain⟨rfl,rfl,rfl,rfl⟩:=h;exact wp_cond_false (by rw[hv,hp.1]) (iv hs h2 hp.2 ⟨r,cm,hA,hj⟩ hQ)
  ·cases h
 | .block id c,V,s,s',q,q',e,ps,a,w,Q,h,hp,hJ,hQ=>by
  unfold dM at h;cases h2:dM P E call c s q with
  | none=>simp[h2] at h
  | some z =>
   obtain⟨e2,s2,ps2,q2⟩:=z;simp only[h2,Option.map_some,Option.some.injEq,Prod.mk.injEq] at h;obtain⟨rfl,rfl,rfl,rfl⟩:=h;refine wp_block (iv hs h2 hp hJ λa' W hW=>?_);have:=hQ a' W hW;cases e2 with
   | nm=>exact this
   | rt=>exact this
   | ex k =>
    simp only at this;show if k=id then Q .normal a' W else Q (.exit k) a' W
    split at this
    ·rw[if_pos (by assumption)];exact this
    ·rw[if_neg (by assumption)];exact this
 | .region id ops d,V,s,s',q,q',e,ps,a,w,Q,h,hp,hJ,hQ=>by
  unfold dM at h;obtain⟨r,cm,hA,hj⟩:=hJ;cases d with
  | false =>
   simp only at h;cases h2:ct P E call ops fE ops.toList { s with al:=0 } q with
   | none=>simp[h2] at h
   | some z =>
    obtain⟨s2,ob,q2⟩:=z;simp only[h2,Option.map_some,Option.some.injEq,Prod.mk.injEq] at h;obtain⟨rfl,rfl,rfl,rfl⟩:=h;have:=wp_region_lit (id:=id) (l:=ops.toList) (Fg (ops:=ops.toList.toArray) (Q:=Q) (s:={ s with al:=0 }) hs (by simpa using h2) hp hj λa' W r' cm' hB hJ=>hQ a' W ⟨r',cm',hA.trans hB,hJ⟩);simpa using this
  | true =>
   simp only at h;split at h
   ·rename_i hc1;split at h
    ·rename_i hc2;simp only[Bool.and_eq_true] at hc2;obtain⟨hc2,_⟩:=hc2;split at h
     ·rename_i hts;split at h
      ·rename_i s2 ob q2 h2;split at h
       ·rename_i hd;cases h3:ct P E call ops fE (ops.toList.drop (qg ops)) s2 q2 with
        | none=>simp[h3] at h
        | some z =>
         obtain⟨s3,ob3,q3⟩:=z;simp only[h3,Option.map_some,Option.some.injEq,Prod.mk.injEq] at h;obtain⟨rfl,rfl,rfl,rfl⟩:=h;obtain⟨p1,p2⟩:=aw.app hp;simp only[Bool.and_eq_true] at hts;obtain⟨ht1,ht2⟩:=hts;have hC:Cond V (dN { s with al:=1 }) r cm s.m ob.st (List.range w.heap.size) r cm s.m :=
          ⟨Nat.le_refl _,λ_ _=>rfl,λb x hb _=>⟨rfl,hb⟩,λ_ b hb=>List.mem_range.2 (hj.1.1.bd b hb),λg hg=>List.mem_range.2 (Nat.lt_of_lt_of_le hg hj.1.1.ext.size),λ_ _=>rfl⟩
         have hmono:dh (λW=>S0 V w.heap.size r cm s.m ob.st W/\J V r cm s a W/\w.heap.size<=W.heap.size):=λW W' hh hb=>⟨hC.s0 (s:=s) (J.mono _ _ hh.2.1 hb) (Nat.le_trans hh.2.2 hb.size),J.mono _ _ hh.2.1 hb,Nat.le_trans hh.2.2 hb.size⟩
         have:=UM (id:=id) (l:=ops.toList) (Q:=Q) (a:=a) (w:=w) (qg ops) (S0 V w.heap.size r cm s.m ob.st) (λW=>J V r cm s a W/\w.heap.size<=W.heap.size) hc1 (by simpa using hc2) (by simpa using ht2) ⟨hC.s0 (s:=s) hj (Nat.le_refl _),hj,Nat.le_refl _⟩ hmono (λW hW=>hW.1.2)
          (jy hs (qk := fE) (C := λl a own F => jg P ops.toList.toArray (S0 V w.heap.size r cm s.m ob.st) (λa w => Q .normal a w) (ops.toList.drop (qg ops)) l a own F) (λ_ _ _ _ _ _ h => h) (λ_ _ _ _ _ _ h => nomatch h) (ops := ops.toList.toArray) (s := { s with al := 1 }) (m0 := s.m) (X := ob.st) (by simpa using h2) p1 (show (1 : Nat) ≠ 0 by decide) (λb hb => hb) (λb hb => by
           have:=List.all_eq_true.1 hd b hb;simp only[Bool.and_eq_true,Bool.not_eq_true',List.contains_eq_mem,decide_eq_false_iff_not] at this;exact this) hC ⟨w,⟨hC.s0 (s:=s) hj (Nat.le_refl _),hj,Nat.le_refl _⟩⟩ (λW hW=>hW.2) (λa' own' F' r' cm' hB hex hF=>by
            show aG _ _ _ _ (ops.toList.drop (qg ops)) _ _ _;exact Ui (List.all_eq_true.1 ht1) (E:=E) (call:=call) (ops:=ops.toList.toArray) (by simpa using h3) p2 hex hF (λa2 W r2 cm2 hC hJ=>hQ a2 W ⟨r2,cm2,hA.trans (hB.trans hC),hJ⟩)))
         simpa using this
       ·cases h
      ·cases h
     split at h
     ·rename_i s2 ob q2 h2;split at h
      ·rename_i hd;simp only[Option.some.injEq,Prod.mk.injEq] at h;obtain⟨rfl,rfl,rfl,rfl⟩:=h;have hC:Cond V (dN { s with al:=1 }) r cm s.m ob.st (List.range w.heap.size) r cm s.m :=
        ⟨Nat.le_refl _,λ_ _=>rfl,λb x hb _=>⟨rfl,hb⟩,λ_ b hb=>List.mem_range.2 (hj.1.1.bd b hb),λg hg=>List.mem_range.2 (Nat.lt_of_lt_of_le hg hj.1.1.ext.size),λ_ _=>rfl⟩
       have:=EB (id:=id) (l:=ops.toList) (Q:=Q) (a:=a) (w:=w) (S0 V w.heap.size r cm s.m ob.st) (λW=>J V r cm s a W/\w.heap.size<=W.heap.size) hc1 (by simpa using hc2) ⟨hC.s0 (s:=s) hj (Nat.le_refl _),hj,Nat.le_refl _⟩
        (λW W' hh hb=>⟨hC.s0 (s:=s) (J.mono _ _ hh.2.1 hb) (Nat.le_trans hh.2.2 hb.size),J.mono _ _ hh.2.1 hb,Nat.le_trans hh.2.2 hb.size⟩) (λW hW=>hW.1.2)
        (LU hs (ops := ops.toList.toArray) (s := { s with al := 1 }) (m0 := s.m) (X := ob.st) (by simpa using h2) hp (show (1 : Nat) ≠ 0 by decide) (λb hb => hb) (λb hb => by
         have:=List.all_eq_true.1 hd b hb;simp only[Bool.and_eq_true,Bool.not_eq_true',List.contains_eq_mem,decide_eq_false_iff_not] at this;exact this) hC ⟨w,⟨hC.s0 (s:=s) hj (Nat.le_refl _),hj,Nat.le_refl _⟩⟩ (λW hW=>hW.2) (λa' W r' cm' hB hJ=>hQ a' W ⟨r',cm',hA.trans hB,hJ⟩))
       simpa using this
      ·cases h
     ·cases h
    ·split at h
     ·rename_i hfq;simp only[Bool.and_eq_true] at hfq;obtain⟨hfq,htl⟩:=hfq;split at h
      ·rename_i s2 ob q2 h2;split at h
       ·rename_i hd;cases h3:ct P E call ops fE (mR ops ((pi ops).drop (nG ops))) s2 q2 with
        | none=>simp[h3] at h
        | some z =>
         obtain⟨s3,ob3,q3⟩:=z;simp only[h3,Option.map_some,Option.some.injEq,Prod.mk.injEq] at h;obtain⟨rfl,rfl,rfl,rfl⟩:=h;obtain⟨p1,p2⟩:=aw.app hp;have hC:Cond V (dN { s with al:=1 }) r cm s.m ob.st (List.range w.heap.size) r cm s.m :=
          ⟨Nat.le_refl _,λ_ _=>rfl,λb x hb _=>⟨rfl,hb⟩,λ_ b hb=>List.mem_range.2 (hj.1.1.bd b hb),λg hg=>List.mem_range.2 (Nat.lt_of_lt_of_le hg hj.1.1.ext.size),λ_ _=>rfl⟩
         have hmono:dh (λW=>S0 V w.heap.size r cm s.m ob.st W/\J V r cm s a W/\w.heap.size<=W.heap.size):=λW W' hh hb=>⟨hC.s0 (s:=s) (J.mono _ _ hh.2.1 hb) (Nat.le_trans hh.2.2 hb.size),J.mono _ _ hh.2.1 hb,Nat.le_trans hh.2.2 hb.size⟩
         have hT:mR ops ((pi ops).drop (nG ops))=[]\/∃o t x y,mR ops ((pi ops).drop (nG ops))=[o]/\o.op=.store t x y:=a0D htl;have:=a7e (id:=id) (l:=ops.toList) (Q:=Q) (a:=a) (w:=w) (pi ops) (nG ops) (pn ops) (S0 V w.heap.size r cm s.m ob.st) (λW=>S0 V w.heap.size r cm s.m ob.st W/\J V r cm s a W/\w.heap.size<=W.heap.size) hc1 (by simpa using hfq) ⟨hC.s0 (s:=s) hj (Nat.le_refl _),hj,Nat.le_refl _⟩ hmono (λ_ hW=>hW.1) (λW hW=>hW.2.2)
          (jy hs (C := λl a own F => mc P ops.toList.toArray (S0 V w.heap.size r cm s.m ob.st) (pn ops) (λa w => Q .normal a w) (mR ops.toList.toArray ((pi ops).drop (nG ops))) l a own F) (qk := pn ops) (λ_ _ _ _ _ hq h => .inl ⟨hq, h⟩) (λo _ _ _ _ v hq => ⟨a3R hq, λhw hr h => .inr ⟨hq, hw, v, hr, h⟩⟩) (ops := ops.toList.toArray) (s := { s with al := 1 }) (m0 := s.m) (X := ob.st) (by simpa using h2) p1 (show (1 : Nat) ≠ 0 by decide) (λb hb => hb) (λb hb => by
           have:=List.all_eq_true.1 hd b hb;simp only[Bool.and_eq_true,Bool.not_eq_true',List.contains_eq_mem,decide_eq_false_iff_not] at this;exact this) hC ⟨w,⟨hC.s0 (s:=s) hj (Nat.le_refl _),hj,Nat.le_refl _⟩⟩ (λW hW=>hW.2) (λa' own' F' r' cm' hB hex hF=>by
            show aG _ _ _ _ (mR ops.toList.toArray ((pi ops).drop (nG ops))) _ _ _;rw[show ops.toList.toArray=ops by simp];rcases hT with ho|⟨o,t,x,y,ho,hst⟩
            ·rw [ho] at h3 ⊢;unfold ct at h3;cases h3;exact λW hW=>hQ _ _ ⟨r',cm',hA.trans hB,hF W hW⟩
            ·rw [ho] at h3 ⊢;exact a6J hst (E:=E) (call:=call) h3 p2 hex hF (λa2 W r2 cm2 hC hJ=>hQ a2 W ⟨r2,cm2,hA.trans (hB.trans hC),hJ⟩)))
         simpa using this
       ·cases h
      ·cases h
     ·cases h
   ·cases h
 | .loop c,V,s,s',q,q',e,ps,a,w,Q,h,hp,hJ,hQ=>by
  unfold dM at h;have key:∀(n:Nat) (s:St) (q:List Bool) (ps:List Prop) (a:Act) (w:World),jT (λs q=>dM P E call c s q) n s q=some (e,s',ps,q')->aw ps->JR m0 r0 cm0 V s a w->Code.rounds P c Q n a w:=by
   intro n;induction n with
   | zero=>intro s q ps a w h;unfold jT at h;cases h
   | succ n ih =>
    intro s q ps a w h hp hJ;unfold jT at h;rw[rounds_succ];split at h
    ·cases h
    ·rename_i s1 ps1 q1 h1;cases h2:jT (λs q=>dM P E call c s q) n s1 q1 with
     | none=>simp[h2] at h
     | some z =>
      obtain⟨e2,s2,ps2,q2⟩:=z;simp only[h2,Option.map_some,Option.some.injEq,Prod.mk.injEq] at h;obtain⟨rfl,rfl,rfl,rfl⟩:=h;obtain⟨p1,p2⟩:=aw.app hp;exact iv hs h1 p1 hJ λa' W hW=>ih _ _ _ _ _ h2 p2 hW
    ·rename_i hne;refine iv hs h hp hJ λa' W hW=>?_
     cases e with
     | nm=>exact absurd h (hne _ _ _)
     | rt=>exact hQ _ _ hW
     | ex k=>exact hQ _ _ hW
  exact wp_loop_rounds _ (key _ _ _ _ _ _ h hp hJ)
 | .rangeFunc _ _ _ _,V,s,s',q,q',e,ps,a,w,Q,h,hp,hJ,hQ=>by unfold dM at h;cases h
 | .scope _,V,s,s',q,q',e,ps,a,w,Q,h,hp,hJ,hQ=>by unfold dM at h;cases h
 | .goto _,V,s,s',q,q',e,ps,a,w,Q,h,hp,hJ,hQ=>by unfold dM at h;cases h
 | .refuse _,V,s,s',q,q',e,ps,a,w,Q,h,hp,hJ,hQ=>by unfold dM at h;cases h
theorem pZ(hs:iP P E call){c:Code}{V:World}{s s':St}{q q':List Bool}{e:Ex}{ps:List Prop}{a:Act}{w:World}{Q:Exit->Act->World->Prop}(h:dM P E call c s q=some (e,s',ps,q'))(hp:aw ps)(hJ:JJ V s a w)(hQ:∀a' W,JJ V s' a' W->Q e.go a' W):c.wp P Q a w:=by
 obtain⟨r,cm,hj⟩:=hJ;exact iv (m0:=s.m) (r0:=r) (cm0:=cm) hs h hp ⟨r,cm,.rfl,hj⟩ λa' W ⟨r',cm',_,h⟩=>hQ a' W ⟨r',cm',h⟩
end
end
section
section
variable {P:Program} {E:Env} {V W:World} {r:Nat->Nat} {cm:Nat->List Value} {s:St} {a:Act}
def wQ(a:Act):ResultVar->Sem Value
 | .tmp t=>pure (a.tmps.getD t undef)|.cell b t=>do loadVar t (<- asAddr (a.tmps.getD b undef))
theorem D2(fn:Func)(a:Act):results fn a.tmps=(fn.results.mapM (wQ a) >>= λvs=>pure (if h:vs.size=1 then vs[0] else .tuple vs)):=by
 unfold results;rfl
theorem Vs(hJ:J V r cm s a W){rv:ResultVar}{v:V1}(h:Fh P s rv=some v) :
  ∃x,au V W r s.m.length v x/\(wQ a rv).run P W=.ok x W:=by
 unfold Fh at h;split at h
 ·rename_i t;split at h
  ·rename_i u hu;cases h;exact⟨_,hJ.2.2 t _ hu,rfl⟩
  ·cases h
 ·rename_i b T;split at h
  ·rename_i bb o hu;cases hb:mb s.m bb with|none=>simp[hb] at h|some m =>
    simp only[hb,Option.bind_some] at h;obtain⟨hg,hr⟩:=hJ.1.1.blk bb m hb;obtain⟨n,p1,p2,p3,p4,p5⟩:=I6 h hr;have hp:au V W r s.m.length ⟨false,[.p bb o]⟩ (a.tmps.getD b undef):=hJ.2.2 b _ hu;have hp2:a.tmps.getD b undef=.pointer (some ⟨r bb,o,none⟩):=by simpa using hp.scal.2
    refine⟨_,⟨_,p3,rfl,λe=>by have:=p5 e;simp;omega⟩,?_⟩;rw[wQ,Sem.run_bind,hp2];simp only[asAddr,Sem.run_pure,Result.andThen_ok];exact pG hg p1 p2 p4 p5
  ·cases h
theorem AH(hJ:J V r cm s a W):∀ {l:List ResultVar} {vs:List V1},qa P s l=some vs->∃xs,aV V W r s.m.length vs xs/\(l.mapM (wQ a)).run P W=.ok xs W
 | [],_,h=>by cases h;exact⟨[],rfl,rfl⟩|rv::l,vs,h=>by
  unfold qa at h;split at h
  ·rename_i v w h1 h2;cases h;obtain⟨x,k1,k2⟩:=Vs hJ h1;obtain⟨xs,k3,k4⟩:=AH hJ h2;refine⟨x::xs,⟨x,xs,rfl,k1,k3⟩,?_⟩;rw[List.mapM_cons,Sem.run_bind];rw[k2];rw[Result.andThen_ok,Sem.run_bind,k4];rfl
  ·cases h
theorem aV.len:∀ {l:List V1} {xs:List Value} {k:Nat},aV V W r k l xs->l.length=xs.length
 | [],_,_,e=>by cases e;rfl|_::_,_,_,⟨x,ys,e,_,h⟩=>by subst e;simp[aV.len h]
theorem aV.get:∀ {l:List V1} {xs:List Value} {k i:Nat} {v:V1},aV V W r k l xs->l[i]? = some v->au V W r k v (xs[i]?.getD undef)
 | [],_,_,_,_,_,h=>by simp at h|u::l,_,_,0,v,⟨x,ys,e,h1,h2⟩,h=>by
  simp only[List.getElem?_cons_zero,Option.some.injEq] at h;subst h e;exact h1|u::l,_,_,i+1,v,⟨x,ys,e,h1,h2⟩,h=>by
  subst e;simpa using aV.get (i:=i) h2 (by simpa using h)
theorem Uo{v:V1}{x:Value}(h:au W W (λ_=>0) 0 v x):au W W (λ_=>0) 0 (pL v) x:=by
 obtain⟨cs,h1,h2,h3⟩:=h;have key:∀ {l:List It} {cs:List Value},aA W W (λ_=>0) 0 l cs->aA W W (λ_=>0) 0 (l.map toO) cs:=by
  intro l;induction l with|nil=>intro cs e;exact e|cons i l ih =>
   intro cs h;obtain⟨c,d,e,k1,k2⟩:=h;refine⟨c,d,e,?_,ih k2⟩;cases i<;>exact k1
 exact⟨cs,key h1,h2,h3⟩
theorem Ej{args:List V1}{vals:List Value}{n:Nat}(h:aV W W (λ_=>0) 0 args vals):J W (λ_=>0) (λ_=>[]) ⟨⟨args.length+(n-args.length),(Tr.full 12).fill 0 (args.map λv=>.one (pL v))⟩,[],0⟩ { tmps:=vals.toArray++Array.replicate (n-vals.toArray.size) undef,defers:=[] } W:=by
 have hl:=h.len;refine⟨⟨⟨Below.refl _ _,λb x hb=>absurd (cZ hb) (Nat.not_lt_zero b),λb x hb=>absurd (cZ hb) (Nat.not_lt_zero b),λb c x y hb=>absurd (cZ hb) (Nat.not_lt_zero b),λb hb=>absurd hb (Nat.not_lt_zero b)⟩,rfl⟩,by simp[hl],λi v hi=>?_⟩;rcases Tr.fill_get (Tm.get_lt hi).2 with⟨_,hi⟩|⟨hi,hge⟩
 ·rw [Nat.sub_zero, List.getElem?_map] at hi;cases hv:args[i]? with|none=>simp[hv] at hi|some u =>
   simp only[hv,Option.map_some,Option.some.injEq] at hi;subst hi;have hlt:=(List.getElem?_eq_some_iff.1 hv).1;have:=h.get hv;have hlt2:i<vals.length:=by omega
   simp only[Array.getD_eq_getD_getElem?];rw[Array.getElem?_append_left (by simpa using hlt2)];have:=Uo this;simpa[bT] using this
 ·obtain rfl := Tr.full_get hi;simp only[List.length_map] at hge;have hge:vals.length<=i:=by omega
  simp only[Array.getD_eq_getD_getElem?];rw[Array.getElem?_append_right (by simpa using hge)];show _=undef;simp only[Array.getElem?_replicate];split<;>rfl
theorem MJ:∀ {l:List It} {i:It} {b:Nat},i∈l->(∀o,i ≠ .p b o)/\(∀n z,i ≠ .sl b n z)\/b∈gh l
 | [],_,_,h=>by cases h|j::l,i,b,h=>by
  by_cases hx:(∀o,i ≠ .p b o)/\(∀n z,i ≠ .sl b n z)
  ·exact .inl hx
  right;have sub:∀x,x∈gh l->x∈gh (j::l):=by
   intro x hx;unfold gh;split
   ·split
    ·exact hx
    ·exact List.mem_cons_of_mem _ hx
   ·split
    ·exact hx
    ·exact List.mem_cons_of_mem _ hx
   ·exact hx
  rcases List.mem_cons.1 h with rfl|h
  ·have:(∃o,i=.p b o)\/(∃n z,i=.sl b n z):=by
    apply Classical.byContradiction;intro hn;exact hx ⟨λo e=>hn (.inl ⟨o,e⟩),λn z e=>hn (.inr ⟨n,z,e⟩)⟩
   rcases this with⟨o,rfl⟩|⟨n,z,rfl⟩
   ·unfold gh;simp only;split
    ·rename_i hc;simpa using hc
    ·exact List.mem_cons_self ..
   ·unfold gh;simp only;split
    ·rename_i hc;simpa using hc
    ·exact List.mem_cons_self ..
  ·rcases MJ (b := b) h with h1 | h1
   ·exact absurd h1 hx
   ·exact sub b h1
theorem ML:∀l:List It,(gh l).Nodup
 | []=>List.nodup_nil|j::l=>by
  unfold gh;have ih:=ML l;split
  ·split
   ·exact ih
   ·rename_i hc;exact List.nodup_cons.2 ⟨by simpa using hc,ih⟩
  ·split
   ·exact ih
   ·rename_i hc;exact List.nodup_cons.2 ⟨by simpa using hc,ih⟩
  ·exact ih
theorem Da{m:List (Option Mb)}:∀ {bs:List Nat} {ms:List Mb},sL m bs=some ms->ms.length=bs.length/\∀(j:Nat) (x:Mb),ms[j]? = some x->∃b y,bs[j]? = some b/\mb m b=some y/\nv y.l=some x.l/\y.T=x.T
 | [],_,h=>by cases h;exact⟨rfl,λj x hx=>by simp at hx⟩
 | b::bs,ms,h=>by
  unfold sL at h;split at h
  ·rename_i x r hx hr;cases h;obtain⟨k1,k2⟩:=Da hr;refine⟨by simp[k1],λj y hy=>?_⟩;cases j with
   | zero =>
    simp only[List.getElem?_cons_zero,Option.some.injEq] at hy;subst hy;cases hb:mb m b with
    | none=>simp[hb] at hx
    | some y =>
     cases hf:nv y.l with
     | none=>simp[hb,hf] at hx
     | some l =>
      simp only[hb,hf,Option.bind_some,Option.map_some,Option.some.injEq] at hx;subst hx;exact⟨b,y,rfl,hb,hf,rfl⟩
   | succ j=>exact k2 j y (by simpa using hy)
  ·cases h
theorem RM.out{V W:World}{m:List (Option Mb)}{bs:List Nat}{ms:List Mb}{r:Nat->Nat}{cm:Nat->List Value}(h:RM V r cm m W)(ho:sL m bs=some ms)(hn:bs.Nodup):RM V (λj=>r (bs[j]?.getD 0)) (λj=>cm (bs[j]?.getD 0)) (ms.map some) W:=by
 obtain⟨k1,k2⟩:=Da ho;have key:∀j x,mb (ms.map some) j=some x->∃b y,bs[j]? = some b/\mb m b=some y/\nv y.l=some x.l/\y.T=x.T:=by
  intro j x hx;rw[cf,List.getElem?_map] at hx;cases hj:ms[j]? with|none=>simp[hj] at hx|some z =>
   simp only[hj,Option.map_some,Option.some.injEq] at hx;subst hx;exact k2 j z hj
 refine⟨h.ext,λj x hx=>?_,λj x hx=>?_,λj j' x y hx hy e=>?_,λj hj=>?_⟩
 ·obtain ⟨b, y, h1, h2, h3, h4⟩ := key j x hx;obtain⟨h5,c,d,h6,h7,h8⟩:=h.blk b y h2;simp only[h1,Option.getD_some];refine⟨by rw[h5,h4],c,d,h6,?_,h8⟩;have hf:=Hi h.ext h3 h7;have up:∀ {l:List It} {cs:List Value},l.all It.np=true->aE W (l.map xa) cs->aA V W (λj=>r (bs[j]?.getD 0)) (ms.map some).length (l.map xa) cs:=by
   intro l;induction l with|nil=>intro cs _ e;exact e|cons i l ih =>
    intro cs hl h;obtain⟨c,d,e,q1,q2⟩:=h;simp only[List.all_cons,Bool.and_eq_true] at hl;refine⟨c,d,e,?_,ih hl.2 q2⟩;cases i<;>first|exact q1|cases hl.1
  unfold nv at h3;split at h3
  ·rename_i hnp;have h3:=Option.some.inj h3;rw[<- h3] at hf ⊢;exact up hnp hf
  ·cases h3
 ·obtain ⟨b, y, h1, h2, _⟩ := key j x hx;simp only[h1,Option.getD_some];exact h.lo b y h2
 ·obtain ⟨b, y1, h1, h2, _⟩ := key j x hx;obtain⟨b',y2,h3,h4,_⟩:=key j' y hy;simp only[h1,h3,Option.getD_some] at e;have:=h.inj b b' y1 y2 h2 h4 e;subst this;exact (List.getElem?_inj (List.getElem?_eq_some_iff.1 h1).1 hn).1 (h1.trans h3.symm)
 ·have hj : j < ms.length := by simpa using hj
  obtain⟨b,y,h1,h2,_⟩:=key j ms[j] (cf.2 (by simp[hj]));simp only[h1,Option.getD_some];exact h.bd b (cZ h2)
theorem a2U{V W:World}{m:List (Option Mb)}{bs:List Nat}{r:Nat->Nat}{k:Nat}{i j:It}{cs:List Value}(hx:ac V W)(hb:∀b,((∀o,i ≠ .p b o)/\(∀n z,i ≠ .sl b n z))\/b∈bs)(hk:∀j,j<bs.length->bs[j]?.getD 0<k)(h:QS bs i=some j)(hr:af V W r k i cs):af V W (λj=>r (bs[j]?.getD 0)) bs.length j cs:=by
 have at':∀b,b∈bs->r (bs[bs.idxOf b]?.getD 0)=r b/\bs.idxOf b<bs.length:=by
  intro b hb;have hlt:=List.idxOf_lt_length_iff.2 hb;exact⟨by rw[List.getElem?_eq_getElem hlt,Option.getD_some,List.getElem_idxOf],hlt⟩
 cases i with|p b o =>
  cases h;obtain⟨h1,h2⟩:=at' b ((hb b).resolve_left λh=>h.1 o rfl);exact⟨h2,by rw[hr.2];simp only[h1]⟩|sl b n z =>
  cases h;obtain⟨h1,h2⟩:=at' b ((hb b).resolve_left λh=>h.2 n z rfl);obtain⟨_,q,xs,T,k1,k2,k3⟩:=hr;exact⟨h2,q,xs,T,by rw[k1];simp only[h1],by simp only[h1];exact k2,k3⟩|o D=>cases h;exact Dat.ext hx hr|fp l=>cases h|fs o l n z=>cases h|fn f l=>cases h|ds L=>cases h|dr L k=>cases h|px b z n len=>cases h|ro z n f=>cases h|gp T l=>cases h|ol T z n f =>
  cases h;obtain⟨v,e,hr⟩:=hr;refine⟨v,e,?_⟩;rcases hr with hr|⟨g,c,xs,e2,⟨h1,h2⟩,h3⟩
  ·exact .inl hr
  ·exact .inr ⟨g,c,xs,e2,⟨h1,λj hj=>h2 _ (hk j hj)⟩,h3⟩|_=>cases h;exact hr
theorem QT{V W:World}{m:List (Option Mb)}{bs:List Nat}{r:Nat->Nat}{k:Nat}(hx:ac V W)(hk:∀j,j<bs.length->bs[j]?.getD 0<k):∀ {l l':List It} {cs:List Value},(∀i∈l,∀b,((∀o,i ≠ .p b o)/\(∀n z,i ≠ .sl b n z))\/b∈bs)->Db bs l=some l'->aA V W r k l cs->aA V W (λj=>r (bs[j]?.getD 0)) bs.length l' cs
 | [],_,_,_,h,e=>by cases h;exact e|i::l,l',_,hb,h,⟨c,d,e,h1,h2⟩=>by
  unfold Db at h;split at h<;>cases h;exact⟨c,d,e,a2U (m:=m) hx (hb i (List.mem_cons_self ..)) hk (by assumption) h1,QT (m:=m) hx hk (λi hi=>hb i (List.mem_cons_of_mem _ hi)) (by assumption) h2⟩
theorem QW{V W:World}{m:List (Option Mb)}{bs:List Nat}{r:Nat->Nat}{k:Nat}(hx:ac V W)(hk:∀j,j<bs.length->bs[j]?.getD 0<k):∀ {l l':List V1} {xs:List Value},(∀v∈l,∀i∈v.l,∀b,((∀o,i ≠ .p b o)/\(∀n z,i ≠ .sl b n z))\/b∈bs)->uw bs l=some l'->aV V W r k l xs->aV V W (λj=>r (bs[j]?.getD 0)) bs.length l' xs
 | [],_,_,_,h,e=>by cases h;exact e|v::l,l',_,hb,h,⟨x,ys,e,⟨cs,h1,h2,h3⟩,h4⟩=>by
  unfold uw at h;split at h<;>cases h;exact⟨x,ys,e,⟨cs,QT (m:=m) hx hk (hb v (List.mem_cons_self ..)) (by assumption) h1,h2,h3⟩,QW (m:=m) hx hk (λv hv=>hb v (List.mem_cons_of_mem _ hv)) (by assumption) h4⟩
def CW(l:List V1):AV:=match l with | [v]=>.one v|l=>.tup l
theorem G9{fn:Func}{s:St}{l l':List V1}{ms:List Mb}(hl:qa P s fn.results.toList=some l)(hl':uw (gh (l.map V1.l).flatten) l=some l')(hms:sL s.m (gh (l.map V1.l).flatten)=some ms){res:AV×List Mb}(hres:res=(CW l',ms)){W W':World}{a':Act}(hJ:JJ W s a' W') :
  a'.defers=[]/\∃v,(results fn a'.tmps).run P W'=.ok v W'/\∃v' r cm,Ending.returned v=.returned v'/\RM W r cm (res.2.map some) W'/\bT W W' r res.2.length res.1 v':=by
 obtain⟨r',cm',hJ⟩:=hJ;obtain⟨xs,h1,h2⟩:=AH hJ hl;have hRM:=hJ.1.1.out hms (ML _);have h3:=QW (m:=s.m) hJ.1.1.ext (λj hj=>by
  obtain⟨q1,q2⟩:=Da hms;obtain ⟨b, y, q3, q4, _⟩ := q2 j (ms[j]'(by omega)) (List.getElem?_eq_getElem _);rw[q3];exact cZ q4) (λv hv i hi b=>MJ (l:=(l.map V1.l).flatten) (List.mem_flatten.2 ⟨v.l,List.mem_map.2 ⟨v,hv,rfl⟩,hi⟩)) hl' h1
 have hlen:=(Da hms).1;have hrun:(results fn a'.tmps).run P W'=.ok (if h:xs.toArray.size=1 then xs.toArray[0] else .tuple xs.toArray) W':=by
  rw[D2,Sem.run_bind,Array.mapM_eq_mapM_toList,Sem.run_map,h2];rfl
 have hc:(∃v,l'=[v])\/(l'.length≠1/\res=(.tup l',ms)):=by
  match l',hres with|[],h=>exact .inr ⟨by simp,h⟩|[v],_=>exact .inl ⟨v,rfl⟩|_::_::_,h=>exact .inr ⟨by simp,h⟩
 rcases hc with⟨v,rfl⟩|⟨hne,rfl⟩
 ·obtain rfl : res = (.one v, ms) := hres;obtain⟨x,ys,e,h4,h5⟩:=h3;cases h5;subst e;exact⟨hJ.1.2,_,hrun,_,_,_,rfl,hRM,by rw[hlen];exact h4⟩
 ·refine ⟨hJ.1.2, _, hrun, _, _, _, rfl, hRM, ?_⟩;rw[dif_neg (by have:=h3.len;simp;omega),hlen];exact⟨xs,rfl,h3⟩
def LG(P:Program)(K:FuncId->Option (List V1->Option (AV×List Prop))):Prop:=∀f g args res ps,K f=some g->g args=some (res,ps)->aw ps->ae P f args res
theorem xO {K : FuncId -> Option (List V1 -> Option (AV × List Prop))} (hN : ∀ (f : FuncId) (fn : Func), P.funcs[f]? = some fn -> (fn.name == "runtime.NumGoroutine") = false) (hE : ∀ t n, E.eq.lookup t = some n -> kq P t n) (hX : ∀ f g, E.eff.lookup f = some g -> xl P f g) (hM : ∀ T name n wd, E.mt.lookup (T, name) = some (n, wd) -> tj P T name n wd) (hW : ∀ f, E.wr.contains f = true -> AE P f) (hK : LG P K) :
  ∀n,iP P E (kK P E K n)|0=>⟨hN,hE,hX,hM,hW,λ_ _ _ _ _ _ h=>by unfold kK at h;cases h⟩|n+1=>⟨hN,hE,hX,hM,hW,λf args q res ps q' h hp=>by
  have ih:=xO hN hE hX hM hW hK n;unfold kK at h;split at h
  ·rename_i g hg;cases hr:g (args.map CG) with|none=>simp[hr] at h|some z =>
    obtain⟨z1,z2⟩:=z;simp only[hr,Option.map_some,Option.some.injEq,Prod.mk.injEq] at h;obtain⟨rfl,rfl,rfl⟩:=h;exact ae.toB λW vals hv=>hK f g _ _ _ hg hr hp W vals (II hv)
  ·split at h
   ·cases h
   ·rename_i fn hf;split at h
    ·cases h
    ·rename_i c hc;split at h
     ·cases h
     ·rename_i e s' ps' q1 hcode;intro W vals hv;refine calls_of_wp hf hc ?_;split at h
      ·cases h
      ·rename_i hex;split at h
       ·rename_i l hl;split at h
        ·rename_i l' ms hl' hms;have hps:ps=ps':=by
          split at h<;>cases h<;>rfl
         subst hps;refine pZ ih hcode hp ⟨_,_,Ej hv⟩ λa' W' hJ=>?_
         have:=G9 hl hl' hms (res:=res) (by unfold CW;split at h<;>cases h<;>simp_all) hJ;cases e with|nm=>exact this|rt=>exact this|ex k=>exact absurd rfl (hex k)
        ·cases h
       ·cases h⟩
structure Pf where
 p:Prop
 h:p
theorem ku:∀l:List Pf,aw (l.map Pf.p)
 | []=>trivial|x::l=>⟨x.h,ku l⟩
end
end
structure Ed where
 k:Int
 ax:Int
 ay:Int
 bx:Int
 by':Int
 cx:Int
 cy:Int
 deriving DecidableEq
def Co(x:Int):Prop := -67108864<=x/\x<=67108864
theorem mi{x y:Int}:dP x y=true <-> Co x/\Co y:=by
 simp[dP,Co];constructor
 ·intro h;omega
 ·intro h;omega
def pz(dx dy ux uy:Int)(t:Nat):Bool:=((dx==0) != (dy==0))&&(ux==(fH t (dx,dy)).1&&uy==(fH t (dx,dy)).2)
def Ed.right(e:Ed):Bool:=dP e.ax e.ay&&dP e.bx e.by'&&dP e.cx e.cy
def Ed.lone(e:Ed):Bool:=e.cx==0&&e.cy==0
def Ed.quarter(e:Ed)(t:Nat):Bool:=pz (e.ax-e.cx) (e.ay-e.cy) (e.bx-e.cx) (e.by'-e.cy) t
def Ed.ok(e:Ed):Bool:=e.right&&(if e.k=1 then e.lone else if e.k=2 then e.quarter 1 else if e.k=3 then e.quarter 3 else false)
structure Va where
 c:Value
 o:Value
 r:Value
 k:Int
def jk(k:Int):Va :=
 if k=1 then ⟨.func (.func 242) #[] #[],.func (.func 243) #[] #[],.func (.func 244) #[] #[],1⟩
 else if k=2 then ⟨.func (.func 245) #[] #[],.func (.func 246) #[] #[],.func (.func 247) #[] #[],3⟩
 else if k=3 then ⟨.func (.func 248) #[] #[],.func (.func 246) #[] #[],.func (.func 247) #[] #[],2⟩
 else ⟨.nilFunc,.nilFunc,.nilFunc,k⟩
def nC(k:Int):Bool:=k==1||k==2||k==3
theorem a0J{k:Int}(h:nC k=false):jk k=⟨.nilFunc,.nilFunc,.nilFunc,k⟩:=by
 simp[nC] at h;unfold jk;rw[if_neg h.1.1,if_neg h.1.2,if_neg h.2]
def ei(e:Ed):Int:=if e.ok then 0 else if nC e.k&&!e.right then 10 else 11
theorem Xf{e:Ed}(h:e.ok=false)(hk:¬1<=e.k):ei e=11:=by
 have:nC e.k=false:=by simp[nC];omega
 simp[ei,h,this]
theorem Xg{e:Ed}(h:e.ok=false)(hk:¬e.k<=3):ei e=11:=by
 have:nC e.k=false:=by simp[nC];omega
 simp[ei,h,this]
theorem Xh{e:Ed}(h:e.ok=false)(hA:dP e.ax e.ay=true)(hB:dP e.bx e.by'=true)(hC:dP e.cx e.cy=true):ei e=11:=by
 simp[ei,h,Ed.right,hA,hB,hC]
theorem FU{e:Ed}(h:e.ok=false)(h1:1<=e.k)(h3:e.k<=3)(hr:dP e.ax e.ay=false\/dP e.bx e.by'=false\/dP e.cx e.cy=false):ei e=10:=by
 have:nC e.k=true:=by simp[nC];omega
 have:e.right=false:=by rcases hr with h|h|h<;>simp[Ed.right,h]
 simp[ei, *]
theorem a1C{x y m n:Int}(hx : -m<=x/\x<=m)(hy : -n<=y/\y<=n) : -(m*n)<=x*y/\x*y<=m*n:=by
 have h1:x.natAbs<=m.natAbs:=by omega
 have h2:y.natAbs<=n.natAbs:=by omega
 have h3:(x*y).natAbs<=(m*n).natAbs:=by rw[Int.natAbs_mul,Int.natAbs_mul];exact Nat.mul_le_mul h1 h2
 have h4:0<=m*n:=Int.mul_nonneg (by omega) (by omega);omega
def Di(x:Int):Prop := -134217728<=x/\x<=134217728
theorem Co.sub{x y:Int}(hx:Co x)(hy:Co y):Di (x-y):=by unfold Co Di at *;omega
theorem Di.mul{x y:Int}(hx:Di x)(hy:Di y) : -18014398509481984<=x*y/\x*y<=18014398509481984:=by
 have:=a1C (m:=134217728) (n:=134217728) hx hy;omega
theorem Di.i64{x:Int}(h:Di x):I64 x:=by unfold Di I64 at *;omega
theorem Di.mul64{x y:Int}(hx:Di x)(hy:Di y):I64 (x*y):=by have:=hx.mul hy;unfold I64;omega
theorem Di.cross{a b c d:Int}(ha:Di a)(hb:Di b)(hc:Di c)(hd:Di d):I64 (a*b-c*d):=by have:=ha.mul hb;have:=hc.mul hd;unfold I64;omega
theorem Di.dot{a b c d:Int}(ha:Di a)(hb:Di b)(hc:Di c)(hd:Di d):I64 (a*b+c*d):=by have:=ha.mul hb;have:=hc.mul hd;unfold I64;omega
def Jm(dx dy ax ay:Int):Int:=dx*dx+dy*dy-(ax*ax+ay*ay)
def az(e:Ed):Int:=if e.ok&&!(e.k==1) then max (max (e.ax-e.cx) (-(e.ax-e.cx))) (max (e.ay-e.cy) (-(e.ay-e.cy))) else 0
theorem Rr{e:Ed}(h:e.k=1):az e=0:=by simp[az,h]
theorem sH{e:Ed}(h:e.ok=true):(Co e.ax/\Co e.ay)/\(Co e.bx/\Co e.by')/\(Co e.cx/\Co e.cy):=by
 simp only[Ed.ok,Ed.right,Bool.and_eq_true] at h;exact⟨mi.1 h.1.1.1,mi.1 h.1.1.2,mi.1 h.1.2⟩
def jD(x0 y0 x1 y1 px py:Int):Bool:=decide (x0<=px)&&(decide (px<=x1)&&(decide (y0<=py)&&decide (py<=y1)))
def onE(e:Ed)(px py:Int):Bool :=
 e.ok&&(jD (min e.ax e.bx) (min e.ay e.by') (max e.ax e.bx) (max e.ay e.by') px py&&(if e.k=1 then lV ((e.bx-e.ax)*(py-e.ay)-(e.by'-e.ay)*(px-e.ax))==0 else Jm (px-e.cx) (py-e.cy) (e.ax-e.cx) (e.ay-e.cy)==0))
def D3(e:Ed):Ed:=⟨(jk e.k).k,e.bx,e.by',e.ax,e.ay,e.cx,e.cy⟩
theorem nE{e:Ed}(h:e.ok=true):e.k=1\/e.k=2\/e.k=3:=by
 simp only[Ed.ok,Bool.and_eq_true] at h;have h2:=h.2;by_cases k1:e.k=1
 ·exact .inl k1
 ·by_cases k2 : e.k = 2
  ·exact .inr (.inl k2)
  ·by_cases k3 : e.k = 3
   ·exact .inr (.inr k3)
   ·rw[if_neg k1,if_neg k2,if_neg k3] at h2;cases h2
theorem Jw{e:Ed}(h:e.ok=true)(hk:¬e.k=1):0<az e:=by
 have hq:((e.ax-e.cx==0) != (e.ay-e.cy==0))=true:=by
  simp only[Ed.ok,Bool.and_eq_true,if_neg hk] at h;have h2:=h.2;split at h2
  ·simp only[Ed.quarter,pz,Bool.and_eq_true] at h2;exact h2.1
  ·split at h2
   ·simp only[Ed.quarter,pz,Bool.and_eq_true] at h2;exact h2.1
   ·cases h2
 have hkb:(e.k==1)=false:=by simpa using hk
 unfold az;rw[h,hkb];simp only[Bool.not_false,Bool.and_true,if_true];by_cases h1:e.ax-e.cx=0
 ·by_cases h2 : e.ay - e.cy = 0
  ·simp[h1,h2] at hq
  ·omega
 ·omega
theorem a4l{e:Ed}(h:e.ok=true):az e<=134217728:=by
 obtain⟨⟨h1,h2⟩,_,h5,h6⟩:=sH h;unfold az;unfold Co at *;split<;>omega
theorem Xj{e:Ed}(h:e.ok=false):(ei e==0)=false:=by
 unfold ei;rw[h];cases (nC e.k&&!e.right)<;>rfl
theorem Nk{e:Ed}(h:e.ok=true):ei e=0:=by unfold ei;rw[h];rfl
theorem Zy(w:World)(a b c d:Int):(binOp .eql 24 (.agg #[.int .i64 a,.int .i64 b]) (.agg #[.int .i64 c,.int .i64 d])).run Tryz.prog w=.ok (.bool (a==c&&b==d)) w:=by
 by_cases h:a=c
 ·by_cases h2 : b = d
  ·subst h h2;go_simp
  ·have h3 : (b == d) = false := by simpa using h2
   subst h;go_simp
 ·have h3 : (a == c) = false := by simpa using h
  go_simp
set_option maxHeartbeats 1000000
set_option maxRecDepth 100000
section
def enc(d:List Nat):List Value:=d.map λx:Nat=>Value.int .u32 (x:Int)
theorem GV(d:List Nat):(enc d).length=d.length:=by simp[enc]
theorem rO(d:List Nat)(i:Nat)(h:i<d.length):(enc d)[i]? = some (.int .u32 ((d[i]?.getD 0:Nat):Int)):=by
 simp[enc,List.getElem?_eq_getElem h]
theorem Zf(d:List Nat):∀u∈enc d,u.oneCell'=true:=by
 intro u hu;obtain⟨x,_,rfl⟩:=List.mem_map.1 hu;rfl
theorem u6(b o j:Nat):(⟨b,o,none⟩:Addr).add j=⟨b,o+j,none⟩:=by
 unfold Addr.add;split
 ·rename_i h;subst h;rfl
 ·rfl
theorem a45{w:World}{b o:Nat}{d:List Nat}(hc:∀i,i<d.length->w.cell? ⟨b,o+i,none⟩=some (.int .u32 ((d[i]?.getD 0:Nat):Int))) :
  ∀j u,(enc d)[j]? = some u->w.cell? ((⟨b,o,none⟩:Addr).add j)=some u:=by
 intro j u hu;have hj:j<d.length:=by
  have:=(List.getElem?_eq_some_iff.1 hu).1;rwa [GV] at this
 rw[u6,hc j hj,<- rO d j hj,hu]
theorem sU{w:World}{base e:Nat}{v:Value}{n:Nat}{d:List Nat}(h:w.ownsRow base e 1 v n (enc d))(hd:ao d) :
  ∃p c,v=.slice p d.length c/\Row w p c d/\∀a,p=some a->base<=a.block:=by
 obtain⟨h1,h2⟩:=h;rw[GV,Nat.mul_one] at h1;subst h1;rcases h2 with⟨rfl,hn⟩|⟨g,cap,cur,rfl,hb,hg,hnc,hcm,hcs,ht⟩
 ·have : d = [] := List.eq_nil_of_length_eq_zero hn;subst this;exact⟨none,0,rfl,Row.nil w,λa ha=>by cases ha⟩
 ·refine ⟨some ⟨g, 0, none⟩, cap, rfl, ⟨hnc, by simpa [maxLen] using hcm, hd, λh0 => ⟨g, 0, rfl, (Array.getElem?_eq_some_iff.1 hg).1, λi hi => ?_⟩⟩, λa ha => by cases ha; exact hb⟩;rw[cell_of_row w g (0+i) cur e (0,0) hg,<- rO d i hi,<- ht,Nat.mul_one,List.getElem?_take,if_pos hi,Nat.zero_add];simp
theorem rY:(Tryz.prog.info? 186).map (λi=>(i.zero,i.size,i.bytes))=some (some (.int .u32 0),1,4):=by kernel_rfl
def Vm(w:World)(d:List Nat)(e:Ending)(w':World):Prop :=
 ∃p c,e=.returned (.slice p d.length c)/\Row w' p c d/\New w p/\ac w w'
theorem Xx(d:List Nat)(p:Option Addr)(l c:Nat)(w:World)(h:Row w p c d)(hl:l=d.length)(h0:0<d.length)(h64:d.length<=66) :
  Calls Tryz.prog 207 #[.slice p l c] w (Vm w d):=by
 subst hl;obtain⟨b,o,rfl,hb,hc⟩:=h.at h0;obtain⟨i,hi,hz0,hz1,hz2⟩:=info_parts rY;have qT:∀(w:World) (a:Option Addr) (n c n' c':Nat),(binOp .eql 81 (.slice a n c) (.slice none n' c')).run Tryz.prog w=.ok (.bool a.isNone) w :=
  λw a n c n' c'=>Lib.run_eql_slice_nil w _ _ a n c n' c' Tryz.underlying81
 have hdig:=h.dig;have Hc:=Lib.hid hc;clear hc h;go_enter Tryz.func207,Tryz.ntmps207;go_wp2_with (at_builtin;refine wpList_append_own _ rfl _ _ 81 rfl w.heap.size 186 i (.int .u32 0) 1 4 Tryz.underlying81 hi hz0 hz1 hz2 rfl (by decide) _ _ _ rfl (World.ownsRow_made w #[] 0 (Nat.le_refl _) (by decide) rfl) ⟨b,o,none⟩ d.length c (enc d) rfl (by simp[enc]) ?c2 (Zf d) ?c3 ?c4 ?c5 ?_)
 case c2=>exact a45 (λi hi=>(cell_later ((Below.refl _ _).alloc (Nat.le_refl _) _) (Hc.out i hi)))
 case c3=>unfold maxLen;omega
 case c4=>omega
 case c5=>simp
 intro v' w1 hown hgr _;obtain⟨p',c',rfl,hrow,hnew⟩:=sU (d:=d) (by simpa using hown) hdig;go_wp2;go_ret;refine⟨p',c',rfl,hrow,hnew,?_⟩;exact ((Below.refl _ _).alloc (Nat.le_refl _) _).grown hgr (by simp) (λk hk=>by simp[Value.ownBlock] at hk;omega)
end
set_option maxHeartbeats 1000000
set_option maxRecDepth 100000
section
def jR(w:World)(r:Nm×Bool)(e:Ending)(w':World):Prop :=
 ∃n p l c,e=.returned (.tuple #[.agg #[.bool n,.slice p l c],.bool r.2])/\NR w' n p l c r.1/\New w p/\ac w w'
theorem UF{d:List Nat}{k:Nat}(hk:k<d.length)(h:d[k]?.getD 0=0):val (d.take (k+1))=val (d.take k):=by
 rw[List.take_succ_eq_append_getElem hk,val_append];rw[kS hk] at h;simp[val,h]
theorem Eq{d:List Nat}{k:Nat}(hd:ao d)(hk:k<=d.length)(hv:val (d.take k)=val d)(hz:0<k->d[k-1]?.getD 0≠0):kj d=d.take k:=by
 unfold kj;rw[<- hv];refine BD (hd.take k) ?_;intro hne;have h0:0<k:=by
  rcases Nat.eq_zero_or_pos k with rfl|h
  ·simp at hne
  ·exact h
 have:=hz h0;rw[kS (by omega)] at this;rw[List.getLast_eq_getElem];simp only[List.length_take,List.getElem_take];have e:min k d.length-1=k-1:=by omega
 simpa only[e] using this
theorem Row.take{w:World}{p:Option Addr}{c:Nat}{d:List Nat}(h:Row w p c d)(k:Nat)(hk:k<=d.length):Row w p c (d.take k):=by
 refine⟨by have:=h.le;simp;omega,h.max,h.dig.take k,λh0=>?_⟩;have hk0:(d.take k).length=k:=by simp;omega
 rw[hk0] at h0 ⊢;obtain⟨b,o,hp,hb,hc⟩:=h.at (by omega);refine⟨b,o,hp,hb,λi hi=>?_⟩;rw[hc i (by omega),List.getElem?_take,if_pos hi]
theorem a07{neg:Bool}{d:List Nat}{t:List Nat}(h:kj d=t)(h64:64<t.length):gY neg d=(zero,false):=by
 unfold gY;rw[h,if_pos h64]
theorem a09{neg:Bool}{d:List Nat}{t:List Nat}(h:kj d=t)(h0:t.length=0):gY neg d=(zero,true):=by
 unfold gY;rw[h,if_neg (by omega),if_pos (List.eq_nil_of_length_eq_zero h0)]
theorem a08{neg:Bool}{d:List Nat}{t:List Nat}(h:kj d=t)(h64:t.length<=64)(h0:0<t.length):gY neg d=(⟨neg,t⟩,true):=by
 unfold gY;rw[h,if_neg (by omega),if_neg (by intro e;rw[e] at h0;simp at h0)]
theorem nN(neg:Bool)(d:List Nat)(p:Option Addr)(l c:Nat)(w:World)(h:Row w p c d)(hl:l=d.length) :
  Calls Tryz.prog 142 #[.bool neg,.slice p l c] w (jR w (gY neg d)):=by
 subst hl;have hle:=h.le;have hm:=h.max;go_enter Tryz.func142,Tryz.ntmps142;go_wp2;go_loop [6] (λn=>∃k:Nat,k<=d.length/\n=.int .i64 (k:Int)/\val (d.take k)=val d) (λn=>(intOf n).toNat)
 case atStart=>exact⟨d.length,Nat.le_refl _,rfl,by rw[List.take_of_length_le (Nat.le_refl _)]⟩
 case round =>
  obtain⟨k,hk,rfl,hv⟩:=hrel;have V:=Lib.hid hv;clear hv;cases k with|zero =>
   have e:((0:Nat):Int)=0:=rfl;rw[e];clear e;have T:=Lib.hid (Eq h.dig hk V.out (by omega));clear h;go_wp2;refine bodyPost_ret (v:=.tuple #[.agg #[.bool false,.slice none 0 0],.bool true]) (by simp[results,Tryz.results142,go_sem]) rfl ?_;rw[a09 T.out (by simp)];exact⟨false,none,0,0,rfl,⟨rfl,rfl,Row.nil _⟩,New.none _,ag⟩|succ j =>
   obtain⟨b,o,rfl,hb,hc⟩:=h.at (by omega);have hc1:=hc j (by omega);obtain⟨x,X⟩:∃x,Hid (d[j]?.getD 0=x):=⟨_,rfl⟩;rw[X.out] at hc1;have e:((j+1:Nat):Int)=(j:Int)+1:=by omega
   rw[e];clear e;by_cases hx:x=0
   ·have hx1 : ((x : Int) == 0) = true := by simp [hx]
    have V2:=Lib.hid (UF (by omega) (X.out.trans hx));clear hx hc;go_wp2;exact⟨⟨j,by omega,rfl,V2.out.symm.trans V.out⟩,by simp[intOf]⟩
   ·have hx1 : ((x : Int) == 0) = false := by rw [beq_eq_false_iff_ne]; omega
    have T:=Lib.hid (Eq h.dig hk V.out (by rw[Nat.add_sub_cancel,X.out];omega));clear hx hc;by_cases h64:64<j+1
    ·go_wp2;refine bodyPost_ret (v:=.tuple #[.agg #[.bool false,.slice none 0 0],.bool false]) (by simp[results,Tryz.results142,go_sem]) rfl ?_;rw[a07 T.out (by simp;omega)];exact⟨false,none,0,0,rfl,⟨rfl,rfl,Row.nil _⟩,New.none _,ag⟩
    ·have hlen : (d.take (j + 1)).length = j + 1 := by simp; omega
     have L:=Lib.hid hlen;clear hlen;have hb0:ac w (w.alloc (.cells #[.bool false,.slice none 0 0] 83)):=ag;have R:=(h.take (j+1) (by omega)).ext hb0;clear h;go_wp2_with fail;refine (Xx (d.take (j+1)) _ _ _ _ R (by rw[L.out]) (by rw[L.out];omega) (by rw[L.out];omega)).mono ?_;rintro e w1 ⟨p',c',rfl,hrow,hnew,hx⟩;rw[L.out];obtain⟨hcell,hfroz⟩:=VS hx;have hx0:=ac.step hb0 hx;go_wp2;refine bodyPost_ret (v:=.tuple #[.agg #[.bool neg,.slice p' (j+1) c'],.bool true]) (by simp[results,Tryz.results142,go_sem,hcell]) rfl ?_;rw[a08 T.out (by rw[L.out];omega) (by rw[L.out];omega)]
     refine⟨neg,p',j+1,c',rfl,⟨rfl,L.out.symm,?_⟩,hnew.mono hb0.size,ag⟩
     (repeat (first|assumption|refine Row.set ?_ (by assumption) _ (by first|(simp;done)|(simp;omega)|omega) _|refine Row.alloc ?_ _|refine Row.drewN ?_ _|refine Row.drew ?_))
def Vk(w:World)(p:Option Addr)(c:Nat)(d:List Nat)(e:Ending)(w':World):Prop :=
 e=.returned (.slice p d.length c)/\Row w' p c d/\ac w w'
end
end Go.Proofs.YtghemgdfmldoeaaGreat
