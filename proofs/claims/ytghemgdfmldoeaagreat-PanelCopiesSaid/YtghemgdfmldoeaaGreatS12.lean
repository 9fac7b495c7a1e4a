import Derived.Test.YtghemgdfmldoeaaGreatS11
import Derived.LoopN
set_option linter.unusedVariables false
set_option linter.unusedSimpArgs false

namespace Go.Proofs.YtghemgdfmldoeaaGreat
open Go.RowKit

section
section
variable {P:Program} {E:Env} {call:CallF}
def Ex.go:Ex->Exit
 | .nm=>.normal
 | .rt=>.ret
 | .ex k=>.exit k
def JJ(V:World)(s:St)(a:Act)(W:World):Prop:=∃r cm,J V r cm s a W
def JR(m0:List (Option Mb))(r0:Nat->Nat)(cm0:Nat->List Value)(V:World)(s:St)(a:Act)(W:World):Prop:=∃r cm,Ag m0 r0 cm0 s.m r cm/\J V r cm s a W
theorem isTl_spec{l:List Oper}(h:isTl l=true):l=[]\/∃o t x y,l=[o]/\o.op=.store t x y:=by
 unfold isTl at h
 split at h
 ·exact .inl rfl
 ·rename_i o
  split at h
  ·rename_i t x y ho
   exact .inr ⟨o,t,x,y,rfl,ho⟩
  ·cases h
 ·cases h
theorem qkA_kind{ops:Array Oper}{o:Oper}(h:qkA ops o=true):fkind o=0:=by
 unfold qkA at h
 split at h
 ·rename_i ho;simp[fkind,ho]
 ·cases h
theorem aCode_wpR{m0:List (Option Mb)}{r0:Nat->Nat}{cm0:Nat->List Value}(hs:Sound P E call):∀ {c:Code} {V:World} {s s':St} {q q':List Bool} {e:Ex} {ps:List Prop} {a:Act} {w:World} {Q:Exit->Act->World->Prop},aCode P E call c s q=some (e,s',ps,q')->All ps->JR m0 r0 cm0 V s a w ->
  (∀a' W,JR m0 r0 cm0 V s' a' W->Q e.go a' W)->c.wp P Q a w
 | .skip,V,s,s',q,q',e,ps,a,w,Q,h,hp,hJ,hQ=>by
  unfold aCode at h
  cases h
  exact wp_skip (hQ _ _ hJ)
 | .label _,V,s,s',q,q',e,ps,a,w,Q,h,hp,hJ,hQ=>by
  unfold aCode at h
  cases h
  exact wp_label (hQ _ _ hJ)
 | .ret,V,s,s',q,q',e,ps,a,w,Q,h,hp,hJ,hQ=>by
  unfold aCode at h
  cases h
  exact wp_ret (hQ _ _ hJ)
 | .exit k,V,s,s',q,q',e,ps,a,w,Q,h,hp,hJ,hQ=>by
  unfold aCode at h
  cases h
  exact wp_exit (hQ _ _ hJ)
 | .seq x y,V,s,s',q,q',e,ps,a,w,Q,h,hp,hJ,hQ=>by
  unfold aCode at h
  refine wp_seq ?_
  split at h
  ·cases h
  ·rename_i s1 ps1 q1 h1
   cases h2:aCode P E call y s1 q1 with
   | none=>simp[h2] at h
   | some z =>
    obtain⟨e2,s2,ps2,q2⟩:=z
    simp only[h2,Option.map_some,Option.some.injEq,Prod.mk.injEq] at h
    obtain⟨rfl,rfl,rfl,rfl⟩:=h
    obtain⟨p1,p2⟩:=All.app hp
    exact aCode_wpR hs h1 p1 hJ fun a' W hW=>aCode_wpR hs h2 p2 hW hQ
  ·rename_i hne
   refine aCode_wpR hs h hp hJ fun a' W hW=>?_
   cases e with
   | nm=>exact absurd h (hne _ _ _)
   | rt=>exact hQ _ _ hW
   | ex k=>exact hQ _ _ hW
 | .cond c x y,V,s,s',q,q',e,ps,a,w,Q,h,hp,hJ,hQ=>by
  unfold aCode at h
  obtain⟨r,cm,hA,hj⟩:=hJ
  split at h
  ·rename_i q1 hb
   have hv:a.eval c=.bool true:=by simpa using (show [a.eval c]=[Value.bool true] from evI_rep hj.2 hb)
   exact wp_cond_true hv (aCode_wpR hs h hp ⟨r,cm,hA,hj⟩ hQ)
  ·rename_i q1 hb
   have hv:a.eval c=.bool false:=by simpa using (show [a.eval c]=[Value.bool false] from evI_rep hj.2 hb)
   exact wp_cond_false hv (aCode_wpR hs h hp ⟨r,cm,hA,hj⟩ hQ)
  ·rename_i b q1 hb
   have hv:a.eval c=.bool b:=by have:=(evI_rep hj.2 hb).1;simpa using this
   cases h2:aCode P E call x s q1 with
   | none=>simp[h2] at h
   | some z =>
    obtain⟨e2,s2,ps2,q2⟩:=z
    simp only[h2,Option.map_some,Option.some.injEq,Prod.mk.injEq] at h
    obtain⟨rfl,rfl,rfl,rfl⟩:=h
    exact wp_cond_true (by rw[hv,hp.1]) (aCode_wpR hs h2 hp.2 ⟨r,cm,hA,hj⟩ hQ)
  ·rename_i b q1 hb
   have hv:a.eval c=.bool b:=by have:=(evI_rep hj.2 hb).1;simpa using this
   cases h2:aCode P E call y s q1 with
   | none=>simp[h2] at h
   | some z =>
    obtain⟨e2,s2,ps2,q2⟩:=z
    simp only[h2,Option.map_some,Option.some.injEq,Prod.mk.injEq] at h
    obtain⟨rfl,rfl,rfl,rfl⟩:=h
    exact wp_cond_false (by rw[hv,hp.1]) (aCode_wpR hs h2 hp.2 ⟨r,cm,hA,hj⟩ hQ)
  ·cases h
 | .block id c,V,s,s',q,q',e,ps,a,w,Q,h,hp,hJ,hQ=>by
  unfold aCode at h
  cases h2:aCode P E call c s q with
  | none=>simp[h2] at h
  | some z =>
   obtain⟨e2,s2,ps2,q2⟩:=z
   simp only[h2,Option.map_some,Option.some.injEq,Prod.mk.injEq] at h
   obtain⟨rfl,rfl,rfl,rfl⟩:=h
   refine wp_block (aCode_wpR hs h2 hp hJ fun a' W hW=>?_)
   have:=hQ a' W hW
   cases e2 with
   | nm=>exact this
   | rt=>exact this
   | ex k =>
    simp only at this
    show if k=id then Q .normal a' W else Q (.exit k) a' W
    split at this
    ·rw[if_pos (by assumption)];exact this
    ·rw[if_neg (by assumption)];exact this
 | .region id ops d,V,s,s',q,q',e,ps,a,w,Q,h,hp,hJ,hQ=>by
  unfold aCode at h
  obtain⟨r,cm,hA,hj⟩:=hJ
  cases d with
  | false =>
   simp only at h
   cases h2:aOps P E call ops noQ ops.toList { s with al:=0 } q with
   | none=>simp[h2] at h
   | some z =>
    obtain⟨s2,ob,q2⟩:=z
    simp only[h2,Option.map_some,Option.some.injEq,Prod.mk.injEq] at h
    obtain⟨rfl,rfl,rfl,rfl⟩:=h
    have:=wp_region_lit (id:=id) (l:=ops.toList) (aOps_seq (ops:=ops.toList.toArray) (Q:=Q) (s:={ s with al:=0 }) hs (by simpa using h2) hp hj fun a' W r' cm' hB hJ=>hQ a' W ⟨r',cm',hA.trans hB,hJ⟩)
    simpa using this
  | true =>
   simp only at h
   split at h
   ·rename_i hc1
    split at h
    ·rename_i hc2
     simp only[Bool.and_eq_true] at hc2
     obtain⟨hc2,_⟩:=hc2
     split at h
     ·rename_i hts
      split at h
      ·rename_i s2 ob q2 h2
       split at h
       ·rename_i hd
        cases h3:aOps P E call ops noQ (ops.toList.drop (cutN ops)) s2 q2 with
        | none=>simp[h3] at h
        | some z =>
         obtain⟨s3,ob3,q3⟩:=z
         simp only[h3,Option.map_some,Option.some.injEq,Prod.mk.injEq] at h
         obtain⟨rfl,rfl,rfl,rfl⟩:=h
         obtain⟨p1,p2⟩:=All.app hp
         simp only[Bool.and_eq_true] at hts
         obtain⟨ht1,ht2⟩:=hts
         have hC:Cond V (alB { s with al:=1 }) r cm s.m ob.st (List.range w.heap.size) r cm s.m :=
          ⟨Nat.le_refl _,fun _ _=>rfl,fun b x hb _=>⟨rfl,hb⟩,fun _ b hb=>List.mem_range.2 (hj.1.1.bd b hb),fun g hg=>List.mem_range.2 (Nat.lt_of_lt_of_le hg hj.1.1.ext.size),fun _ _=>rfl⟩
         have hmono:FMono (fun W=>S0 V w.heap.size r cm s.m ob.st W/\J V r cm s a W/\w.heap.size<=W.heap.size):=fun W W' hh hb=>⟨hC.s0 (s:=s) (J.mono _ _ hh.2.1 hb) (Nat.le_trans hh.2.2 hb.size),J.mono _ _ hh.2.1 hb,Nat.le_trans hh.2.2 hb.size⟩
         have:=wp_region_TG (id:=id) (l:=ops.toList) (Q:=Q) (a:=a) (w:=w) (cutN ops) (S0 V w.heap.size r cm s.m ob.st) (fun W=>J V r cm s a W/\w.heap.size<=W.heap.size) hc1 (by simpa using hc2) (by simpa using ht2) ⟨hC.s0 (s:=s) hj (Nat.le_refl _),hj,Nat.le_refl _⟩ hmono (fun W hW=>hW.1.2)
          (aOps_C hs (qk := noQ) (C := fun l a own F => WpT P ops.toList.toArray (S0 V w.heap.size r cm s.m ob.st) (fun a w => Q .normal a w) (ops.toList.drop (cutN ops)) l a own F) (fun _ _ _ _ _ _ h => h) (fun _ _ _ _ _ _ h => nomatch h) (ops := ops.toList.toArray) (s := { s with al := 1 }) (m0 := s.m) (X := ob.st) (by simpa using h2) p1 (show (1 : Nat) ≠ 0 by decide) (fun b hb => hb) (fun b hb => by
           have:=List.all_eq_true.1 hd b hb
           simp only[Bool.and_eq_true,Bool.not_eq_true',List.contains_eq_mem,decide_eq_false_iff_not] at this
           exact this) hC ⟨w,⟨hC.s0 (s:=s) hj (Nat.le_refl _),hj,Nat.le_refl _⟩⟩ (fun W hW=>hW.2) (fun a' own' F' r' cm' hB hex hF=>by
            show WpF _ _ _ _ (ops.toList.drop (cutN ops)) _ _ _
            exact tail_ops (List.all_eq_true.1 ht1) (E:=E) (call:=call) (ops:=ops.toList.toArray) (by simpa using h3) p2 hex hF (fun a2 W r2 cm2 hC hJ=>hQ a2 W ⟨r2,cm2,hA.trans (hB.trans hC),hJ⟩)))
         simpa using this
       ·cases h
      ·cases h
     split at h
     ·rename_i s2 ob q2 h2
      split at h
      ·rename_i hd
       simp only[Option.some.injEq,Prod.mk.injEq] at h
       obtain⟨rfl,rfl,rfl,rfl⟩:=h
       have hC:Cond V (alB { s with al:=1 }) r cm s.m ob.st (List.range w.heap.size) r cm s.m :=
        ⟨Nat.le_refl _,fun _ _=>rfl,fun b x hb _=>⟨rfl,hb⟩,fun _ b hb=>List.mem_range.2 (hj.1.1.bd b hb),fun g hg=>List.mem_range.2 (Nat.lt_of_lt_of_le hg hj.1.1.ext.size),fun _ _=>rfl⟩
       have:=wp_region_G (id:=id) (l:=ops.toList) (Q:=Q) (a:=a) (w:=w) (S0 V w.heap.size r cm s.m ob.st) (fun W=>J V r cm s a W/\w.heap.size<=W.heap.size) hc1 (by simpa using hc2) ⟨hC.s0 (s:=s) hj (Nat.le_refl _),hj,Nat.le_refl _⟩
        (fun W W' hh hb=>⟨hC.s0 (s:=s) (J.mono _ _ hh.2.1 hb) (Nat.le_trans hh.2.2 hb.size),J.mono _ _ hh.2.1 hb,Nat.le_trans hh.2.2 hb.size⟩) (fun W hW=>hW.1.2)
        (aOps_any hs (ops := ops.toList.toArray) (s := { s with al := 1 }) (m0 := s.m) (X := ob.st) (by simpa using h2) hp (show (1 : Nat) ≠ 0 by decide) (fun b hb => hb) (fun b hb => by
         have:=List.all_eq_true.1 hd b hb
         simp only[Bool.and_eq_true,Bool.not_eq_true',List.contains_eq_mem,decide_eq_false_iff_not] at this
         exact this) hC ⟨w,⟨hC.s0 (s:=s) hj (Nat.le_refl _),hj,Nat.le_refl _⟩⟩ (fun W hW=>hW.2) (fun a' W r' cm' hB hJ=>hQ a' W ⟨r',cm',hA.trans hB,hJ⟩))
       simpa using this
      ·cases h
     ·cases h
    ·split at h
     ·rename_i hfq
      simp only[Bool.and_eq_true] at hfq
      obtain⟨hfq,htl⟩:=hfq
      split at h
      ·rename_i s2 ob q2 h2
       split at h
       ·rename_i hd
        cases h3:aOps P E call ops noQ (pickA ops ((ordX ops).drop (lastN ops))) s2 q2 with
        | none=>simp[h3] at h
        | some z =>
         obtain⟨s3,ob3,q3⟩:=z
         simp only[h3,Option.map_some,Option.some.injEq,Prod.mk.injEq] at h
         obtain⟨rfl,rfl,rfl,rfl⟩:=h
         obtain⟨p1,p2⟩:=All.app hp
         have hC:Cond V (alB { s with al:=1 }) r cm s.m ob.st (List.range w.heap.size) r cm s.m :=
          ⟨Nat.le_refl _,fun _ _=>rfl,fun b x hb _=>⟨rfl,hb⟩,fun _ b hb=>List.mem_range.2 (hj.1.1.bd b hb),fun g hg=>List.mem_range.2 (Nat.lt_of_lt_of_le hg hj.1.1.ext.size),fun _ _=>rfl⟩
         have hmono:FMono (fun W=>S0 V w.heap.size r cm s.m ob.st W/\J V r cm s a W/\w.heap.size<=W.heap.size):=fun W W' hh hb=>⟨hC.s0 (s:=s) (J.mono _ _ hh.2.1 hb) (Nat.le_trans hh.2.2 hb.size),J.mono _ _ hh.2.1 hb,Nat.le_trans hh.2.2 hb.size⟩
         have hT:pickA ops ((ordX ops).drop (lastN ops))=[]\/∃o t x y,pickA ops ((ordX ops).drop (lastN ops))=[o]/\o.op=.store t x y:=isTl_spec htl
         have:=wp_region_P (id:=id) (l:=ops.toList) (Q:=Q) (a:=a) (w:=w) (ordX ops) (lastN ops) (qkA ops) (S0 V w.heap.size r cm s.m ob.st) (fun W=>S0 V w.heap.size r cm s.m ob.st W/\J V r cm s a W/\w.heap.size<=W.heap.size) hc1 (by simpa using hfq) ⟨hC.s0 (s:=s) hj (Nat.le_refl _),hj,Nat.le_refl _⟩ hmono (fun _ hW=>hW.1) (fun W hW=>hW.2.2)
          (aOps_C hs (C := fun l a own F => WpQ P ops.toList.toArray (S0 V w.heap.size r cm s.m ob.st) (qkA ops) (fun a w => Q .normal a w) (pickA ops.toList.toArray ((ordX ops).drop (lastN ops))) l a own F) (qk := qkA ops) (fun _ _ _ _ _ hq h => .inl ⟨hq, h⟩) (fun o _ _ _ _ v hq => ⟨qkA_kind hq, fun hw hr h => .inr ⟨hq, hw, v, hr, h⟩⟩) (ops := ops.toList.toArray) (s := { s with al := 1 }) (m0 := s.m) (X := ob.st) (by simpa using h2) p1 (show (1 : Nat) ≠ 0 by decide) (fun b hb => hb) (fun b hb => by
           have:=List.all_eq_true.1 hd b hb
           simp only[Bool.and_eq_true,Bool.not_eq_true',List.contains_eq_mem,decide_eq_false_iff_not] at this
           exact this) hC ⟨w,⟨hC.s0 (s:=s) hj (Nat.le_refl _),hj,Nat.le_refl _⟩⟩ (fun W hW=>hW.2) (fun a' own' F' r' cm' hB hex hF=>by
            show WpF _ _ _ _ (pickA ops.toList.toArray ((ordX ops).drop (lastN ops))) _ _ _
            rw[show ops.toList.toArray=ops by simp]
            rcases hT with ho|⟨o,t,x,y,ho,hst⟩
            ·rw [ho] at h3 ⊢
             unfold aOps at h3
             cases h3
             exact fun W hW=>hQ _ _ ⟨r',cm',hA.trans hB,hF W hW⟩
            ·rw [ho] at h3 ⊢
             exact tail_sto hst (E:=E) (call:=call) h3 p2 hex hF (fun a2 W r2 cm2 hC hJ=>hQ a2 W ⟨r2,cm2,hA.trans (hB.trans hC),hJ⟩)))
         simpa using this
       ·cases h
      ·cases h
     ·cases h
   ·cases h
 | .loop c,V,s,s',q,q',e,ps,a,w,Q,h,hp,hJ,hQ=>by
  unfold aCode at h
  have key:∀(n:Nat) (s:St) (q:List Bool) (ps:List Prop) (a:Act) (w:World),aLoop (fun s q=>aCode P E call c s q) n s q=some (e,s',ps,q')->All ps->JR m0 r0 cm0 V s a w->Code.rounds P c Q n a w:=by
   intro n
   induction n with
   | zero=>intro s q ps a w h;unfold aLoop at h;cases h
   | succ n ih =>
    intro s q ps a w h hp hJ
    unfold aLoop at h
    rw[rounds_succ]
    split at h
    ·cases h
    ·rename_i s1 ps1 q1 h1
     cases h2:aLoop (fun s q=>aCode P E call c s q) n s1 q1 with
     | none=>simp[h2] at h
     | some z =>
      obtain⟨e2,s2,ps2,q2⟩:=z
      simp only[h2,Option.map_some,Option.some.injEq,Prod.mk.injEq] at h
      obtain⟨rfl,rfl,rfl,rfl⟩:=h
      obtain⟨p1,p2⟩:=All.app hp
      exact aCode_wpR hs h1 p1 hJ fun a' W hW=>ih _ _ _ _ _ h2 p2 hW
    ·rename_i hne
     refine aCode_wpR hs h hp hJ fun a' W hW=>?_
     cases e with
     | nm=>exact absurd h (hne _ _ _)
     | rt=>exact hQ _ _ hW
     | ex k=>exact hQ _ _ hW
  exact wp_loop_rounds _ (key _ _ _ _ _ _ h hp hJ)
 | .rangeFunc _ _ _ _,V,s,s',q,q',e,ps,a,w,Q,h,hp,hJ,hQ=>by unfold aCode at h;cases h
 | .scope _,V,s,s',q,q',e,ps,a,w,Q,h,hp,hJ,hQ=>by unfold aCode at h;cases h
 | .goto _,V,s,s',q,q',e,ps,a,w,Q,h,hp,hJ,hQ=>by unfold aCode at h;cases h
 | .refuse _,V,s,s',q,q',e,ps,a,w,Q,h,hp,hJ,hQ=>by unfold aCode at h;cases h
theorem aCode_wp(hs:Sound P E call){c:Code}{V:World}{s s':St}{q q':List Bool}{e:Ex}{ps:List Prop}{a:Act}{w:World}{Q:Exit->Act->World->Prop}(h:aCode P E call c s q=some (e,s',ps,q'))(hp:All ps)(hJ:JJ V s a w)(hQ:∀a' W,JJ V s' a' W->Q e.go a' W):c.wp P Q a w:=by
 obtain⟨r,cm,hj⟩:=hJ
 exact aCode_wpR (m0:=s.m) (r0:=r) (cm0:=cm) hs h hp ⟨r,cm,.rfl,hj⟩ fun a' W ⟨r',cm',_,h⟩=>hQ a' W ⟨r',cm',h⟩
end
end

section
section
variable {P:Program} {E:Env} {V W:World} {r:Nat->Nat} {cm:Nat->List Value} {s:St} {a:Act}
def rvM(a:Act):ResultVar->Sem Value
 | .tmp t=>pure (a.tmps.getD t undef)
 | .cell b t=>do loadVar t (<- asAddr (a.tmps.getD b undef))
theorem results_eq(fn:Func)(a:Act):results fn a.tmps=(fn.results.mapM (rvM a) >>= fun vs=>pure (if h:vs.size=1 then vs[0] else .tuple vs)):=by
 unfold results
 rfl
theorem aRes_run(hJ:J V r cm s a W){rv:ResultVar}{v:V1}(h:aRes P s rv=some v) :
  ∃x,RepV V W r s.m.length v x/\(rvM a rv).run P W=.ok x W:=by
 unfold aRes at h
 split at h
 ·rename_i t
  split at h
  ·rename_i u hu
   cases h
   exact⟨_,hJ.2.2 t _ hu,rfl⟩
  ·cases h
 ·rename_i b T
  split at h
  ·rename_i bb o hu
   cases hb:mb s.m bb with
   | none=>simp[hb] at h
   | some m =>
    simp only[hb,Option.bind_some] at h
    obtain⟨hg,hr⟩:=hJ.1.1.blk bb m hb
    obtain⟨n,p1,p2,p3,p4,p5⟩:=partI_repP h hr
    have hp:RepV V W r s.m.length ⟨false,[.p bb o]⟩ (a.tmps.getD b undef):=hJ.2.2 b _ hu
    have hp2:a.tmps.getD b undef=.pointer (some ⟨r bb,o,none⟩):=by simpa using hp.scal.2
    refine⟨_,⟨_,p3,rfl,fun e=>by have:=p5 e;simp;omega⟩,?_⟩
    rw[rvM,Sem.run_bind,hp2]
    simp only[asAddr,Sem.run_pure,Result.andThen_ok]
    exact run_loadVarT hg p1 p2 p4 p5
  ·cases h
theorem aRess_run(hJ:J V r cm s a W):∀ {l:List ResultVar} {vs:List V1},aRess P s l=some vs->∃xs,RepVs V W r s.m.length vs xs/\(l.mapM (rvM a)).run P W=.ok xs W
 | [],_,h=>by cases h;exact⟨[],rfl,rfl⟩
 | rv::l,vs,h=>by
  unfold aRess at h
  split at h
  ·rename_i v w h1 h2
   cases h
   obtain⟨x,k1,k2⟩:=aRes_run hJ h1
   obtain⟨xs,k3,k4⟩:=aRess_run hJ h2
   refine⟨x::xs,⟨x,xs,rfl,k1,k3⟩,?_⟩
   rw[List.mapM_cons,Sem.run_bind]
   rw[k2]
   rw[Result.andThen_ok,Sem.run_bind,k4]
   rfl
  ·cases h
theorem RepVs.len:∀ {l:List V1} {xs:List Value} {k:Nat},RepVs V W r k l xs->l.length=xs.length
 | [],_,_,e=>by cases e;rfl
 | _::_,_,_,⟨x,ys,e,_,h⟩=>by subst e;simp[RepVs.len h]
theorem RepVs.get:∀ {l:List V1} {xs:List Value} {k i:Nat} {v:V1},RepVs V W r k l xs->l[i]? = some v->RepV V W r k v (xs[i]?.getD undef)
 | [],_,_,_,_,_,h=>by simp at h
 | u::l,_,_,0,v,⟨x,ys,e,h1,h2⟩,h=>by
  simp only[List.getElem?_cons_zero,Option.some.injEq] at h
  subst h e
  exact h1
 | u::l,_,_,i+1,v,⟨x,ys,e,h1,h2⟩,h=>by
  subst e
  simpa using RepVs.get (i:=i) h2 (by simpa using h)
theorem toO_v{v:V1}{x:Value}(h:RepV W W (fun _=>0) 0 v x):RepV W W (fun _=>0) 0 (toOV v) x:=by
 obtain⟨cs,h1,h2,h3⟩:=h
 have key:∀ {l:List It} {cs:List Value},RepL W W (fun _=>0) 0 l cs->RepL W W (fun _=>0) 0 (l.map toO) cs:=by
  intro l
  induction l with
  | nil=>intro cs e;exact e
  | cons i l ih =>
   intro cs h
   obtain⟨c,d,e,k1,k2⟩:=h
   refine⟨c,d,e,?_,ih k2⟩
   cases i<;>exact k1
 exact⟨cs,key h1,h2,h3⟩
theorem start_J{args:List V1}{vals:List Value}{n:Nat}(h:RepVs W W (fun _=>0) 0 args vals):J W (fun _=>0) (fun _=>[]) ⟨⟨args.length+(n-args.length),(Tr.full 12).fill 0 (args.map fun v=>.one (toOV v))⟩,[],0⟩ { tmps:=vals.toArray++Array.replicate (n-vals.toArray.size) undef,defers:=[] } W:=by
 have hl:=h.len
 refine⟨⟨⟨Below.refl _ _,fun b x hb=>absurd (mb_lt hb) (Nat.not_lt_zero b),fun b x hb=>absurd (mb_lt hb) (Nat.not_lt_zero b),fun b c x y hb=>absurd (mb_lt hb) (Nat.not_lt_zero b),fun b hb=>absurd hb (Nat.not_lt_zero b)⟩,rfl⟩,by simp[hl],fun i v hi=>?_⟩
 rcases Tr.fill_get (Tm.get_lt hi).2 with⟨_,hi⟩|⟨hi,hge⟩
 ·rw [Nat.sub_zero, List.getElem?_map] at hi
  cases hv:args[i]? with
  | none=>simp[hv] at hi
  | some u =>
   simp only[hv,Option.map_some,Option.some.injEq] at hi
   subst hi
   have hlt:=(List.getElem?_eq_some_iff.1 hv).1
   have:=h.get hv
   have hlt2:i<vals.length:=by omega
   simp only[Array.getD_eq_getD_getElem?]
   rw[Array.getElem?_append_left (by simpa using hlt2)]
   have:=toO_v this
   simpa[RepA] using this
 ·obtain rfl := Tr.full_get hi
  simp only[List.length_map] at hge
  have hge:vals.length<=i:=by omega
  simp only[Array.getD_eq_getD_getElem?]
  rw[Array.getElem?_append_right (by simpa using hge)]
  show _=undef
  simp only[Array.getElem?_replicate]
  split<;>rfl
theorem blI_mem:∀ {l:List It} {i:It} {b:Nat},i∈l->(∀o,i ≠ .p b o)/\(∀n z,i ≠ .sl b n z)\/b∈blI l
 | [],_,_,h=>by cases h
 | j::l,i,b,h=>by
  by_cases hx:(∀o,i ≠ .p b o)/\(∀n z,i ≠ .sl b n z)
  ·exact .inl hx
  right
  have sub:∀x,x∈blI l->x∈blI (j::l):=by
   intro x hx
   unfold blI
   split
   ·split
    ·exact hx
    ·exact List.mem_cons_of_mem _ hx
   ·split
    ·exact hx
    ·exact List.mem_cons_of_mem _ hx
   ·exact hx
  rcases List.mem_cons.1 h with rfl|h
  ·have:(∃o,i=.p b o)\/(∃n z,i=.sl b n z):=by
    apply Classical.byContradiction
    intro hn
    exact hx ⟨fun o e=>hn (.inl ⟨o,e⟩),fun n z e=>hn (.inr ⟨n,z,e⟩)⟩
   rcases this with⟨o,rfl⟩|⟨n,z,rfl⟩
   ·unfold blI
    simp only
    split
    ·rename_i hc;simpa using hc
    ·exact List.mem_cons_self ..
   ·unfold blI
    simp only
    split
    ·rename_i hc;simpa using hc
    ·exact List.mem_cons_self ..
  ·rcases blI_mem (b := b) h with h1 | h1
   ·exact absurd h1 hx
   ·exact sub b h1
theorem blI_nodup:∀l:List It,(blI l).Nodup
 | []=>List.nodup_nil
 | j::l=>by
  unfold blI
  have ih:=blI_nodup l
  split
  ·split
   ·exact ih
   ·rename_i hc;exact List.nodup_cons.2 ⟨by simpa using hc,ih⟩
  ·split
   ·exact ih
   ·rename_i hc;exact List.nodup_cons.2 ⟨by simpa using hc,ih⟩
  ·exact ih
theorem outB_at{m:List (Option Mb)}:∀ {bs:List Nat} {ms:List Mb},outB m bs=some ms->ms.length=bs.length/\∀(j:Nat) (x:Mb),ms[j]? = some x->∃b y,bs[j]? = some b/\mb m b=some y/\frzL y.l=some x.l/\y.T=x.T
 | [],_,h=>by cases h;exact⟨rfl,fun j x hx=>by simp at hx⟩
 | b::bs,ms,h=>by
  unfold outB at h
  split at h
  ·rename_i x r hx hr
   cases h
   obtain⟨k1,k2⟩:=outB_at hr
   refine⟨by simp[k1],fun j y hy=>?_⟩
   cases j with
   | zero =>
    simp only[List.getElem?_cons_zero,Option.some.injEq] at hy
    subst hy
    cases hb:mb m b with
    | none=>simp[hb] at hx
    | some y =>
     cases hf:frzL y.l with
     | none=>simp[hb,hf] at hx
     | some l =>
      simp only[hb,hf,Option.bind_some,Option.map_some,Option.some.injEq] at hx
      subst hx
      exact⟨b,y,rfl,hb,hf,rfl⟩
   | succ j=>exact k2 j y (by simpa using hy)
  ·cases h
theorem RM.out{V W:World}{m:List (Option Mb)}{bs:List Nat}{ms:List Mb}{r:Nat->Nat}{cm:Nat->List Value}(h:RM V r cm m W)(ho:outB m bs=some ms)(hn:bs.Nodup):RM V (fun j=>r (bs[j]?.getD 0)) (fun j=>cm (bs[j]?.getD 0)) (ms.map some) W:=by
 obtain⟨k1,k2⟩:=outB_at ho
 have key:∀j x,mb (ms.map some) j=some x->∃b y,bs[j]? = some b/\mb m b=some y/\frzL y.l=some x.l/\y.T=x.T:=by
  intro j x hx
  rw[mb_at,List.getElem?_map] at hx
  cases hj:ms[j]? with
  | none=>simp[hj] at hx
  | some z =>
   simp only[hj,Option.map_some,Option.some.injEq] at hx
   subst hx
   exact k2 j z hj
 refine⟨h.ext,fun j x hx=>?_,fun j x hx=>?_,fun j j' x y hx hy e=>?_,fun j hj=>?_⟩
 ·obtain ⟨b, y, h1, h2, h3, h4⟩ := key j x hx
  obtain⟨h5,c,d,h6,h7,h8⟩:=h.blk b y h2
  simp only[h1,Option.getD_some]
  refine⟨by rw[h5,h4],c,d,h6,?_,h8⟩
  have hf:=frzL_rep h.ext h3 h7
  have up:∀ {l:List It} {cs:List Value},l.all It.np=true->RepF W (l.map unO) cs->RepL V W (fun j=>r (bs[j]?.getD 0)) (ms.map some).length (l.map unO) cs:=by
   intro l
   induction l with
   | nil=>intro cs _ e;exact e
   | cons i l ih =>
    intro cs hl h
    obtain⟨c,d,e,q1,q2⟩:=h
    simp only[List.all_cons,Bool.and_eq_true] at hl
    refine⟨c,d,e,?_,ih hl.2 q2⟩
    cases i<;>first|exact q1|cases hl.1
  unfold frzL at h3
  split at h3
  ·rename_i hnp
   have h3:=Option.some.inj h3
   rw[<- h3] at hf ⊢
   exact up hnp hf
  ·cases h3
 ·obtain ⟨b, y, h1, h2, _⟩ := key j x hx
  simp only[h1,Option.getD_some]
  exact h.lo b y h2
 ·obtain ⟨b, y1, h1, h2, _⟩ := key j x hx
  obtain⟨b',y2,h3,h4,_⟩:=key j' y hy
  simp only[h1,h3,Option.getD_some] at e
  have:=h.inj b b' y1 y2 h2 h4 e
  subst this
  exact (List.getElem?_inj (List.getElem?_eq_some_iff.1 h1).1 hn).1 (h1.trans h3.symm)
 ·have hj : j < ms.length := by simpa using hj
  obtain⟨b,y,h1,h2,_⟩:=key j ms[j] (mb_at.2 (by simp[hj]))
  simp only[h1,Option.getD_some]
  exact h.bd b (mb_lt h2)
theorem outI_rep{V W:World}{m:List (Option Mb)}{bs:List Nat}{r:Nat->Nat}{k:Nat}{i j:It}{cs:List Value}(hx:Ext V W)(hb:∀b,((∀o,i ≠ .p b o)/\(∀n z,i ≠ .sl b n z))\/b∈bs)(hk:∀j,j<bs.length->bs[j]?.getD 0<k)(h:outI bs i=some j)(hr:RepI V W r k i cs):RepI V W (fun j=>r (bs[j]?.getD 0)) bs.length j cs:=by
 have at':∀b,b∈bs->r (bs[bs.idxOf b]?.getD 0)=r b/\bs.idxOf b<bs.length:=by
  intro b hb
  have hlt:=List.idxOf_lt_length_iff.2 hb
  exact⟨by rw[List.getElem?_eq_getElem hlt,Option.getD_some,List.getElem_idxOf],hlt⟩
 cases i with
 | p b o =>
  cases h
  obtain⟨h1,h2⟩:=at' b ((hb b).resolve_left fun h=>h.1 o rfl)
  exact⟨h2,by rw[hr.2];simp only[h1]⟩
 | sl b n z =>
  cases h
  obtain⟨h1,h2⟩:=at' b ((hb b).resolve_left fun h=>h.2 n z rfl)
  obtain⟨_,q,xs,T,k1,k2,k3⟩:=hr
  exact⟨h2,q,xs,T,by rw[k1];simp only[h1],by simp only[h1];exact k2,k3⟩
 | o D=>cases h;exact Dat.ext hx hr
 | fp l=>cases h
 | fs o l n z=>cases h
 | fn f l=>cases h
 | ds L=>cases h
 | dr L k=>cases h
 | px b z n len=>cases h
 | ro z n f=>cases h
 | gp T l=>cases h
 | ol T z n f =>
  cases h
  obtain⟨v,e,hr⟩:=hr
  refine⟨v,e,?_⟩
  rcases hr with hr|⟨g,c,xs,e2,⟨h1,h2⟩,h3⟩
  ·exact .inl hr
  ·exact .inr ⟨g,c,xs,e2,⟨h1,fun j hj=>h2 _ (hk j hj)⟩,h3⟩
 | _=>cases h;exact hr
theorem outL_rep{V W:World}{m:List (Option Mb)}{bs:List Nat}{r:Nat->Nat}{k:Nat}(hx:Ext V W)(hk:∀j,j<bs.length->bs[j]?.getD 0<k):∀ {l l':List It} {cs:List Value},(∀i∈l,∀b,((∀o,i ≠ .p b o)/\(∀n z,i ≠ .sl b n z))\/b∈bs)->outL bs l=some l'->RepL V W r k l cs->RepL V W (fun j=>r (bs[j]?.getD 0)) bs.length l' cs
 | [],_,_,_,h,e=>by cases h;exact e
 | i::l,l',_,hb,h,⟨c,d,e,h1,h2⟩=>by
  unfold outL at h
  split at h<;>cases h
  exact⟨c,d,e,outI_rep (m:=m) hx (hb i (List.mem_cons_self ..)) hk (by assumption) h1,outL_rep (m:=m) hx hk (fun i hi=>hb i (List.mem_cons_of_mem _ hi)) (by assumption) h2⟩
theorem outVs_rep{V W:World}{m:List (Option Mb)}{bs:List Nat}{r:Nat->Nat}{k:Nat}(hx:Ext V W)(hk:∀j,j<bs.length->bs[j]?.getD 0<k):∀ {l l':List V1} {xs:List Value},(∀v∈l,∀i∈v.l,∀b,((∀o,i ≠ .p b o)/\(∀n z,i ≠ .sl b n z))\/b∈bs)->outVs bs l=some l'->RepVs V W r k l xs->RepVs V W (fun j=>r (bs[j]?.getD 0)) bs.length l' xs
 | [],_,_,_,h,e=>by cases h;exact e
 | v::l,l',_,hb,h,⟨x,ys,e,⟨cs,h1,h2,h3⟩,h4⟩=>by
  unfold outVs at h
  split at h<;>cases h
  exact⟨x,ys,e,⟨cs,outL_rep (m:=m) hx hk (hb v (List.mem_cons_self ..)) (by assumption) h1,h2,h3⟩,outVs_rep (m:=m) hx hk (fun v hv=>hb v (List.mem_cons_of_mem _ hv)) (by assumption) h4⟩
def oneA(l:List V1):AV:=match l with | [v]=>.one v|l=>.tup l
theorem fin_ok{fn:Func}{s:St}{l l':List V1}{ms:List Mb}(hl:aRess P s fn.results.toList=some l)(hl':outVs (blI (l.map V1.l).flatten) l=some l')(hms:outB s.m (blI (l.map V1.l).flatten)=some ms){res:AV×List Mb}(hres:res=(oneA l',ms)){W W':World}{a':Act}(hJ:JJ W s a' W') :
  a'.defers=[]/\∃v,(results fn a'.tmps).run P W'=.ok v W'/\∃v' r cm,Ending.returned v=.returned v'/\RM W r cm (res.2.map some) W'/\RepA W W' r res.2.length res.1 v':=by
 obtain⟨r',cm',hJ⟩:=hJ
 obtain⟨xs,h1,h2⟩:=aRess_run hJ hl
 have hRM:=hJ.1.1.out hms (blI_nodup _)
 have h3:=outVs_rep (m:=s.m) hJ.1.1.ext (fun j hj=>by
  obtain⟨q1,q2⟩:=outB_at hms
  obtain ⟨b, y, q3, q4, _⟩ := q2 j (ms[j]'(by omega)) (List.getElem?_eq_getElem _)
  rw[q3]
  exact mb_lt q4) (fun v hv i hi b=>blI_mem (l:=(l.map V1.l).flatten) (List.mem_flatten.2 ⟨v.l,List.mem_map.2 ⟨v,hv,rfl⟩,hi⟩)) hl' h1
 have hlen:=(outB_at hms).1
 have hrun:(results fn a'.tmps).run P W'=.ok (if h:xs.toArray.size=1 then xs.toArray[0] else .tuple xs.toArray) W':=by
  rw[results_eq,Sem.run_bind,Array.mapM_eq_mapM_toList,Sem.run_map,h2]
  rfl
 have hc:(∃v,l'=[v])\/(l'.length≠1/\res=(.tup l',ms)):=by
  match l',hres with
  | [],h=>exact .inr ⟨by simp,h⟩
  | [v],_=>exact .inl ⟨v,rfl⟩
  | _::_::_,h=>exact .inr ⟨by simp,h⟩
 rcases hc with⟨v,rfl⟩|⟨hne,rfl⟩
 ·obtain rfl : res = (.one v, ms) := hres
  obtain⟨x,ys,e,h4,h5⟩:=h3
  cases h5
  subst e
  exact⟨hJ.1.2,_,hrun,_,_,_,rfl,hRM,by rw[hlen];exact h4⟩
 ·refine ⟨hJ.1.2, _, hrun, _, _, _, rfl, hRM, ?_⟩
  rw[dif_neg (by have:=h3.len;simp;omega),hlen]
  exact⟨xs,rfl,h3⟩
def KOk(P:Program)(K:FuncId->Option (List V1->Option (AV×List Prop))):Prop:=∀f g args res ps,K f=some g->g args=some (res,ps)->All ps->Fok P f args res
theorem aFun_ok {K : FuncId -> Option (List V1 -> Option (AV × List Prop))} (hN : ∀ (f : FuncId) (fn : Func), P.funcs[f]? = some fn -> (fn.name == "runtime.NumGoroutine") = false) (hE : ∀ t n, E.eq.lookup t = some n -> EqOk P t n) (hX : ∀ f g, E.eff.lookup f = some g -> EffOk P f g) (hM : ∀ T name n wd, E.mt.lookup (T, name) = some (n, wd) -> MtOk P T name n wd) (hW : ∀ f, E.wr.contains f = true -> WrapOk P f) (hK : KOk P K) :
  ∀n,Sound P E (aFun P E K n)
 | 0=>⟨hN,hE,hX,hM,hW,fun _ _ _ _ _ _ h=>by unfold aFun at h;cases h⟩
 | n+1=>⟨hN,hE,hX,hM,hW,fun f args q res ps q' h hp=>by
  have ih:=aFun_ok hN hE hX hM hW hK n
  unfold aFun at h
  split at h
  ·rename_i g hg
   cases hr:g (args.map nrmV) with
   | none=>simp[hr] at h
   | some z =>
    obtain⟨z1,z2⟩:=z
    simp only[hr,Option.map_some,Option.some.injEq,Prod.mk.injEq] at h
    obtain⟨rfl,rfl,rfl⟩:=h
    exact Fok.toB fun W vals hv=>hK f g _ _ _ hg hr hp W vals (nrm_vs hv)
  ·split at h
   ·cases h
   ·rename_i fn hf
    split at h
    ·cases h
    ·rename_i c hc
     split at h
     ·cases h
     ·rename_i e s' ps' q1 hcode
      intro W vals hv
      refine calls_of_wp hf hc ?_
      split at h
      ·cases h
      ·rename_i hex
       split at h
       ·rename_i l hl
        split at h
        ·rename_i l' ms hl' hms
         have hps:ps=ps':=by
          split at h<;>cases h<;>rfl
         subst hps
         refine aCode_wp ih hcode hp ⟨_,_,start_J hv⟩ fun a' W' hJ=>?_
         have:=fin_ok hl hl' hms (res:=res) (by unfold oneA;split at h<;>cases h<;>simp_all) hJ
         cases e with
         | nm=>exact this
         | rt=>exact this
         | ex k=>exact absurd rfl (hex k)
        ·cases h
       ·cases h⟩
structure Pf where
 p:Prop
 h:p
theorem all_pf:∀l:List Pf,All (l.map Pf.p)
 | []=>trivial
 | x::l=>⟨x.h,all_pf l⟩
end
end
structure Ed where
 k:Int
 ax:Int
 ay:Int
 bx:Int
 by':Int
 cx:Int
 cy:Int
 deriving DecidableEq
def Co(x:Int):Prop := -67108864<=x/\x<=67108864
theorem coordB_iff{x y:Int}:coordB x y=true <-> Co x/\Co y:=by
 simp[coordB,Co];constructor
 ·intro h;omega
 ·intro h;omega
def quarterB(dx dy ux uy:Int)(t:Nat):Bool:=((dx==0) != (dy==0))&&(ux==(rot t (dx,dy)).1&&uy==(rot t (dx,dy)).2)
def Ed.right(e:Ed):Bool:=coordB e.ax e.ay&&coordB e.bx e.by'&&coordB e.cx e.cy
def Ed.lone(e:Ed):Bool:=e.cx==0&&e.cy==0
def Ed.quarter(e:Ed)(t:Nat):Bool:=quarterB (e.ax-e.cx) (e.ay-e.cy) (e.bx-e.cx) (e.by'-e.cy) t
def Ed.ok(e:Ed):Bool:=e.right&&(if e.k=1 then e.lone else if e.k=2 then e.quarter 1 else if e.k=3 then e.quarter 3 else false)
structure Fam where
 c:Value
 o:Value
 r:Value
 k:Int
def fam(k:Int):Fam :=
 if k=1 then ⟨.func (.func 242) #[] #[],.func (.func 243) #[] #[],.func (.func 244) #[] #[],1⟩
 else if k=2 then ⟨.func (.func 245) #[] #[],.func (.func 246) #[] #[],.func (.func 247) #[] #[],3⟩
 else if k=3 then ⟨.func (.func 248) #[] #[],.func (.func 246) #[] #[],.func (.func 247) #[] #[],2⟩
 else ⟨.nilFunc,.nilFunc,.nilFunc,k⟩
def kindB(k:Int):Bool:=k==1||k==2||k==3
theorem kindB_fam{k:Int}(h:kindB k=false):fam k=⟨.nilFunc,.nilFunc,.nilFunc,k⟩:=by
 simp[kindB] at h
 unfold fam
 rw[if_neg h.1.1,if_neg h.1.2,if_neg h.2]
def checkZ(e:Ed):Int:=if e.ok then 0 else if kindB e.k&&!e.right then 10 else 11
theorem checkZ_11a{e:Ed}(h:e.ok=false)(hk:¬1<=e.k):checkZ e=11:=by
 have:kindB e.k=false:=by simp[kindB];omega
 simp[checkZ,h,this]
theorem checkZ_11b{e:Ed}(h:e.ok=false)(hk:¬e.k<=3):checkZ e=11:=by
 have:kindB e.k=false:=by simp[kindB];omega
 simp[checkZ,h,this]
theorem checkZ_11c{e:Ed}(h:e.ok=false)(hA:coordB e.ax e.ay=true)(hB:coordB e.bx e.by'=true)(hC:coordB e.cx e.cy=true):checkZ e=11:=by
 simp[checkZ,h,Ed.right,hA,hB,hC]
theorem checkZ_10{e:Ed}(h:e.ok=false)(h1:1<=e.k)(h3:e.k<=3)(hr:coordB e.ax e.ay=false\/coordB e.bx e.by'=false\/coordB e.cx e.cy=false):checkZ e=10:=by
 have:kindB e.k=true:=by simp[kindB];omega
 have:e.right=false:=by rcases hr with h|h|h<;>simp[Ed.right,h]
 simp[checkZ, *]
theorem mul_bd{x y m n:Int}(hx : -m<=x/\x<=m)(hy : -n<=y/\y<=n) : -(m*n)<=x*y/\x*y<=m*n:=by
 have h1:x.natAbs<=m.natAbs:=by omega
 have h2:y.natAbs<=n.natAbs:=by omega
 have h3:(x*y).natAbs<=(m*n).natAbs:=by rw[Int.natAbs_mul,Int.natAbs_mul];exact Nat.mul_le_mul h1 h2
 have h4:0<=m*n:=Int.mul_nonneg (by omega) (by omega)
 omega
def Di(x:Int):Prop := -134217728<=x/\x<=134217728
theorem Co.sub{x y:Int}(hx:Co x)(hy:Co y):Di (x-y):=by unfold Co Di at *;omega
theorem Di.mul{x y:Int}(hx:Di x)(hy:Di y) : -18014398509481984<=x*y/\x*y<=18014398509481984:=by
 have:=mul_bd (m:=134217728) (n:=134217728) hx hy
 omega
theorem Di.i64{x:Int}(h:Di x):I64 x:=by unfold Di I64 at *;omega
theorem Di.mul64{x y:Int}(hx:Di x)(hy:Di y):I64 (x*y):=by have:=hx.mul hy;unfold I64;omega
theorem Di.cross{a b c d:Int}(ha:Di a)(hb:Di b)(hc:Di c)(hd:Di d):I64 (a*b-c*d):=by have:=ha.mul hb;have:=hc.mul hd;unfold I64;omega
theorem Di.dot{a b c d:Int}(ha:Di a)(hb:Di b)(hc:Di c)(hd:Di d):I64 (a*b+c*d):=by have:=ha.mul hb;have:=hc.mul hd;unfold I64;omega
def powerI(dx dy ax ay:Int):Int:=dx*dx+dy*dy-(ax*ax+ay*ay)
def radZ(e:Ed):Int:=if e.ok&&!(e.k==1) then max (max (e.ax-e.cx) (-(e.ax-e.cx))) (max (e.ay-e.cy) (-(e.ay-e.cy))) else 0
theorem radZ_line{e:Ed}(h:e.k=1):radZ e=0:=by simp[radZ,h]
theorem ok_right{e:Ed}(h:e.ok=true):(Co e.ax/\Co e.ay)/\(Co e.bx/\Co e.by')/\(Co e.cx/\Co e.cy):=by
 simp only[Ed.ok,Ed.right,Bool.and_eq_true] at h
 exact⟨coordB_iff.1 h.1.1.1,coordB_iff.1 h.1.1.2,coordB_iff.1 h.1.2⟩
def inB(x0 y0 x1 y1 px py:Int):Bool:=decide (x0<=px)&&(decide (px<=x1)&&(decide (y0<=py)&&decide (py<=y1)))
def onE(e:Ed)(px py:Int):Bool :=
 e.ok&&(inB (min e.ax e.bx) (min e.ay e.by') (max e.ax e.bx) (max e.ay e.by') px py&&(if e.k=1 then sideI ((e.bx-e.ax)*(py-e.ay)-(e.by'-e.ay)*(px-e.ax))==0 else powerI (px-e.cx) (py-e.cy) (e.ax-e.cx) (e.ay-e.cy)==0))
def revE(e:Ed):Ed:=⟨(fam e.k).k,e.bx,e.by',e.ax,e.ay,e.cx,e.cy⟩
theorem kind_of{e:Ed}(h:e.ok=true):e.k=1\/e.k=2\/e.k=3:=by
 simp only[Ed.ok,Bool.and_eq_true] at h
 have h2:=h.2
 by_cases k1:e.k=1
 ·exact .inl k1
 ·by_cases k2 : e.k = 2
  ·exact .inr (.inl k2)
  ·by_cases k3 : e.k = 3
   ·exact .inr (.inr k3)
   ·rw[if_neg k1,if_neg k2,if_neg k3] at h2;cases h2
theorem rad_pos{e:Ed}(h:e.ok=true)(hk:¬e.k=1):0<radZ e:=by
 have hq:((e.ax-e.cx==0) != (e.ay-e.cy==0))=true:=by
  simp only[Ed.ok,Bool.and_eq_true,if_neg hk] at h
  have h2:=h.2
  split at h2
  ·simp only[Ed.quarter,quarterB,Bool.and_eq_true] at h2;exact h2.1
  ·split at h2
   ·simp only[Ed.quarter,quarterB,Bool.and_eq_true] at h2;exact h2.1
   ·cases h2
 have hkb:(e.k==1)=false:=by simpa using hk
 unfold radZ
 rw[h,hkb]
 simp only[Bool.not_false,Bool.and_true,if_true]
 by_cases h1:e.ax-e.cx=0
 ·by_cases h2 : e.ay - e.cy = 0
  ·simp[h1,h2] at hq
  ·omega
 ·omega
theorem rad_le{e:Ed}(h:e.ok=true):radZ e<=134217728:=by
 obtain⟨⟨h1,h2⟩,_,h5,h6⟩:=ok_right h
 unfold radZ
 unfold Co at *
 split<;>omega
theorem checkZ_nz{e:Ed}(h:e.ok=false):(checkZ e==0)=false:=by
 unfold checkZ
 rw[h]
 cases (kindB e.k&&!e.right)<;>rfl
theorem checkZ_z{e:Ed}(h:e.ok=true):checkZ e=0:=by unfold checkZ;rw[h];rfl
theorem eql_pt(w:World)(a b c d:Int):(binOp .eql 24 (.agg #[.int .i64 a,.int .i64 b]) (.agg #[.int .i64 c,.int .i64 d])).run Tryz.prog w=.ok (.bool (a==c&&b==d)) w:=by
 by_cases h:a=c
 ·by_cases h2 : b = d
  ·subst h h2;go_simp
  ·have h3 : (b == d) = false := by simpa using h2
   subst h
   go_simp
 ·have h3 : (a == c) = false := by simpa using h
  go_simp

set_option maxHeartbeats 1000000
set_option maxRecDepth 100000
section
def enc(d:List Nat):List Value:=d.map fun x:Nat=>Value.int .u32 (x:Int)
theorem enc_length(d:List Nat):(enc d).length=d.length:=by simp[enc]
theorem enc_get(d:List Nat)(i:Nat)(h:i<d.length):(enc d)[i]? = some (.int .u32 ((d[i]?.getD 0:Nat):Int)):=by
 simp[enc,List.getElem?_eq_getElem h]
theorem enc_one(d:List Nat):∀u∈enc d,u.oneCell'=true:=by
 intro u hu
 obtain⟨x,_,rfl⟩:=List.mem_map.1 hu
 rfl
theorem add_none(b o j:Nat):(⟨b,o,none⟩:Addr).add j=⟨b,o+j,none⟩:=by
 unfold Addr.add
 split
 ·rename_i h;subst h;rfl
 ·rfl
theorem row_news{w:World}{b o:Nat}{d:List Nat}(hc:∀i,i<d.length->w.cell? ⟨b,o+i,none⟩=some (.int .u32 ((d[i]?.getD 0:Nat):Int))) :
  ∀j u,(enc d)[j]? = some u->w.cell? ((⟨b,o,none⟩:Addr).add j)=some u:=by
 intro j u hu
 have hj:j<d.length:=by
  have:=(List.getElem?_eq_some_iff.1 hu).1
  rwa [enc_length] at this
 rw[add_none,hc j hj,<- enc_get d j hj,hu]
theorem row_of_owns{w:World}{base e:Nat}{v:Value}{n:Nat}{d:List Nat}(h:w.ownsRow base e 1 v n (enc d))(hd:Dig d) :
  ∃p c,v=.slice p d.length c/\Row w p c d/\∀a,p=some a->base<=a.block:=by
 obtain⟨h1,h2⟩:=h
 rw[enc_length,Nat.mul_one] at h1
 subst h1
 rcases h2 with⟨rfl,hn⟩|⟨g,cap,cur,rfl,hb,hg,hnc,hcm,hcs,ht⟩
 ·have : d = [] := List.eq_nil_of_length_eq_zero hn
  subst this
  exact⟨none,0,rfl,Row.nil w,fun a ha=>by cases ha⟩
 ·refine ⟨some ⟨g, 0, none⟩, cap, rfl, ⟨hnc, by simpa [maxLen] using hcm, hd, fun h0 => ⟨g, 0, rfl, (Array.getElem?_eq_some_iff.1 hg).1, fun i hi => ?_⟩⟩, fun a ha => by cases ha; exact hb⟩
  rw[cell_of_row w g (0+i) cur e (0,0) hg,<- enc_get d i hi,<- ht,Nat.mul_one,List.getElem?_take,if_pos hi,Nat.zero_add]
  simp
theorem info32:(Tryz.prog.info? 186).map (fun i=>(i.zero,i.size,i.bytes))=some (some (.int .u32 0),1,4):=by kernel_rfl
def RetRow(w:World)(d:List Nat)(e:Ending)(w':World):Prop :=
 ∃p c,e=.returned (.slice p d.length c)/\Row w' p c d/\New w p/\Ext w w'
theorem clone32(d:List Nat)(p:Option Addr)(l c:Nat)(w:World)(h:Row w p c d)(hl:l=d.length)(h0:0<d.length)(h64:d.length<=66) :
  Calls Tryz.prog 207 #[.slice p l c] w (RetRow w d):=by
 subst hl
 obtain⟨b,o,rfl,hb,hc⟩:=h.at h0
 obtain⟨i,hi,hz0,hz1,hz2⟩:=info_parts info32
 have qT:∀(w:World) (a:Option Addr) (n c n' c':Nat),(binOp .eql 81 (.slice a n c) (.slice none n' c')).run Tryz.prog w=.ok (.bool a.isNone) w :=
  fun w a n c n' c'=>Lib.run_eql_slice_nil w _ _ a n c n' c' Tryz.underlying81
 have hdig:=h.dig
 have Hc:=Lib.hid hc
 clear hc h
 go_enter Tryz.func207,Tryz.ntmps207
 go_wp2_with (at_builtin;refine wpList_append_own _ rfl _ _ 81 rfl w.heap.size 186 i (.int .u32 0) 1 4 Tryz.underlying81 hi hz0 hz1 hz2 rfl (by decide) _ _ _ rfl (World.ownsRow_made w #[] 0 (Nat.le_refl _) (by decide) rfl) ⟨b,o,none⟩ d.length c (enc d) rfl (by simp[enc]) ?c2 (enc_one d) ?c3 ?c4 ?c5 ?_)
 case c2=>exact row_news (fun i hi=>(cell_later ((Below.refl _ _).alloc (Nat.le_refl _) _) (Hc.out i hi)))
 case c3=>unfold maxLen;omega
 case c4=>omega
 case c5=>simp
 intro v' w1 hown hgr _
 obtain⟨p',c',rfl,hrow,hnew⟩:=row_of_owns (d:=d) (by simpa using hown) hdig
 go_wp2
 go_ret
 refine⟨p',c',rfl,hrow,hnew,?_⟩
 exact ((Below.refl _ _).alloc (Nat.le_refl _) _).grown hgr (by simp) (fun k hk=>by simp[Value.ownBlock] at hk;omega)
end

set_option maxHeartbeats 1000000
set_option maxRecDepth 100000
section
def RetNum(w:World)(r:Nm×Bool)(e:Ending)(w':World):Prop :=
 ∃n p l c,e=.returned (.tuple #[.agg #[.bool n,.slice p l c],.bool r.2])/\NR w' n p l c r.1/\New w p/\Ext w w'
theorem val_take_succ{d:List Nat}{k:Nat}(hk:k<d.length)(h:d[k]?.getD 0=0):val (d.take (k+1))=val (d.take k):=by
 rw[List.take_succ_eq_append_getElem hk,val_append]
 rw[getD_eq hk] at h
 simp[val,h]
theorem trim_eq_take{d:List Nat}{k:Nat}(hd:Dig d)(hk:k<=d.length)(hv:val (d.take k)=val d)(hz:0<k->d[k-1]?.getD 0≠0):trim d=d.take k:=by
 unfold trim
 rw[<- hv]
 refine digs_val (hd.take k) ?_
 intro hne
 have h0:0<k:=by
  rcases Nat.eq_zero_or_pos k with rfl|h
  ·simp at hne
  ·exact h
 have:=hz h0
 rw[getD_eq (by omega)] at this
 rw[List.getLast_eq_getElem]
 simp only[List.length_take,List.getElem_take]
 have e:min k d.length-1=k-1:=by omega
 simpa only[e] using this
theorem Row.take{w:World}{p:Option Addr}{c:Nat}{d:List Nat}(h:Row w p c d)(k:Nat)(hk:k<=d.length):Row w p c (d.take k):=by
 refine⟨by have:=h.le;simp;omega,h.max,h.dig.take k,fun h0=>?_⟩
 have hk0:(d.take k).length=k:=by simp;omega
 rw[hk0] at h0 ⊢
 obtain⟨b,o,hp,hb,hc⟩:=h.at (by omega)
 refine⟨b,o,hp,hb,fun i hi=>?_⟩
 rw[hc i (by omega),List.getElem?_take,if_pos hi]
theorem madeP_big{neg:Bool}{d:List Nat}{t:List Nat}(h:trim d=t)(h64:64<t.length):madeP neg d=(zero,false):=by
 unfold madeP;rw[h,if_pos h64]
theorem madeP_none{neg:Bool}{d:List Nat}{t:List Nat}(h:trim d=t)(h0:t.length=0):madeP neg d=(zero,true):=by
 unfold madeP;rw[h,if_neg (by omega),if_pos (List.eq_nil_of_length_eq_zero h0)]
theorem madeP_mid{neg:Bool}{d:List Nat}{t:List Nat}(h:trim d=t)(h64:t.length<=64)(h0:0<t.length):madeP neg d=(⟨neg,t⟩,true):=by
 unfold madeP;rw[h,if_neg (by omega),if_neg (by intro e;rw[e] at h0;simp at h0)]
theorem num_made(neg:Bool)(d:List Nat)(p:Option Addr)(l c:Nat)(w:World)(h:Row w p c d)(hl:l=d.length) :
  Calls Tryz.prog 142 #[.bool neg,.slice p l c] w (RetNum w (madeP neg d)):=by
 subst hl
 have hle:=h.le
 have hm:=h.max
 go_enter Tryz.func142,Tryz.ntmps142
 go_wp2
 go_loop [6] (fun n=>∃k:Nat,k<=d.length/\n=.int .i64 (k:Int)/\val (d.take k)=val d) (fun n=>(intOf n).toNat)
 case atStart=>exact⟨d.length,Nat.le_refl _,rfl,by rw[List.take_of_length_le (Nat.le_refl _)]⟩
 case round =>
  obtain⟨k,hk,rfl,hv⟩:=hrel
  have V:=Lib.hid hv
  clear hv
  cases k with
  | zero =>
   have e:((0:Nat):Int)=0:=rfl
   rw[e]
   clear e
   have T:=Lib.hid (trim_eq_take h.dig hk V.out (by omega))
   clear h
   go_wp2
   refine bodyPost_ret (v:=.tuple #[.agg #[.bool false,.slice none 0 0],.bool true]) (by simp[results,Tryz.results142,go_sem]) rfl ?_
   rw[madeP_none T.out (by simp)]
   exact⟨false,none,0,0,rfl,⟨rfl,rfl,Row.nil _⟩,New.none _,bxx⟩
  | succ j =>
   obtain⟨b,o,rfl,hb,hc⟩:=h.at (by omega)
   have hc1:=hc j (by omega)
   obtain⟨x,X⟩:∃x,Hid (d[j]?.getD 0=x):=⟨_,rfl⟩
   rw[X.out] at hc1
   have e:((j+1:Nat):Int)=(j:Int)+1:=by omega
   rw[e]
   clear e
   by_cases hx:x=0
   ·have hx1 : ((x : Int) == 0) = true := by simp [hx]
    have V2:=Lib.hid (val_take_succ (by omega) (X.out.trans hx))
    clear hx hc
    go_wp2
    exact⟨⟨j,by omega,rfl,V2.out.symm.trans V.out⟩,by simp[intOf]⟩
   ·have hx1 : ((x : Int) == 0) = false := by rw [beq_eq_false_iff_ne]; omega
    have T:=Lib.hid (trim_eq_take h.dig hk V.out (by rw[Nat.add_sub_cancel,X.out];omega))
    clear hx hc
    by_cases h64:64<j+1
    ·go_wp2
     refine bodyPost_ret (v:=.tuple #[.agg #[.bool false,.slice none 0 0],.bool false]) (by simp[results,Tryz.results142,go_sem]) rfl ?_
     rw[madeP_big T.out (by simp;omega)]
     exact⟨false,none,0,0,rfl,⟨rfl,rfl,Row.nil _⟩,New.none _,bxx⟩
    ·have hlen : (d.take (j + 1)).length = j + 1 := by simp; omega
     have L:=Lib.hid hlen
     clear hlen
     have hb0:Ext w (w.alloc (.cells #[.bool false,.slice none 0 0] 83)):=bxx
     have R:=(h.take (j+1) (by omega)).ext hb0
     clear h
     go_wp2_with fail
     refine (clone32 (d.take (j+1)) _ _ _ _ R (by rw[L.out]) (by rw[L.out];omega) (by rw[L.out];omega)).mono ?_
     rintro e w1 ⟨p',c',rfl,hrow,hnew,hx⟩
     rw[L.out]
     obtain⟨hcell,hfroz⟩:=bcell hx
     have hx0:=Ext.step hb0 hx
     go_wp2
     refine bodyPost_ret (v:=.tuple #[.agg #[.bool neg,.slice p' (j+1) c'],.bool true]) (by simp[results,Tryz.results142,go_sem,hcell]) rfl ?_
     rw[madeP_mid T.out (by rw[L.out];omega) (by rw[L.out];omega)]
     refine⟨neg,p',j+1,c',rfl,⟨rfl,L.out.symm,?_⟩,hnew.mono hb0.size,bxx⟩
     (repeat (first|assumption|refine Row.set ?_ (by assumption) _ (by first|(simp;done)|(simp;omega)|omega) _|refine Row.alloc ?_ _|refine Row.drewN ?_ _|refine Row.drew ?_))
def RetCut(w:World)(p:Option Addr)(c:Nat)(d:List Nat)(e:Ending)(w':World):Prop :=
 e=.returned (.slice p d.length c)/\Row w' p c d/\Ext w w'
end
end Go.Proofs.YtghemgdfmldoeaaGreat
