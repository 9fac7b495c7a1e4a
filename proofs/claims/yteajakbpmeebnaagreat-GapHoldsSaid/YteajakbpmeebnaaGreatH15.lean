import Derived.Test.YteajakbpmeebnaaGreatH14
import Derived.OrdersIn
import Derived.RangeFuncNested
import Derived.RangeFuncBound
import Derived.RangeFuncCalls
import Derived.RangeFuncLeaves
import Derived.OwnWalkIn
import Derived.TacticsInMore
import Derived.LoopNIn
import Derived.LoopIn
set_option linter.unusedVariables false
set_option linter.unusedSimpArgs false

namespace Go.Proofs.YteajakbpmeebnaaGreat
open Go.RowKit

section
def noDeferB(ops:Array Oper):Bool:=ops.toList.all fun o=>match o.op with | .defer _=>false|_=>true
section
variable {P:Program} {ops:Array Oper} {S:World->Prop}
theorem noDefer_spec(h:noDeferB ops=true){i:Nat}{o:Oper}(ho:ops[i]? = some o):∀c,o.op ≠ .defer c:=by
 intro c e
 have hm:o∈ops.toList:=by
  obtain⟨hlt,rfl⟩:=Array.getElem?_eq_some_iff.1 ho
  simp
 have:=List.all_eq_true.1 h o hm
 simp[e] at this
theorem Gives.wpIn{o:Oper}{a:Act}{w:World}{R:Value->World->Prop}{K:Act->World->Prop}{Q:Exit->Act->World->Prop}{r m:Nat}
  (h:Gives P o a w R) (hnd:∀c,o.op ≠ .defer c) (hk:∀v w',R v w'->K (a.put o.dst v) w'):o.wpIn (Fence.wide.inRound r) m P a w K Q:=by
 refine⟨fun _ _=>trivial,?_⟩
 rw[Oper.semAt_eq _ _ _ hnd]
 unfold Gives at h
 generalize (execOp a.eval o).run P w=x at *
 cases x with
 | ok n w' =>
  cases n<;>simp only[givesU] at h<;>simp only[Oper.uponIn]
  case value u=>exact hk _ _ h
  case skip=>exact hk _ _ h
  case enter f args =>
   refine⟨fun hd=>by simp[Fence.wide] at hd,?_⟩
   exact (CallsIn.inRound r (callsIn_wide.2 h)).mono fun e w'' ⟨v,he,hr⟩=>by subst he;exact hk _ _ hr
 | halt x w'=>simp only[givesU] at h
theorem wpAnyIn_of_F{Q:Exit->Act->World->Prop}{r m:Nat}(hB:floatB ops=true)(hD:noDeferB ops=true):∀(n:Nat) (zs:List (Nat×Oper)) (listed:Array Bool) (a:Act) (own:List Nat) (F:World->Prop) (w:World),zs.length=n->LeftF ops listed zs->Closed ops listed ->
  InvF S own F->F w->WpF P ops S (fun a w=>Q .normal a w) (zs.map (·.2)) a own F->wpAnyIn (Fence.wide.inRound r) m P .any ops Q n listed a w:=by
 have hB':=hB
 simp only[floatB,Bool.and_eq_true,List.all_eq_true,List.mem_range,decide_eq_true_eq] at hB'
 obtain⟨hsel,hall⟩:=hB'
 intro n
 induction n with
 | zero =>
  intro zs listed a own F w hn hl hc hi hw h
  have:zs=[]:=List.eq_nil_of_length_eq_zero hn
  subst this
  refine⟨?_,h w hw⟩
  rw[List.eq_nil_iff_forall_not_mem]
  intro i hr
  have h1:=mem_ready.1 hr
  obtain⟨hu,o,ho,_⟩:=h1
  have:=(hl.mem i (Array.getElem?_eq_some_iff.1 ho).1).1 hu
  simp at this
 | succ n ih =>
  intro zs listed a own F w hn hl hc hi hw h
  have hget (i:Nat) (hlt:i<ops.size) (hu:¬listed.getD i true=false):listed.getD i false=true:=by
   have hlt':i<listed.size:=by rw[hl.size];exact hlt
   simp[hlt'] at hu ⊢
   exact hu
  refine⟨fun h0=>?_,fun i hr=>?_⟩
  ·exfalso
   obtain⟨⟨i,o⟩,rest,rfl⟩:∃z rest,zs=z::rest:=by
    cases zs with
    | nil=>simp at hn
    | cons z rest=>exact⟨z,rest,rfl⟩
   have ho:=hl.here (i,o) (by simp)
   have hlt:i<ops.size:=(Array.getElem?_eq_some_iff.1 ho).1
   have hr:i∈Region.ready .any ops listed:=by
    refine mem_ready.2 ⟨(hl.mem i hlt).2 (by simp),o,ho,fun e he hb=>?_⟩
    have hd:e.on∈depsOf ops i:=(mem_depsOf ho).2 ⟨e,he,hb,rfl⟩
    have hei:=(hall i hlt).1 _ hd
    refine hget _ (by omega) fun hu=>?_
    have hm:=(hl.mem e.on (by omega)).1 hu
    simp only[List.map_cons,List.mem_cons] at hm
    rcases hm with hm|hm
    ·omega
    ·obtain ⟨p, hp, he'⟩ := List.mem_map.1 hm
     have:=(List.pairwise_cons.1 hl.sorted).1 p hp
     simp at this
     omega
   rw[h0] at hr
   cases hr
  ·obtain ⟨hu, o, ho, _⟩ := mem_ready.1 hr
   have hlt:i<ops.size:=(Array.getElem?_eq_some_iff.1 ho).1
   have hm:=(hl.mem i hlt).1 hu
   obtain⟨⟨i',o'⟩,hp,hei⟩:=List.mem_map.1 hm
   simp only at hei
   subst hei
   have ho':=hl.here _ hp
   simp only at ho'
   rw[ho] at ho'
   simp only[Option.some.injEq] at ho'
   subst ho'
   obtain⟨pre,post,rfl⟩:=List.append_of_mem hp
   have hpre:∀k∈pre.map (·.2),Apart ops k o/\Before k o:=by
    intro k hk
    obtain⟨⟨j,k'⟩,hj,rfl⟩:=List.mem_map.1 hk
    have hji:j<i':=((List.pairwise_append.1 hl.sorted).2.2) _ hj (i',o) (List.mem_cons_self ..)
    have hjk:=hl.here (j,k') (by simp[hj])
    simp only at hjk
    have hju:listed.getD j true=false:=(hl.mem j (by omega)).2 (by simp only[List.map_append,List.mem_append,List.mem_map];exact .inl ⟨_,hj,rfl⟩)
    have hno (f:Nat):reach ops f i' j=false:=by
     cases hx:reach ops f i' j with
     | false=>rfl
     | true =>
      have h1:=reach_listed hc f i' j (ready_deps hr) hx
      have hlt':j<listed.size:=by rw[hl.size];omega
      simp[hlt'] at h1 hju
      rw[h1] at hju
      cases hju
    have hpair:=(hall i' hlt).2 j hji
    simp only[pairB,ho,hjk,hno,Bool.or_false,Bool.false_or,Bool.and_eq_true] at hpair
    obtain⟨hbe,hap⟩:=hpair
    obtain⟨a1,a2,a3⟩:=Oper.apart_spec hap
    refine⟨⟨a1,a3,a2,fun cs b=>Region.noSelect_spec hsel j k' cs b hjk,fun cs b=>Region.noSelect_spec hsel i' o cs b ho⟩,?_⟩
    simp only[beforeB,Bool.or_eq_true,beq_iff_eq,Bool.and_eq_true,bne_iff_ne] at hbe
    rcases hbe with (hbe|hbe)|hbe
    ·exact .inl hbe
    ·exact .inr (.inl hbe)
    ·exact .inr (.inr hbe)
   have hst:=pull (post:=post.map (·.2)) hpre hi (by simpa using h)
   have hlen:(pre++post).length=n:=by simp at hn ⊢;omega
   have next {a':Act} {own':List Nat} {F':World->Prop} {w':World} (hi':InvF S own' F') (hw':F' w') (h':WpF P ops S (fun a w=>Q .normal a w) (pre.map (·.2)++post.map (·.2)) a' own' F'):wpAnyIn (Fence.wide.inRound r) m P .any ops Q n (listed.setIfInBounds i' true) a' w' :=
    ih (pre++post) _ a' own' F' w' hlen hl.take (hc.set hr) hi' hw' (by simpa using h')
   have hnd:∀c,o.op ≠ .defer c:=noDefer_spec hD ho
   cases hst with
   | pure v hy h =>
    unfold wpOpIn
    simp only[ho]
    rcases hy with⟨hwant,hv⟩|⟨hwant,rfl⟩
    ·rw [if_pos hwant]
     refine⟨fun _ _=>trivial,?_⟩
     rw[Oper.semAt_eq _ _ _ hnd,hv w (hi.held w hw)]
     exact next hi hw h
    ·rw [if_neg (by rw [hwant]; exact Bool.false_ne_true)]
     exact⟨fun _ _=>trivial,next hi hw h⟩
   | flo hk hwant obj hrun h =>
    unfold wpOpIn
    simp only[ho,hwant,if_true]
    refine⟨fun _ _=>trivial,?_⟩
    rw[Oper.semAt_eq _ _ _ hnd,hrun w (hi.held w hw)]
    have hs:∃w':World,F w'/\w'.heap[w.heap.size]? = some obj:=⟨{ w with heap:=w.heap.push obj },hi.mono _ _ hw (below_push w obj),by simp⟩
    exact next (hi.flo obj _ hs) ⟨hi.mono _ _ hw (below_push w obj),by simp⟩ (h _ (fun hx=>Nat.lt_irrefl _ (hi.own w hw _ hx)) hs)
   | eff hk hwant I sh T hm' hg h =>
    unfold wpOpIn
    simp only[ho,hwant,if_true]
    refine (hg w hw).wpIn hnd ?_
    rintro v w' ⟨t,rfl,hb,ht⟩
    have hs:∃w,F w/\T t w:=⟨w',hi.mono _ _ hw hb,ht⟩
    exact next (hi.eff (hm' t) hs) ⟨hi.mono _ _ hw hb,ht⟩ (h t hs)
   | sto hk hwant I sh T hm' hs hg h =>
    unfold wpOpIn
    simp only[ho,hwant,if_true]
    refine (hg w hw).wpIn hnd ?_
    rintro v w' ⟨t,rfl,hb,ht⟩
    have hx:T t w'/\∀g∈own,g<w'.heap.size:=⟨ht,fun g hg=>Nat.lt_of_lt_of_le (hi.own w hw g hg) hb⟩
    exact next (InvF.sto (hm' t) (hs t) ⟨w',hx⟩) hx (h t ⟨w',hx⟩)
   | mu hk hwant B hB I sh T hm' hs hg h =>
    unfold wpOpIn
    simp only[ho,hwant,if_true]
    refine (hg w hw).wpIn hnd ?_
    rintro v w' ⟨t,rfl,hb,ht⟩
    have hx:T t w'/\∀g∈own,g<w'.heap.size:=⟨ht,fun g hg=>Nat.lt_of_lt_of_le (hi.own w hw g hg) hb.1⟩
    exact next (InvF.sto (hm' t) (hs t) ⟨w',hx⟩) hx (h t ⟨w',hx⟩)
end
theorem wpIn_region_FC{P:Program}{id r m:Nat}{l:List Oper}{Q:Exit->Act->World->Prop}{a:Act}{w:World}(C:World->Prop)(hm:P.follows .mixedOrders=true)(hB:floatB l.toArray=true)(hD:noDeferB l.toArray=true)(hC:C w)
  (hmono:∀W W',C W->Below w.heap.size w W->Below W.heap.size W W'->C W')
  (h:WpF P l.toArray (fun W=>Below w.heap.size w W/\C W) (fun a w=>Q .normal a w) l a (List.range w.heap.size) (fun W=>Below w.heap.size w W/\C W)):(Code.region id l.toArray true).wpIn (Fence.wide.inRound r) m P Q a w:=by
 refine wpIn_region_any hm ?_
 have hd:Below w.heap.size w { w with drawn:=w.drawn+1 }:=⟨rfl,rfl,rfl,Nat.le_refl _,fun _ _=>rfl⟩
 have hmono':FMono (fun W=>Below w.heap.size w W/\C W):=fun W W' h hb=>⟨h.1.trans (hb.mono h.1.size),hmono W W' h.2 h.1 hb⟩
 have hlen:(l.zipIdx.map fun p=>(p.2,p.1)).length=l.toArray.size:=by simp
 have hw0:=hmono' w _ ⟨Below.refl _ _,hC⟩ hd
 refine wpAnyIn_of_F (S:=fun W=>Below w.heap.size w W/\C W) hB hD _ (l.zipIdx.map fun p=>(p.2,p.1)) _ a (List.range w.heap.size) _ _ hlen ⟨by simp,?_,?_,?_⟩ ?_ ⟨hmono',fun _ h=>h,fun W h g hg=>Nat.lt_of_lt_of_le (List.mem_range.1 hg) h.1.size,⟨_,hw0⟩⟩ hw0 ?_
 ·intro p hp
  obtain⟨⟨o,i⟩,hx,rfl⟩:=List.mem_map.1 hp
  have:=List.mem_zipIdx' hx
  simp[this.1,this.2]
 ·intro i hi
  have hi':i<l.length:=by simpa using hi
  simp only[List.map_map]
  constructor
  ·intro _
   refine List.mem_map.2 ⟨(l[i],i),?_,rfl⟩
   rw[List.mem_zipIdx_iff_getElem?]
   simp[hi']
  ·intro _
   simp[hi']
 ·rw [List.pairwise_map, List.pairwise_iff_getElem]
  intro i j hi hj hij
  simpa using hij
 ·intro j hj
  rcases Nat.lt_or_ge j l.length with h'|h'<;>simp[h'] at hj
 ·have : (l.zipIdx.map fun p => (p.2, p.1)).map (·.2) = l := by simp [List.map_map, Function.comp_def, List.zipIdx_map_fst]
  rw[this]
  exact h
end

section
section
variable {P:Program} {V:World} {E:Env} {call:CallF} {ops:Array Oper} {qk:Oper->Bool} {Q Q':Act->World->Prop}
def WpS(P:Program)(ops:Array Oper)(Q:Act->World->Prop):List Oper->Act->World->Prop
 | [],a,w=>Q a w
 | o::l,a,w=>(Region.wanted o (yielded ops a.tmps)=true/\∃R:Value->World->Prop,Gives P o a w R/\∀v w',R v w'->WpS P ops Q l (a.put o.dst v) w')\/(Region.wanted o (yielded ops a.tmps)=false/\WpS P ops Q l (a.put o.dst undef) w)
theorem aOps_S(hs:Sound P E call):∀ {l:List Oper} {s s':St} {q q':List Bool} {ob:Ob} {a:Act} {w:World} {r:Nat->Nat} {cm:Nat->List Value},aOps P E call ops qk l s q=some (s',ob,q')->All ob.ps->J V r cm s a w ->
  (∀a' W r' cm',J V r' cm' s' a' W->Q a' W)->WpS P ops Q l a w
 | [],s,s',q,q',ob,a,w,r,cm,h,_,hJ,hQ=>by
  unfold aOps at h
  cases h
  exact hQ _ _ _ _ hJ
 | o::l,s,s',q,q',ob,a,w,r,cm,h,hp,hJ,hQ=>by
  unfold aOps at h
  unfold WpS
  split at h
  ·cases h
  ·rename_i sg ps q1 hg
   split at h
   ·cases h
   cases hl:aOps P E call ops qk l (put sg o.dst .und) q1 with
   | none=>simp[hl] at h
   | some z =>
    obtain⟨s2,ob2,q2⟩:=z
    simp only[hl,Option.map_some,Option.some.injEq,Prod.mk.injEq] at h
    obtain⟨rfl,rfl,rfl⟩:=h
    obtain⟨p1,p2⟩:=All.app hp
    obtain⟨hJ,hw⟩:=hJ.gd hg p1
    exact .inr ⟨hw,aOps_S hs hl p2 (J.put hJ.1.1 hJ.2 hJ.1.2 rfl) hQ⟩
  ·rename_i sg ps q1 hg
   split at h
   ·cases h
   ·rename_i v s1 ob1 q2 hd
    cases hl:aOps P E call ops qk l (put s1 o.dst v) q2 with
    | none=>simp[hl] at h
    | some z =>
     obtain⟨s2,ob2,q3⟩:=z
     simp only[hl,Option.map_some,Option.some.injEq,Prod.mk.injEq] at h
     obtain⟨rfl,rfl,rfl⟩:=h
     obtain⟨p1,p2⟩:=All.app hp
     obtain⟨p3,p4⟩:=All.app p1
     obtain⟨hJ,hw⟩:=hJ.gd hg p3
     refine .inl ⟨hw,_,aDo_seq hs hJ hd p4,?_⟩
     rintro x w' ⟨r',cm',⟨h1,h2⟩,h3⟩
     exact aOps_S hs hl p2 (J.put h1 h2 hJ.1.2 h3) hQ
theorem WpS.df(D:List Deferred):∀ {l:List Oper} {a:Act} {w:World},WpS P ops Q l a w->(∀a' W,Q a' W->(∀t,offT l t=true->a'.tmps.getD t undef=a.tmps.getD t undef)->Q' (dfA D a') W)->WpS P ops Q' l (dfA D a) w
 | [],a,w,h,hQ=>hQ _ _ h fun _ _=>rfl
 | o::l,a,w,h,hQ=>by
  have nx:∀(v:Value) (a':Act) (W:World),Q a' W->(∀t,offT l t=true->a'.tmps.getD t undef=(a.put o.dst v).tmps.getD t undef)->Q' (dfA D a') W:=fun v a' W hq ht=>hQ a' W hq fun t hoff=>by
   unfold offT at hoff
   rw[List.all_cons,Bool.and_eq_true] at hoff
   rw[ht t hoff.2,put_off hoff.1]
  rcases (show _\/_ from h) with⟨hw,R,hg,hk⟩|⟨hw,hk⟩
  ·exact .inl ⟨hw,R,hg.df D,fun v w' hr=>by rw[put_df];exact WpS.df D (hk v w' hr) (nx v)⟩
  ·exact .inr ⟨hw,by rw[put_df];exact WpS.df D hk (nx undef)⟩
theorem WpS.wp{Q:Exit->Act->World->Prop}:∀ {l:List Oper} {a:Act} {w:World},WpS P ops (fun a w=>Q .normal a w) l a w->wpList P ops Q l a w
 | [],_,_,h=>h
 | o::l,a,w,h=>by
  unfold wpList
  rcases (show _\/_ from h) with⟨hw,R,hg,hk⟩|⟨hw,hk⟩
  ·rw [if_pos hw]
   exact .inl (hg.wp fun v w' hr=>WpS.wp (hk v w' hr))
  ·rw [if_neg (by rw [hw]; decide)]
   exact WpS.wp hk
theorem WpS.wpIn{Q:Exit->Act->World->Prop}{r m:Nat}:∀ {l:List Oper} {a:Act} {w:World},(l.all fun o=>match o.op with | .defer _=>false|_=>true)=true->WpS P ops (fun a w=>Q .normal a w) l a w->wpListIn (Fence.wide.inRound r) m P ops Q l a w
 | [],_,_,_,h=>h
 | o::l,a,w,hd,h=>by
  rw[List.all_cons,Bool.and_eq_true] at hd
  unfold wpListIn
  rcases (show _\/_ from h) with⟨hw,R,hg,hk⟩|⟨hw,hk⟩
  ·rw [if_pos hw]
   exact hg.wpIn (fun c e=>by simp[e] at hd) fun v w' hr=>WpS.wpIn hd.2 (hk v w' hr)
  ·rw [if_neg (by rw [hw]; decide)]
   exact⟨fun _ _=>trivial,WpS.wpIn hd.2 hk⟩
end
section
variable {P:Program} {ops:Array Oper} {Q:Act->World->Prop} {o:Oper} {a:Act} {w W:World}
theorem wpS_app:∀ {l m:List Oper} {a:Act} {w:World},WpS P ops (fun a w=>WpS P ops Q m a w) l a w->WpS P ops Q (l++m) a w
 | [],_,_,_,h=>h
 | _::_,_,_,_,h=>by
  rcases (show _\/_ from h) with⟨hw,R,hg,hk⟩|⟨hw,hk⟩
  ·exact .inl ⟨hw,R,hg,fun v w' hr=>wpS_app (hk v w' hr)⟩
  ·exact .inr ⟨hw,wpS_app hk⟩
theorem wpS_skip{l:List Oper}(hw:Region.wanted o (yielded ops a.tmps)=true)(h:(execOp a.eval o).run P w=.ok .skip W)(hk:WpS P ops Q l (a.put o.dst undef) W):WpS P ops Q (o::l) a w :=
 .inl ⟨hw,fun v w'=>v=undef/\w'=W,gives_skip h ⟨rfl,rfl⟩,fun v w' h=>by obtain⟨rfl,rfl⟩:=h;exact hk⟩
theorem wpS_val{l:List Oper}{x:Value}(hw:Region.wanted o (yielded ops a.tmps)=true)(h:(execOp a.eval o).run P w=.ok (.value x) W)(hk:WpS P ops Q l (a.put o.dst x) W):WpS P ops Q (o::l) a w :=
 .inl ⟨hw,fun v w'=>v=x/\w'=W,gives_val h ⟨rfl,rfl⟩,fun v w' h=>by obtain⟨rfl,rfl⟩:=h;exact hk⟩
theorem wpS_call{l:List Oper}{f:FuncId}{args:Array Value}{R:Ending->World->Prop}(hw:Region.wanted o (yielded ops a.tmps)=true)(h:(execOp a.eval o).run P w=.ok (.enter f args) w)(hc:Calls P f args w R)(hR:∀e W,R e W->∃v,e=.returned v)(hk:∀v W,R (.returned v) W->WpS P ops Q l (a.put o.dst v) W):WpS P ops Q (o::l) a w:=by
 refine .inl ⟨hw,fun v W=>R (.returned v) W,?_,fun v w' h=>hk v w' h⟩
 unfold Gives
 rw[h]
 exact hc.mono fun e W hr=>by obtain⟨v,rfl⟩:=hR e W hr;exact⟨v,rfl,hr⟩
end
noncomputable def runS(X:List Eff)(K:List Con)(ops l:List Oper)(n:Nat)(d d':Ds)(q:List Bool):Option (List Prop) :=
 match aOps Tryz.prog (env X) (callK X K) ops.toArray noQ l { mkS n d with al:=0 } q with
 | some (s',ob,[])=>if s'.t.n==n then (leS s' d').map (ob.ps++·) else none
 | _=>none
theorem runS_ok{X:List Eff}{K:List Con}{n:Nat}{ops l:List Oper}{d d':Ds}{q:List Bool}(pf:List Pf)(h:runS X K ops l n d d' q=some (pf.map Pf.p)){V w:World}{a:Act}{Q:Act->World->Prop}(hJ:JJ V (mkS n d) (dfA [] a) w)
  (hQ:∀a' W,JJ V (mkS n d') a' W->(∀t,offT l t=true->a'.tmps.getD t undef=a.tmps.getD t undef)->Q (dfA a.defers a') W):WpS Tryz.prog ops.toArray Q l a w:=by
 have hp:=all_pf pf
 generalize pf.map Pf.p=ps at h hp
 unfold runS at h
 split at h
 ·rename_i s' ob h1
  split at h
  ·rename_i hc
   simp only[beq_iff_eq] at hc
   cases h2:leS s' d' with
   | none=>simp[h2] at h
   | some ps2 =>
    simp only[h2,Option.map_some,Option.some.injEq] at h
    subst h
    obtain⟨p1,p2⟩:=All.app hp
    obtain⟨r,cm,hj⟩:=hJ
    have hW:=aOps_S (snd_ok X K) (Q:=fun a' W=>JJ V s' a' W) (ops:=ops.toArray) (s:={ mkS n d with al:=0 }) h1 p1 hj (fun a' W r' cm' hJ=>⟨r',cm',hJ⟩)
    exact WpS.df (a:=dfA [] a) a.defers hW fun a' W hq ht=>hQ a' W (le_J h2 p2 hc hq) ht
  ·cases h
 ·cases h
theorem old_J{n:Nat}{l:List (Nat×Rq)}{a:Act}{W:World}(hn:a.tmps.size=n)(hl:∀x∈l,RepV W W (fun _=>0) 0 x.2.v (a.tmps.getD x.1 undef)):JJ W (mkS n ⟨l,[]⟩) (dfA [] a) W:=by
 refine⟨fun _=>0,fun _=>[],⟨RM.nil (Below.refl _ _),rfl⟩,hn,fun i v hv=>?_⟩
 rcases Tr.sets_get (Tm.get_lt hv).2 with rfl|⟨x,hx',rfl⟩
 ·trivial
 ·exact hl _ hx'
theorem rv_fp{W:World}{l:List It}{cs ds:List Value}{b o:Nat}{xs:List Value}{T:TypeId}(hg:W.heap[b]? = some (.cells xs.toArray T))(ho:o<=xs.length)(hd:xs.drop o=cs++ds)(h:RepF W l cs):RepV W W (fun _=>0) 0 ⟨false,[.fp l]⟩ (.pointer (some ⟨b,o,none⟩)) :=
 ⟨[_],⟨[_],[],rfl,⟨b,o,_,(T,(0,0)),rfl,hg,by simpa using ho,cs,ds,by simpa using hd,h⟩,rfl⟩,rfl,fun _=>rfl⟩
end
theorem loops_restT:∀(n:Nat) {c d:Code},d∈loopsOf (restS n c)->d∈loopsOf c
 | 0,_,_,h=>h
 | n+1,c,d,h=>by
  cases c with
  | seq a b=>exact List.mem_append_right _ (loops_restT n h)
  | _=>cases h
theorem rest_add:∀(m n:Nat) (c:Code),restS n (restS m c)=restS (m+n) c
 | 0,n,c=>by rw[Nat.zero_add];rfl
 | m+1,n,c=>by
  cases c with
  | seq a b=>rw[Nat.succ_add];exact rest_add m n b
  | _=>cases n<;>(try rfl)<;>(rw[Nat.succ_add];rfl)
theorem lp_ok{f:FuncId}{L:List (Nat×Orc)}(hL:LT f L)(hk:lpsOk f L=true)(n:Nat):LpOk Tryz.prog (loopsOf (restS n (bodyF Tryz.prog f))) L:=by
 have g:LpOk Tryz.prog (lpsF f) L:=by
  cases L with
  | nil=>exact LpOk.nil
  | cons x L=>exact LT.ok (lpsOk_at hk x (List.mem_cons_self ..)) hL (lpsOk_at hk)
 rw[lpsF_eq] at g
 exact fun c hc=>g c (loops_restT n hc)
noncomputable def tailH(X:List Eff)(K:List Con)(L:List (Nat×Orc))(f:FuncId)(m n:Nat)(d:Ds)(q:List Bool):Option (AV×List Prop) :=
 match Tryz.prog.funcs[f]? with
 | none=>none
 | some fn=>if lpsOk f L then (match aCodeL Tryz.prog (env X) (callK X K) L (restS n (bodyF Tryz.prog f)) (mkS m d) q with
  | some (e,s,ps,[])=>(match e with
   | .ex _=>none
   | _=>match aRess Tryz.prog s fn.results.toList with
    | some l=>(match outVs (blI (l.map V1.l).flatten) l,outB s.m (blI (l.map V1.l).flatten) with
     | some l',some []=>some (oneA l',ps)
     | _,_=>none)
    | none=>none)
  | _=>none) else none
theorem tailH_wp{X:List Eff}{K:List Con}{L:List (Nat×Orc)}{f:FuncId}{fn:Func}{m n:Nat}{d:Ds}{res:AV}(hL:LT f L)(q:List Bool)(pf:List Pf)(h:tailH X K L f m n d q=some (res,pf.map Pf.p))(hf:Tryz.prog.funcs[f]? = some fn){V w:World}{a:Act}{R:Ending->World->Prop}(hJ:JJ V (mkS m d) a w)(hR:∀v w',RepA w' w' (fun _=>0) 0 res v->Ext V w'->R (.returned v) w') :
  (restS n (bodyF Tryz.prog f)).wp Tryz.prog (bodyPost Tryz.prog fn R) a w:=by
 have hp:=all_pf pf
 generalize pf.map Pf.p=ps at h hp
 unfold tailH at h
 rw[hf] at h
 simp only at h
 split at h
 ·rename_i hk
  split at h
  ·rename_i e s ps1 hc
   split at h
   ·cases h
   ·rename_i hex
    split at h
    ·rename_i l hl
     split at h
     ·rename_i l' hl' hms
      simp only[Option.some.injEq,Prod.mk.injEq] at h
      obtain⟨h1,rfl⟩:=h
      refine aCodeL_wp (snd_ok X K) (lp_ok hL hk n) hc hp hJ fun a' W' hJ'=>?_
      have key:=fin_ok hl hl' hms (res:=(res,[])) (by rw[h1]) hJ'
      obtain⟨k1,v,k2,v',r,cm,k3,k4,k5⟩:=key
      cases k3
      have post:∃v,(results fn a'.tmps).run Tryz.prog W'=.ok v W'/\R (.returned v) W':=⟨v,k2,hR _ _ (RepA.none k5) k4.ext⟩
      cases e with
      | nm=>exact⟨k1,post⟩
      | rt=>exact⟨k1,post⟩
      | ex k=>exact absurd rfl (hex k)
     ·cases h
    ·cases h
  ·cases h
 ·cases h
noncomputable def midH(X:List Eff)(K:List Con)(L:List (Nat×Orc))(f:FuncId)(m n k:Nat)(d d':Ds)(q:List Bool):Option (List Prop) :=
 if lpsOk f L then (match aHead Tryz.prog (env X) (callK X K) L k (restS n (bodyF Tryz.prog f)) (mkS m d) q with
  | some (s,ps,[])=>if s.t.n==m then (leS s d').map (ps++·) else none
  | _=>none) else none
theorem midH_wp{X:List Eff}{K:List Con}{L:List (Nat×Orc)}{f:FuncId}{m n k:Nat}{d d':Ds}(hL:LT f L)(q:List Bool)(pf:List Pf)(h:midH X K L f m n k d d' q=some (pf.map Pf.p)){V w:World}{a:Act}{Q:Exit->Act->World->Prop}(hJ:JJ V (mkS m d) a w)
  (hQ:∀a' W,JJ V (mkS m d') a' W->(restS (n+k) (bodyF Tryz.prog f)).wp Tryz.prog Q a' W):(restS n (bodyF Tryz.prog f)).wp Tryz.prog Q a w:=by
 have hp:=all_pf pf
 generalize pf.map Pf.p=ps at h hp
 unfold midH at h
 split at h
 ·rename_i hk
  split at h
  ·rename_i s ps1 h1
   split at h
   ·rename_i hn
    simp only[beq_iff_eq] at hn
    cases h2:leS s d' with
    | none=>simp[h2] at h
    | some ps2 =>
     simp only[h2,Option.map_some,Option.some.injEq] at h
     subst h
     obtain⟨p1,p2⟩:=All.app hp
     refine aHead_wp (snd_ok X K) (lp_ok hL hk n) h1 p1 hJ fun a' W hW=>?_
     rw[rest_add]
     exact hQ a' W (le_J h2 p2 hn hW)
   ·cases h
  ·cases h
 ·cases h
def regT(id:Nat):Code->Option Code
 | .region k ops d=>if k=id then some (.region k ops d) else none
 | .seq a b=>match regT id a with|some c=>some c|none=>regT id b
 | .cond _ a b=>match regT id a with|some c=>some c|none=>regT id b
 | .block _ c=>regT id c
 | .loop c=>regT id c
 | .scope c=>regT id c
 | .rangeFunc _ _ a c=>match regT id a with|some c=>some c|none=>regT id c
 | _=>none
noncomputable def opsT(f:FuncId)(k:Nat):List Oper:=match regT k (bodyF Tryz.prog f) with|some (.region _ ops _)=>ops.toList|_=>[]
noncomputable def opT (f : FuncId) (k i : Nat) : Oper := ((opsT f k)[i]?).getD ⟨none, .move (.tmp 0), 0, "", #[], none⟩
theorem regT_wp{id:Nat}{l:List Oper}{a:Act}{w:World}{Q:Exit->Act->World->Prop}(h:WpS Tryz.prog l.toArray (fun a w=>Q .normal a w) l a w):(Code.region id l.toArray false).wp Tryz.prog Q a w:=wp_region_lit (WpS.wp h)
theorem own_fp{V W:World}{n:Nat}{d:Ds}{a:Act}(h:JJ V (mkS n d) a W):Ext V W/\a.tmps.size=n/\a.defers=[]/\∃r,(∀t v,(mkS n d).t.get t=some (.one v)->RepV V W r d.m.length v (a.tmps.getD t undef))/\∀b x,d.m[b]? = some (some x)->(x.l.all It.np)=true->(∃c e T,W.heap[r b]? = some (.cells (c++e).toArray T)/\RepF W (x.l.map unO) c):=by
 obtain⟨r,cm,⟨hM,hd⟩,hT⟩:=h
 refine⟨hM.ext,hT.1,hd,r,fun t v hv=>hT.2 t _ hv,fun b x hb hn=>?_⟩
 obtain⟨k1,cs,ds,k2,k3,_⟩:=hM.blk b x (mb_at.2 hb)
 exact⟨cs,ds,_,by rw[<- k2];exact k1,np_F hM.ext hn k3⟩
theorem guess_dec{U V P u0 u2 high v0 v1 v2 q r:Nat}(hu0:u0<P)(hU:U=u0+P*(u2+4294967296*high))(hV:V=v0+P*(v2+4294967296*v1))(hlt:U<4294967296*V)
  (hq:q*v1+r=high) (hle:U/V<=q) (h:4294967296<=q\/r*4294967296+u2<q*v2):1<=q/\U/V<=q-1:=by
 have hV0:0<V:=by
  rcases Nat.eq_zero_or_pos V with e|e
  ·rw[e] at hlt;omega
  ·exact e
 rcases h with h|h
 ·have : U / V < 4294967296 := (Nat.div_lt_iff_lt_mul hV0).2 hlt
  omega
 ·have h1:1<=q:=by
   rcases Nat.eq_zero_or_pos q with e|e
   ·subst e;simp at h
   ·exact e
  refine⟨h1,?_⟩
  have:¬q<=U/V:=by
   intro hc
   rw[Nat.le_div_iff_mul_le hV0] at hc
   have e1:q*V=q*v0+P*(q*v2)+P*(4294967296*(q*v1)):=by rw[hV];grind
   have e2:U=u0+P*u2+P*(4294967296*(q*v1))+P*(r*4294967296):=by rw[hU,<- hq];grind
   have h2:=Nat.mul_le_mul_left P (Nat.succ_le_of_lt h)
   have e3:P*Nat.succ (r*4294967296+u2)=P*(r*4294967296)+P*u2+P:=by rw[Nat.succ_eq_add_one];grind
   rw[e3] at h2
   rw[e1,e2] at hc
   generalize P*(4294967296*(q*v1))=x1 at *
   generalize P*(q*v2)=x2 at *
   generalize P*(r*4294967296)=x3 at *
   generalize P*u2=x4 at *
   generalize q*v0=x5 at *
   omega
  omega
theorem guess_start{U V P w high v1 vr:Nat}(hw:w<P)(hU:U=w+P*high)(hV:V=vr+P*v1)(hv1:0<v1):U/V<=high/v1:=by
 have hP:0<P:=by omega
 have hV0:0<V:=by
  have:=Nat.mul_pos hP hv1
  omega
 rw[Nat.le_div_iff_mul_le hv1]
 have h:=Nat.div_mul_le_self U V
 generalize U/V=q at *
 have e1:q*V=q*vr+P*(q*v1):=by rw[hV];grind
 have:P*(q*v1)<P*(high+1):=by
  have e2:P*(high+1)=P*high+P:=by grind
  rw[e1] at h
  rw[e2]
  generalize P*(q*v1)=x1 at *
  generalize P*high=x2 at *
  generalize q*vr=x3 at *
  omega
 have:=Nat.lt_of_mul_lt_mul_left this
 omega
theorem guess_end{U V P u0 u1 u2 ut v0 v1 v2 q r:Nat}(hv0:v0<P)(hv1:0<v1)(hv2:v2<4294967296)(hu0:u0<P)(hu1:u1<4294967296)(hU:U=u0+P*(u2+4294967296*(u1+4294967296*ut)))(hV:V=v0+P*(v2+4294967296*v1))(hlt:U<4294967296*V)
  (hq:q*v1+r=u1+4294967296*ut) (h:4294967296<=r\/(q<4294967296/\q*v2<=r*4294967296+u2)):q<4294967296/\q<=U/V+1:=by
 have hP:0<P:=by omega
 have hV0:0<V:=by
  rcases Nat.eq_zero_or_pos V with e|e
  ·rw[e] at hlt;omega
  ·exact e
 have hut:ut<=v1:=by
  have:¬v1+1<=ut:=by
   intro hc
   have h1:=Nat.mul_le_mul_left (P*(4294967296*4294967296)) hc
   have e1:P*(4294967296*4294967296)*(v1+1)=4294967296*(P*(4294967296*v1))+4294967296*(P*4294967296):=by grind
   have e2:U=u0+P*u2+P*(4294967296*u1)+P*(4294967296*4294967296)*ut:=by rw[hU];grind
   have e3:4294967296*V=4294967296*v0+4294967296*(P*v2)+4294967296*(P*(4294967296*v1)):=by rw[hV];grind
   have h2:P*v2+P<=P*4294967296:=by
    have h9:P*(v2+1)<=P*4294967296:=Nat.mul_le_mul_left P hv2
    have e9:P*(v2+1)=P*v2+P:=by grind
    omega
   rw[e1] at h1
   rw[e3,e2] at hlt
   omega
  omega
 have hqb:q<4294967296:=by
  rcases h with h|h
  ·have:¬4294967296<=q:=by
    intro hc
    have h1:=Nat.mul_le_mul_right v1 hc
    have h2:=Nat.mul_le_mul_left 4294967296 hut
    omega
   omega
  ·exact h.1
 have h2:q*v2<=r*4294967296+u2:=by
  rcases h with h|h
  ·have h1 : q * v2 <= 4294967296 * 4294967296 := Nat.mul_le_mul (by omega) (by omega)
   omega
  ·exact h.2
 refine⟨hqb,?_⟩
 rcases Nat.eq_zero_or_pos q with e|e
 ·rw[e];exact Nat.zero_le _
 ·obtain ⟨p, rfl⟩ : ∃ p, q = p + 1 := ⟨q - 1, by omega⟩
  have:p<=U/V:=by
   rw[Nat.le_div_iff_mul_le hV0]
   have e1:(p+1)*V=(p+1)*v0+P*((p+1)*v2)+P*(4294967296*((p+1)*v1)):=by rw[hV];grind
   have e2:U=u0+P*u2+P*(4294967296*((p+1)*v1))+P*(r*4294967296):=by rw[hU,<- hq];grind
   have e3:(p+1)*V=p*V+V:=by grind
   have h3:=Nat.mul_le_mul_left P h2
   have e4:P*(r*4294967296+u2)=P*(r*4294967296)+P*u2:=by grind
   have h5:(p+1)*v0<=V:=by
    have h6:(p+1)*v0<=4294967296*P:=Nat.mul_le_mul (by omega) (by omega)
    have h7:P*(4294967296*1)<=P*(4294967296*v1):=Nat.mul_le_mul_left _ (Nat.mul_le_mul_left _ hv1)
    have e5:V=v0+P*v2+P*(4294967296*v1):=by rw[hV];grind
    have e6:P*(4294967296*1)=4294967296*P:=by grind
    rw[e5]
    omega
   rw[e4] at h3
   rw[e3] at e1
   omega
  omega
def RedInv(q:Nat)(u v:List Nat)(o:List Nat)(c b:Nat):Prop :=
 Dig o/\c<=q/\b<=1/\val (u.take o.length)+4294967296 ^ o.length*(c+b)=val o+q*val (v.take o.length)
theorem val_snocK(o:List Nat)(x:Nat):val (o++[x])=val o+4294967296 ^ o.length*x:=by rw[val_append];simp[val]
theorem val_take_K(d:List Nat)(k:Nat):val (d.take (k+1))=val (d.take k)+4294967296 ^ k*(d[k]?.getD 0):=by
 by_cases h:k<d.length
 ·rw[List.take_succ_eq_append_getElem h,val_append,List.length_take,Nat.min_eq_left (by omega),List.getElem?_eq_getElem h];simp[val]
 ·rw[List.take_of_length_le (by omega),List.take_of_length_le (by omega),List.getElem?_eq_none (by omega)];simp
theorem red_step{q:Nat}{u v o:List Nat}{c b x d:Nat}(hq:q<4294967296)(h:RedInv q u v o c b)(hx:u[o.length]?.getD 0=x)(hd:v[o.length]?.getD 0=d)(hdb:d<4294967296)(hxb:x<4294967296) :
  RedInv q u v (o++[(x+8589934592-(c+q*d)%4294967296-b)%4294967296]) ((c+q*d)/4294967296) (if x<(c+q*d)%4294967296+b then 1 else 0)/\c+q*d<18446744073709551616:=by
 obtain⟨h1,h2,h3,h4⟩:=h
 have hqd:q*d<=q*4294967295:=Nat.mul_le_mul_left _ (by omega)
 have hc:c+q*d<18446744073709551616:=by omega
 refine⟨⟨?_,by omega,by split<;>omega,?_⟩,hc⟩
 ·intro y hy
  rcases List.mem_append.1 hy with g|g
  ·exact h1 y g
  ·rw[List.mem_singleton] at g;subst g;exact Nat.mod_lt _ (by omega)
 ·rw [List.length_append, List.length_singleton, val_take_K, val_take_K, val_snocK, hx, hd, Nat.pow_succ]
  have e1:q*(val (v.take o.length)+4294967296 ^ o.length*d)=q*val (v.take o.length)+4294967296 ^ o.length*(q*d):=by grind
  rw[e1]
  generalize q*val (v.take o.length)=a1 at *
  generalize val (u.take o.length)=a2 at *
  generalize val o=a3 at *
  generalize 4294967296 ^ o.length=P at *
  generalize q*d=t at *
  have key:∀(b' y:Nat),x+4294967296*((c+t)/4294967296+b')+(c+b)=y+t+(c+b)+0+(c+b)->a2+P*x+P*4294967296*((c+t)/4294967296+b')=a3+P*y+(a1+P*t):=by
   intro b' y hy
   have e2:P*x+P*4294967296*((c+t)/4294967296+b')=P*(y+t+(c+b)):=by
    have:x+4294967296*((c+t)/4294967296+b')=y+t+(c+b):=by omega
    rw[<- this];grind
   have e3:P*(y+t+(c+b))=P*y+P*t+P*(c+b):=by grind
   rw[Nat.add_assoc,e2,e3]
   omega
  apply key
  split<;>omega
theorem val_pos_of{b:List Nat}{n x:Nat}(hl:b.length=n+1)(hx:b[n]?.getD 0=x):val b=val (b.take n)+4294967296 ^ n*x:=by
 have h:=val_take_K b n
 rw[hx,List.take_of_length_le (by omega)] at h
 exact h
theorem red_keep{q:Nat}{u v o:List Nat}{c b x:Nat}(h:RedInv q u v o c b)(ho:o.length=v.length)(hu:u.length=v.length+1)(hx:u[v.length]?.getD 0=x)(hle:c+b<=x) :
  val u=val (o++[x-c-b])+q*val v:=by
 obtain⟨_,_,_,h4⟩:=h
 rw[ho,List.take_of_length_le (Nat.le_refl v.length)] at h4
 rw[val_pos_of hu hx,val_snocK,ho]
 generalize 4294967296 ^ v.length=P at *
 obtain⟨t,rfl⟩:∃t,x=t+(c+b):=⟨x-(c+b),by omega⟩
 rw[show t+(c+b)-c-b=t by omega]
 have e:P*(t+(c+b))=P*t+P*(c+b):=by grind
 omega
theorem red_borrow{q:Nat}{u v o:List Nat}{c b x:Nat}(h:RedInv q u v o c b)(hq:q<4294967296)(ho:o.length=v.length)(hu:u.length=v.length+1)(hx:u[v.length]?.getD 0=x)(hlt:x<c+b) :
  val u+4294967296 ^ (v.length+1)=val (o++[x+4294967296-c-b])+q*val v:=by
 obtain⟨_,h2,h3,h4⟩:=h
 rw[ho,List.take_of_length_le (Nat.le_refl v.length)] at h4
 rw[val_pos_of hu hx,val_snocK,ho,Nat.pow_succ]
 generalize 4294967296 ^ v.length=P at *
 obtain⟨t,ht⟩:∃t,x+4294967296=t+(c+b):=⟨x+4294967296-(c+b),by omega⟩
 rw[show x+4294967296-c-b=t by omega]
 have e:P*(x+4294967296)=P*t+P*(c+b):=by rw[ht];grind
 have e2:P*(x+4294967296)=P*x+P*4294967296:=by grind
 omega
theorem quot_of{U V W q:Nat}(hV:0<V)(h:U=W+q*V)(hq:U/V<=q):q=U/V/\W=U%V:=by
 have h1:q<=U/V:=by rw[Nat.le_div_iff_mul_le hV];omega
 obtain rfl:q=U/V:=by omega
 refine⟨rfl,?_⟩
 have:=Nat.div_add_mod U V
 rw[Nat.mul_comm V] at this
 omega
theorem red_back{q:Nat}{u v o o2:List Nat}{y c2:Nat}(h:val u+4294967296 ^ (v.length+1)=val (o++[y])+q*val v)(ho:o.length=v.length)(ho2:o2.length=v.length)(hs:sumInv (o++[y]) v o2 c2)
  (hy:y<4294967296) (dd:Dig o) (du:Dig u) (hu:u.length=v.length+1) (hV:0<val v) (hq:q<=val u/val v+1):y+c2=4294967296/\q-1=val u/val v/\1<=q/\val o2=val u%val v:=by
 obtain⟨d2,hc2,hs2⟩:=hs
 have hlu:=val_lt du
 rw[hu] at hlu
 have hlo2:=val_lt d2
 have hlo:val (o++[y])<4294967296 ^ (v.length+1):=by
  have:=val_lt (dd.append (Dig.cons hy Dig.nil))
  rwa [List.length_append,List.length_singleton,ho] at this
 have hqV:val u<q*val v:=by omega
 have hq1:val u/val v<q:=(Nat.div_lt_iff_lt_mul hV).2 hqV
 obtain rfl:q=val u/val v+1:=by omega
 have hm:=Nat.div_add_mod (val u) (val v)
 rw[Nat.mul_comm] at hm
 have hmlt:=Nat.mod_lt (val u) hV
 rw[Nat.add_mul,Nat.one_mul] at h
 rw[ho2,List.take_of_length_le (Nat.le_refl v.length),<- ho,List.take_left,ho] at hs2
 rw[val_snocK,ho,Nat.pow_succ] at h
 rw[ho2] at hlo2
 have key:val o2+4294967296 ^ v.length*(c2+y)=val u%val v+4294967296 ^ v.length*4294967296:=by
  have e:4294967296 ^ v.length*(c2+y)=4294967296 ^ v.length*c2+4294967296 ^ v.length*y:=by grind
  omega
 have hvl:val u%val v<4294967296 ^ v.length*(c2+y+1):=by
  have e:4294967296 ^ v.length*(c2+y+1)=4294967296 ^ v.length*(c2+y)+4294967296 ^ v.length:=by grind
  rw[e]
  omega
 have hb:¬c2+y<4294967296:=by
  intro hc
  have h9:4294967296 ^ v.length*(c2+y+1)<=4294967296 ^ v.length*4294967296:=Nat.mul_le_mul_left _ hc
  have e:4294967296 ^ v.length*(c2+y+1)=4294967296 ^ v.length*(c2+y)+4294967296 ^ v.length:=by grind
  omega
 have hb2:y+c2=4294967296:=by omega
 refine⟨hb2,Nat.add_sub_cancel _ _,Nat.le_add_left _ _,?_⟩
 rw[show c2+y=4294967296 by omega] at key
 omega
def ShInv(s:Nat)(a o:List Nat)(c:Nat):Prop:=Dig o/\c<s/\val o+4294967296 ^ o.length*c=s*val (a.take o.length)
theorem sh_step{s e:Nat}(hse:s*e=4294967296){a o:List Nat}{c d:Nat}(h:ShInv s a o c)(hd:a[o.length]?.getD 0=d)(hdb:d<4294967296) :
  ShInv s a (o++[d%e*s+c]) (d/e)/\d%e*s+c<4294967296:=by
 obtain⟨h1,h2,h3⟩:=h
 have he:0<e:=by
  rcases Nat.eq_zero_or_pos e with g|g
  ·subst g;simp at hse
  ·exact g
 have hm:=Nat.mod_lt d he
 have hlt:d%e*s+c<4294967296:=by
  have h4:(d%e+1)*s<=e*s:=Nat.mul_le_mul_right _ hm
  rw[Nat.mul_comm e,hse,Nat.add_mul,Nat.one_mul] at h4
  omega
 refine⟨⟨h1.append (Dig.cons hlt Dig.nil),?_,?_⟩,hlt⟩
 ·rw[Nat.div_lt_iff_lt_mul he,hse];exact hdb
 ·rw [List.length_append, List.length_singleton, val_snocK, val_take_K, hd, Nat.pow_succ]
  have e1:s*(val (a.take o.length)+4294967296 ^ o.length*d)=s*val (a.take o.length)+4294967296 ^ o.length*(s*d):=by grind
  have e2:s*d=d%e*s+4294967296*(d/e):=by
   have:=Nat.div_add_mod d e
   rw[<- hse]
   conv=>lhs;rw[<- this]
   grind
  rw[e1,e2,<- h3]
  generalize 4294967296 ^ o.length=P
  grind
theorem sh_end{s:Nat}{a o:List Nat}{c:Nat}(h:ShInv s a o c)(hl:o.length=a.length):val (o++[c])=s*val a:=by
 obtain⟨_,_,h3⟩:=h
 rw[hl,List.take_of_length_le (Nat.le_refl a.length)] at h3
 rw[val_snocK,hl]
 exact h3
theorem shr_digit{s e:Nat}(hse:s*e=4294967296){u1 u0:Nat}(h0:u0<4294967296) :
  s*((u1*4294967296+u0)/s%4294967296)=u1%s*4294967296+s*(u0/s):=by
 have hs:0<s:=by
  rcases Nat.eq_zero_or_pos s with g|g
  ·subst g;simp at hse
  ·exact g
 have he:0<e:=by
  rcases Nat.eq_zero_or_pos e with g|g
  ·subst g;simp at hse
  ·exact g
 have e1:(u1*4294967296+u0)/s=u1*e+u0/s:=by
  rw[<- hse,show u1*(s*e)+u0=s*(u1*e)+u0 by grind,Nat.mul_add_div hs]
 have e2:u1*e=u1%s*e+4294967296*(u1/s):=by
  have:=Nat.div_add_mod u1 s
  rw[<- hse]
  conv=>lhs;rw[<- this]
  grind
 have h3:u0/s<e:=by rw[Nat.div_lt_iff_lt_mul hs,Nat.mul_comm,hse];exact h0
 have h4:(u1%s+1)*e<=s*e:=Nat.mul_le_mul_right _ (Nat.mod_lt u1 hs)
 rw[hse,Nat.add_mul,Nat.one_mul] at h4
 have e3:(u1*4294967296+u0)/s%4294967296=u1%s*e+u0/s:=by
  rw[e1,e2]
  rw[show u1%s*e+4294967296*(u1/s)+u0/s=(u1%s*e+u0/s)+4294967296*(u1/s) by omega,Nat.add_mul_mod_self_left,Nat.mod_eq_of_lt]
  generalize u0/s=g at *
  omega
 rw[e3,<- hse]
 grind
def ShrInv(s:Nat)(u o:List Nat):Prop:=Dig o/\s*val o+val u%s=val (u.take o.length)+4294967296 ^ o.length*(u[o.length]?.getD 0%s)
theorem shr_start{s e:Nat}(hse:s*e=4294967296)(u:List Nat)(h0:0<u.length):ShrInv s u []:=by
 refine⟨Dig.nil,?_⟩
 cases u with
 | nil=>simp at h0
 | cons x r =>
  simp only[val_nil,List.length_nil,List.take_zero,List.getElem?_cons_zero,Option.getD_some,val_cons]
  rw[<- hse,Nat.mul_assoc,Nat.add_mul_mod_self_left]
  simp
theorem shr_step{s e:Nat}(hse:s*e=4294967296){u o:List Nat}(h:ShrInv s u o){u0 u1:Nat}(h0:u[o.length]?.getD 0=u0)(h1:u[o.length+1]?.getD 0=u1)(hb:u0<4294967296) :
  ShrInv s u (o++[(u1*4294967296+u0)/s%4294967296]):=by
 obtain⟨d,h2⟩:=h
 refine⟨d.append (Dig.cons (Nat.mod_lt _ (by omega)) Dig.nil),?_⟩
 rw[List.length_append,List.length_singleton,val_snocK,val_take_K,h0,h1,Nat.pow_succ]
 rw[h0] at h2
 have k:=shr_digit hse (u1:=u1) hb
 generalize (u1*4294967296+u0)/s%4294967296=r at *
 have e1:s*(val o+4294967296 ^ o.length*r)=s*val o+4294967296 ^ o.length*(s*r):=by grind
 rw[e1,k]
 have e2:u0=s*(u0/s)+u0%s:=(Nat.div_add_mod u0 s).symm
 generalize 4294967296 ^ o.length=P at *
 generalize u0/s=g at *
 generalize u0%s=g2 at *
 rw[e2]
 grind
theorem shr_end{s:Nat}{u o:List Nat}(h:ShrInv s u o){n R:Nat}(hs:0<s)(hl:o.length=n)(hu:val u<4294967296 ^ n)(hd:Dig u)(hul:n<u.length)(hR:val u=s*R):val o=R:=by
 obtain⟨_,h2⟩:=h
 rw[hl] at h2
 have h3:=val_take_drop u n (by omega)
 have h4:val (u.drop n)=0:=by
  rcases Nat.eq_zero_or_pos (val (u.drop n)) with g|g
  ·exact g
  ·have := Nat.mul_le_mul_left (4294967296 ^ n) g
   omega
 have h5:u[n]?.getD 0=0:=by
  rw[List.drop_eq_getElem_cons hul,val_cons] at h4
  rw[List.getElem?_eq_getElem hul,Option.getD_some]
  omega
 rw[h5,Nat.zero_mod,Nat.mul_zero,Nat.add_zero] at h2
 rw[h4,Nat.mul_zero,Nat.add_zero] at h3
 rw[<- h3,hR,Nat.mul_mod_right,Nat.add_zero] at h2
 exact Nat.eq_of_mul_eq_mul_left hs h2
structure LongInv (A V k:Nat) (u qs:List Nat):Prop where
 du:Dig u
 dq:Dig qs
 eq:val u+4294967296 ^ k*(val qs*V)=A
 lt:val u<4294967296 ^ k*V
theorem long_part{A V k n:Nat}{pre part post qs:List Nat}(hl:pre.length=k)(hp:part.length=n+1)(hV:V<4294967296 ^ n)(h:LongInv A V (k+1) (pre++(part++post)) qs) :
  val post=0/\val part<4294967296*V:=by
 have h1:=h.lt
 have ek:(4294967296:Nat) ^ (k+1)=4294967296 ^ k*4294967296:=Nat.pow_succ _ _
 rw[val_append,val_append,hl,hp,ek] at h1
 have h2:val part+4294967296 ^ (n+1)*val post<4294967296*V:=by
  have:4294967296 ^ k*(val part+4294967296 ^ (n+1)*val post)<4294967296 ^ k*(4294967296*V):=by
   rw[<- Nat.mul_assoc];omega
  exact Nat.lt_of_mul_lt_mul_left this
 refine⟨?_,by omega⟩
 rcases Nat.eq_zero_or_pos (val post) with g|g
 ·exact g
 ·have h3 : 4294967296 ^ (n + 1) * 1 <= 4294967296 ^ (n + 1) * val post := Nat.mul_le_mul_left _ g
  rw[Nat.mul_one,Nat.pow_succ] at h3
  rw[Nat.pow_succ] at h2
  omega
theorem long_step{A V k n:Nat}{pre part post qs part':List Nat}(hl:pre.length=k)(hp:part.length=n+1)(hp':part'.length=n+1)(hV:V<4294967296 ^ n)(hV0:0<V)(h:LongInv A V (k+1) (pre++(part++post)) qs)
  (d':Dig part') (he:val part'=val part%V):LongInv A V k (pre++(part'++post)) (val part/V::qs):=by
 obtain⟨h1,h2⟩:=long_part hl hp hV h
 have dpre:Dig pre:=fun x hx=>h.du x (List.mem_append_left _ hx)
 have dpost:Dig post:=fun x hx=>h.du x (List.mem_append_right _ (List.mem_append_right _ hx))
 refine⟨dpre.append (d'.append dpost),Dig.cons ((Nat.div_lt_iff_lt_mul hV0).2 h2) h.dq,?_,?_⟩
 ·have h3 := h.eq
  rw[val_append,val_append,h1,hl,Nat.mul_zero,Nat.add_zero,Nat.pow_succ] at h3
  rw[val_append,val_append,h1,hl,Nat.mul_zero,Nat.add_zero,he,val_cons,<- h3]
  have h4:=Nat.div_add_mod (val part) V
  conv=>rhs;rw[<- h4]
  generalize val part%V=m
  generalize val part/V=g
  generalize 4294967296 ^ k=P
  grind
 ·rw [val_append, val_append, h1, hl, Nat.mul_zero, Nat.add_zero, he]
  have h3:=val_lt dpre
  rw[hl] at h3
  have h4:=Nat.mul_le_mul_left (4294967296 ^ k) (Nat.succ_le_of_lt (Nat.mod_lt (val part) hV0))
  have e:4294967296 ^ k*(val part%V).succ=4294967296 ^ k*(val part%V)+4294967296 ^ k:=by rw[Nat.succ_eq_add_one];grind
  omega
theorem long_end{A V:Nat}{u qs:List Nat}(hV0:0<V)(h:LongInv A V 0 u qs):val qs=A/V/\val u=A%V:=by
 have h1:=h.eq
 have h2:=h.lt
 rw[Nat.pow_zero,Nat.one_mul] at h1 h2
 refine quot_of hV0 h1.symm ?_
 rw[<- Nat.lt_succ_iff,Nat.div_lt_iff_lt_mul hV0,<- h1,Nat.succ_eq_add_one]
 have:(val qs+1)*V=val qs*V+V:=by grind
 omega

set_option maxHeartbeats 2000000
set_option maxRecDepth 100000
section
theorem ret_u64{a b:Int}(h:a=b):Value.int .u64 a=Value.int .u64 b:=by rw[h]
end

set_option maxHeartbeats 1000000
set_option maxRecDepth 100000
section
theorem tight_len{a b:List Nat}(da:Dig a)(tb:Tight b)(h:val b<=val a):b.length<=a.length:=by
 rcases Nat.lt_or_ge a.length b.length with g|g
 ·have := val_lt_of_length da tb g
  omega
 ·exact g
end
end Go.Proofs.YteajakbpmeebnaaGreat
