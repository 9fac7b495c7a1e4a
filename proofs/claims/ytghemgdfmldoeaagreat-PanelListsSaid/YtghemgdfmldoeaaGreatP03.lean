import Derived.Test.YtghemgdfmldoeaaGreatP02
set_option linter.unusedVariables false
set_option linter.unusedSimpArgs false
namespace Go.Proofs.YtghemgdfmldoeaaGreat
open Go.RowKit
section
section
variable {P:Program} {ops:Array Oper} {S:World->Prop} {Q:Act->World->Prop} {tail:List Oper} {qk:Oper->Bool} {C C':Act->List Nat->(World->Prop)->Prop} {o k:Oper} {a:Act} {own:List Nat} {F:World->Prop}
def lz(P:Program)(ops:Array Oper)(S:World->Prop)(qk:Oper->Bool)(C:Act->List Nat->(World->Prop)->Prop)(o:Oper)(a:Act)(own:List Nat)(F:World->Prop):Prop :=
 (qk o=false/\aW P ops S C o a own F) \/
 (qk o=true/\Region.wanted o (yielded ops a.tmps)=true/\∃v,(∀w,F w->(execOp a.eval o).run P w=.ok (.value v) w)/\C (a.put o.dst v) own F)
def mc(P:Program)(ops:Array Oper)(S:World->Prop)(qk:Oper->Bool)(Q:Act->World->Prop)(tail:List Oper):List Oper->Act->List Nat->(World->Prop)->Prop
 | [],a,own,F=>aG P ops (λ_=>True) Q tail a own F|o::l,a,own,F=>lz P ops S qk (mc P ops S qk Q tail l) o a own F
theorem lz.imp(hi:bF S own F)(hc:∀a own F,bF S own F->C a own F->C' a own F)(h:lz P ops S qk C o a own F):lz P ops S qk C' o a own F:=by
 rcases h with⟨h1,h2⟩|⟨h1,h2,v,h3,h4⟩
 ·exact .inl ⟨h1,aW.imp hi hc h2⟩
 ·exact .inr ⟨h1,h2,v,h3,hc _ _ _ hi h4⟩
theorem mc.perm{l:List Oper}:∀ {a:Act} {own own':List Nat} {F:World->Prop},(∀g,g∈own' <-> g∈own)->mc P ops S qk Q tail l a own F->mc P ops S qk Q tail l a own' F:=by
 induction l with|nil=>intro a own own' F ho h;exact aG.perm (Q:=Q) ho h|cons o l ih =>
  intro a own own' F ho h;rcases h with⟨hq,h⟩|⟨hq,hw,v,hv,h⟩
  ·refine .inl ⟨hq, ?_⟩;cases h with|pure v hy h=>exact .pure v hy (ih ho h)|flo hk hw obj hr h=>exact .flo hk hw obj hr λg hg hs=>ih (λx=>by simp[ho]) (h g (λhx=>hg ((ho g).2 hx)) hs)|eff hk hw I sh T hm hg h=>exact .eff hk hw I sh T hm hg λt ht=>ih ho (h t ht)|sto hk hw I sh T hm hs hg h =>
    refine .sto hk hw I sh T hm hs hg λt hx=>?_
    have e:(λw:World=>T t w/\∀g∈own',g<w.heap.size)=(λw:World=>T t w/\∀g∈own,g<w.heap.size):=by
     funext w;simp only[ho]
    rw[e] at hx ⊢;exact ih ho (h t hx)|mu hk hw B hB I sh T hm hs hg h =>
    refine .mu hk hw B ((ho B).2 hB) I sh T hm hs hg λt hx=>?_
    have e:(λw:World=>T t w/\∀g∈own',g<w.heap.size)=(λw:World=>T t w/\∀g∈own,g<w.heap.size):=by
     funext w;simp only[ho]
    rw[e] at hx ⊢;exact ih ho (h t hx)
  ·exact .inr ⟨hq,hw,v,hv,ih ho h⟩
def Ap(qk:Oper->Bool)(k o:Oper):Prop:=(qk k=false/\qk o=false/\Before k o)\/(qk k=true/\(qk o=true\/av o=0))\/(qk o=true/\(qk k=true\/av k=0))
theorem a6G(hi:bF S own F)(ha:Apart ops k o)(hb:Ap qk k o)(hC:∀a own own' F,(∀g,g∈own' <-> g∈own)->C a own F->C a own' F)
  (h:lz P ops S qk (λa1 own1 F1=>lz P ops S qk C o a1 own1 F1) k a own F):lz P ops S qk (λa1 own1 F1=>lz P ops S qk C k a1 own1 F1) o a own F:=by
 have put {v u:Value} {own:List Nat} {F:World->Prop} (h:C ((a.put k.dst v).put o.dst u) own F):C ((a.put o.dst u).put k.dst v) own F:=by rw[<- ha.comm];exact h
 rcases h with⟨hqk,h⟩|⟨hqk,hwk,v,hv,h⟩
 ·cases hqo : qk o with|false =>
   have hbb:Before k o:=by
    rcases hb with hb|hb|hb
    ·exact hb.2.2
    ·rw[hqk] at hb;cases hb.1
    ·rw[hqo] at hb;cases hb.1
   have h1:aW P ops S (λa1 own1 F1=>aW P ops S C o a1 own1 F1) k a own F :=
    aW.imp hi (λa own F _ h=>by
     rcases h with⟨_,h⟩|⟨h,_⟩
     ·exact h
     ·rw[hqo] at h;cases h) h
   exact .inl ⟨hqo,aW.imp hi (λa own F _ h=>.inl ⟨hqk,h⟩) (swap hi ha hbb hC h1)⟩|true =>
   have hk0:av k=0:=by
    rcases hb with hb|hb|hb
    ·rw[hqo] at hb;cases hb.2.1
    ·rw[hqk] at hb;cases hb.1
    ·rcases hb.2 with hb | hb
     ·rw[hqk] at hb;cases hb
     ·exact hb
   cases h with|pure v hy h =>
    rcases h with⟨h,_⟩|⟨_,hwo,u,hu,h⟩
    ·rw[hqo] at h;cases h
    ·refine .inr ⟨hqo, by rw [<- ha.want a v]; exact hwo, u, λw hw => by rw [<- ha.exec a v]; exact hu w hw, ?_⟩;exact .inl ⟨hqk,.pure v (ha.symm.yields.2 hy) (put h)⟩|flo hk'=>omega|eff hk'=>omega|sto hk'=>omega|mu hk'=>omega
 ·have back (u:Value) (h:C ((a.put k.dst v).put o.dst u) own F):lz P ops S qk C k (a.put o.dst u) own F :=
   .inr ⟨hqk,by rw[ha.symm.want a u];exact hwk,v,λw hw=>by rw[ha.symm.exec a u];exact hv w hw,put h⟩
  rcases h with⟨hqo,h⟩|⟨hqo,hwo,u,hu,h⟩
  ·have ho0:av o=0:=by
    rcases hb with hb|hb|hb
    ·rw[hqk] at hb;cases hb.1
    ·rcases hb.2 with hb | hb
     ·rw[hqo] at hb;cases hb
     ·exact hb
    ·rw[hqo] at hb;cases hb.1
   cases h with|pure u hy h=>exact .inl ⟨hqo,.pure u (ha.yields.1 hy) (back u h)⟩|flo hk'=>omega|eff hk'=>omega|sto hk'=>omega|mu hk'=>omega
  ·exact .inr ⟨hqo,by rw[<- ha.want a v];exact hwo,u,λw hw=>by rw[<- ha.exec a v];exact hu w hw,back u h⟩
theorem a3N{pre post:List Oper}(hp:∀k∈pre,Apart ops k o/\Ap qk k o):∀ {a:Act} {own:List Nat} {F:World->Prop},bF S own F->mc P ops S qk Q tail (pre++o::post) a own F ->
  lz P ops S qk (mc P ops S qk Q tail (pre++post)) o a own F:=by
 induction pre with|nil=>intro a own F _ h;exact h|cons k pre ih =>
  intro a own F hi h;have h1:lz P ops S qk (λa1 own1 F1=>lz P ops S qk (mc P ops S qk Q tail (pre++post)) o a1 own1 F1) k a own F :=
   lz.imp hi (λa own F hi h=>ih (λx hx=>hp x (List.mem_cons_of_mem _ hx)) hi h) h
  have hk:=hp k (List.mem_cons_self ..);exact a6G hi hk.1 hk.2 (λa own own' F ho h=>h.perm ho) h1
def Fz(qk:Oper->Bool)(k o:Oper):Bool:=(!(qk k)&&!(qk o)&&qb k o)||(qk k&&(qk o||av o==0))||(qk o&&(qk k||av k==0))
theorem VT{qk:Oper->Bool}{k o:Oper}(h:Fz qk k o=true):Ap qk k o:=by
 unfold Fz at h;simp only[Bool.or_eq_true,Bool.and_eq_true,Bool.not_eq_true',beq_iff_eq] at h;rcases h with (h|h)|h
 ·refine .inl ⟨h.1.1, h.1.2, ?_⟩;have h2:=h.2;simp only[qb,Bool.or_eq_true,beq_iff_eq,Bool.and_eq_true,bne_iff_ne] at h2;rcases h2 with (h2|h2)|h2
  ·exact .inl h2
  ·exact .inr (.inl h2)
  ·exact .inr (.inr h2)
 ·exact .inr (.inl h)
 ·exact .inr (.inr h)
def Dj(qk:Oper->Bool)(ops:Array Oper)(i k:Nat):Bool :=
 match ops[i]?,ops[k]? with|some o,some x=>eX ops 0 i k||(Fz qk x o&&Oper.apart ops x o)||eX ops 20 i k|_,_=>false
end
end
section
section
variable {P:Program} {ops:Array Oper} {S:World->Prop} {qk:Oper->Bool}
def EZ(qk:Oper->Bool)(ops:Array Oper)(a b:Nat):Prop:=a≠b/\Dj qk ops b a=true/\b∉iU ops a
def LP(ops:Array Oper)(a:Nat):Prop:=a∉iU ops a/\∀e∈iU ops a,e<ops.size
structure lu (qk:Oper->Bool) (ops:Array Oper) (listed:Array Bool) (zs:List (Nat×Oper)):Prop where
 size:listed.size=ops.size
 here:∀p∈zs,ops[p.1]? = some p.2
 mem:∀i,i<ops.size->(listed.getD i true=false <-> i∈zs.map (·.1))
 pw:zs.Pairwise (λp q=>EZ qk ops p.1 q.1)
 self:∀p∈zs,LP ops p.1
theorem lu.take{listed:Array Bool}{pre post:List (Nat×Oper)}{i:Nat}{o:Oper}(h:lu qk ops listed (pre++(i,o)::post)):lu qk ops (listed.setIfInBounds i true) (pre++post):=by
 have hs:=h.pw;rw[List.pairwise_append] at hs;obtain⟨h1,h2,h3⟩:=hs;rw[List.pairwise_cons] at h2;have hlt:i<ops.size:=(Array.getElem?_eq_some_iff.1 (h.here (i,o) (by simp))).1;have sub:∀p∈pre++post,p∈pre++(i,o)::post:=λp hp=>by rcases List.mem_append.1 hp with hp|hp<;>simp[hp]
 refine⟨by simp[h.size],λp hp=>h.here p (sub p hp),λj hj=>?_,?_,λp hp=>h.self p (sub p hp)⟩
 ·by_cases hij : i = j
  ·subst hij;constructor
   ·intro e;simp[h.size,hlt] at e
   ·intro hm;obtain⟨p,hp,he⟩:=List.mem_map.1 hm;rcases List.mem_append.1 hp with hp|hp
    ·exact absurd he (h3 p hp (i,o) (List.mem_cons_self ..)).1
    ·exact absurd he.symm (h2.1 p hp).1
  ·rw [getD_set_ne true hij, h.mem j hj];simp only[List.map_append,List.map_cons,List.mem_append,List.mem_cons];constructor
   ·rintro (h | h | h)
    ·exact .inl h
    ·exact absurd h.symm hij
    ·exact .inr h
   ·rintro (h | h)
    ·exact .inl h
    ·exact .inr (.inr h)
 ·rw [List.pairwise_append];exact⟨h1,h2.2,λp hp q hq=>h3 p hp q (List.mem_cons_of_mem _ hq)⟩
theorem lu.weak{qk':Oper->Bool}{listed:Array Bool}{z:Nat×Oper}(h:lu qk ops listed [z]):lu qk' ops listed [z] :=
 ⟨h.size,h.here,h.mem,List.pairwise_singleton ..,h.self⟩
theorem UJ{Q:Exit->Act->World->Prop}(hsel:Region.noSelect ops=true)(zt:List (Nat×Oper))
  (hend:∀(listed:Array Bool) (a:Act) (own:List Nat) (F:World->Prop) (w:World),lu qk ops listed zt->Closed ops listed->bF (λ_=>True) own F->F w->aG P ops (λ_=>True) (λa w=>Q .normal a w) (zt.map (·.2)) a own F->wpAny P .any ops Q zt.length listed a w) :
  ∀(n:Nat) (zs:List (Nat×Oper)) (listed:Array Bool) (a:Act) (own:List Nat) (F:World->Prop) (w:World),zs.length=n->(∀p∈zt,∀q∈zs,(eX ops 0 p.1 q.1||eX ops 20 p.1 q.1)=true)->lu qk ops listed (zs++zt)->Closed ops listed ->
  bF S own F->F w->mc P ops S qk (λa w=>Q .normal a w) (zt.map (·.2)) (zs.map (·.2)) a own F->wpAny P .any ops Q (n+zt.length) listed a w:=by
 intro n;induction n with|zero =>
  intro zs listed a own F w hn hz hl hc hi hw h;have:zs=[]:=List.eq_nil_of_length_eq_zero hn;subst this;rw[Nat.zero_add];exact hend listed a own F w (by simpa using hl) hc ⟨hi.mono,λ_ _=>trivial,hi.own,hi.ex⟩ hw h|succ n ih =>
  intro zs listed a own F w hn hz hl hc hi hw h;have hget (i:Nat) (hlt:i<ops.size) (hu:¬listed.getD i true=false):listed.getD i false=true:=by
   have hlt':i<listed.size:=by rw[hl.size];exact hlt
   simp[hlt'] at hu ⊢;exact hu
  rw[show n+1+zt.length=n+zt.length+1 by omega];obtain⟨⟨i0,o0⟩,rest,hzs⟩:∃z rest,zs=z::rest:=by
   cases zs with|nil=>simp at hn|cons z rest=>exact⟨z,rest,rfl⟩
  have h0un:listed.getD i0 true=false:=by
   have ho:=hl.here (i0,o0) (by simp[hzs]);exact (hl.mem i0 (Array.getElem?_eq_some_iff.1 ho).1).2 (by simp[hzs])
  refine⟨λh0=>?_,λi hr=>?_⟩
  ·exfalso;have ho:=hl.here (i0,o0) (by simp[hzs]);have hlt:i0<ops.size:=(Array.getElem?_eq_some_iff.1 ho).1;have hs0:=hl.self (i0,o0) (by simp[hzs]);have hr:i0∈Region.ready .any ops listed:=by
    refine mem_ready.2 ⟨h0un,o0,ho,λe he hb=>?_⟩;have hd:e.on∈iU ops i0:=(vT ho).2 ⟨e,he,hb,rfl⟩;have hes:=hs0.2 _ hd;refine hget _ hes λhu=>?_
    have hm:=(hl.mem e.on hes).1 hu;have hs:=hl.pw;rw[hzs] at hm hs;simp only[List.cons_append,List.map_cons,List.mem_cons] at hm hs;rcases hm with hm|hm
    ·exact hs0.1 (hm ▸ hd)
    ·obtain ⟨p, hp, he'⟩ := List.mem_map.1 hm;have:=((List.pairwise_cons.1 hs).1 p hp).2.2;exact this (he' ▸ hd)
   rw[h0] at hr;cases hr
  ·obtain ⟨hu, o, ho, _⟩ := mem_ready.1 hr;have hlt:i<ops.size:=(Array.getElem?_eq_some_iff.1 ho).1;have hno (j:Nat) (hju:listed.getD j true=false) (hj:j<ops.size) (f:Nat):eX ops f i j=false:=by
    cases hx:eX ops f i j with|false=>rfl|true =>
     have h1:=wJ hc f i j (wK hr) hx;have hlt':j<listed.size:=by rw[hl.size];omega
     simp[hlt'] at h1 hju;rw[h1] at hju;cases hju
   have hm:=(hl.mem i hlt).1 hu;obtain⟨⟨i',o'⟩,hp,hei⟩:=List.mem_map.1 hm;simp only at hei;subst hei;have ho':=hl.here _ hp;simp only at ho';rw[ho] at ho';simp only[Option.some.injEq] at ho';subst ho';have hp':(i',o)∈zs:=by
    rcases List.mem_append.1 hp with h|h
    ·exact h
    ·exfalso;have h0s:i0<ops.size:=(Array.getElem?_eq_some_iff.1 (hl.here (i0,o0) (by simp[hzs]))).1;have:=hz _ h (i0,o0) (by simp[hzs]);simp only[hno i0 h0un h0s 0,hno i0 h0un h0s 20] at this;cases this
   obtain⟨pre,post,rfl⟩:=List.append_of_mem hp';have hl':lu qk ops listed (pre++(i',o)::(post++zt)):=by simpa using hl
   have hpre:∀k∈pre.map (·.2),Apart ops k o/\Ap qk k o:=by
    intro k hk;obtain⟨⟨j,k'⟩,hj,rfl⟩:=List.mem_map.1 hk;have hji:=((List.pairwise_append.1 hl'.pw).2.2) _ hj (i',o) (List.mem_cons_self ..);have hjk:=hl'.here (j,k') (by simp[hj]);simp only at hjk;have hjs:j<ops.size:=(Array.getElem?_eq_some_iff.1 hjk).1;have hju:listed.getD j true=false:=(hl'.mem j hjs).2 (by simp only[List.map_append,List.mem_append,List.mem_map];exact .inl ⟨_,hj,rfl⟩);have hpair:=hji.2.1;simp only[Dj,ho,hjk,hno j hju hjs,Bool.or_false,Bool.false_or,Bool.and_eq_true] at hpair;obtain⟨hbe,hap⟩:=hpair;obtain⟨a1,a2,a3⟩:=Oper.apart_spec hap
    exact⟨⟨a1,a3,a2,λcs b=>Region.noSelect_spec hsel j k' cs b hjk,λcs b=>Region.noSelect_spec hsel i' o cs b ho⟩,VT hbe⟩
   have hst:=a3N (post:=post.map (·.2)) hpre hi (by simpa using h);have hlen:(pre++post).length=n:=by simp at hn ⊢;omega
   have next {a':Act} {own':List Nat} {F':World->Prop} {w':World} (hi':bF S own' F') (hw':F' w') (h':mc P ops S qk (λa w=>Q .normal a w) (zt.map (·.2)) (pre.map (·.2)++post.map (·.2)) a' own' F'):wpAny P .any ops Q (n+zt.length) (listed.setIfInBounds i' true) a' w' :=
    ih (pre++post) _ a' own' F' w' hlen (λp hp q hq=>hz p hp q (by rcases List.mem_append.1 hq with hq|hq<;>simp[hq])) (by have:=hl'.take;simpa using this) (hc.set hr) hi' hw' (by simpa using h')
   rcases hst with⟨_,hst⟩|⟨_,hwant,v,hv,h⟩
   ·cases hst with|pure v hy h=>exact hy.wpOp ho (hi.held w hw) (next hi hw h)|flo hk hwant obj hrun h =>
     unfold wpOp;simp only[ho,hwant,if_true];refine .inl ?_;unfold Oper.wp;rw[hrun w (hi.held w hw)];have hs:∃w':World,F w'/\w'.heap[w.heap.size]? = some obj:=⟨{ w with heap:=w.heap.push obj },hi.mono _ _ hw (kM w obj),by simp⟩;exact next (hi.flo obj _ hs) ⟨hi.mono _ _ hw (kM w obj),by simp⟩ (h _ (λhx=>Nat.lt_irrefl _ (hi.own w hw _ hx)) hs)|eff hk hwant I sh T hm' hg h =>
     unfold wpOp;simp only[ho,hwant,if_true];refine .inl ((hg w hw).wp ?_);rintro v w' ⟨t,rfl,hb,ht⟩;have hs:∃w,F w/\T t w:=⟨w',hi.mono _ _ hw hb,ht⟩;exact next (hi.eff (hm' t) hs) ⟨hi.mono _ _ hw hb,ht⟩ (h t hs)|sto hk hwant I sh T hm' hs hg h =>
     unfold wpOp;simp only[ho,hwant,if_true];refine .inl ((hg w hw).wp ?_);rintro v w' ⟨t,rfl,hb,ht⟩;have hx:T t w'/\∀g∈own,g<w'.heap.size:=⟨ht,λg hg=>Nat.lt_of_lt_of_le (hi.own w hw g hg) hb⟩;exact next (bF.sto (hm' t) (hs t) ⟨w',hx⟩) hx (h t ⟨w',hx⟩)|mu hk hwant B hB I sh T hm' hs hg h =>
     unfold wpOp;simp only[ho,hwant,if_true];refine .inl ((hg w hw).wp ?_);rintro v w' ⟨t,rfl,hb,ht⟩;have hx:T t w'/\∀g∈own,g<w'.heap.size:=⟨ht,λg hg=>Nat.lt_of_lt_of_le (hi.own w hw g hg) hb.1⟩;exact next (bF.sto (hm' t) (hs t) ⟨w',hx⟩) hx (h t ⟨w',hx⟩)
   ·unfold wpOp;simp only[ho,hwant,if_true];refine .inl ?_;unfold Oper.wp;rw[hv w hw];exact next hi hw h
theorem none_left{Q:Exit->Act->World->Prop}{qk:Oper->Bool}{listed:Array Bool}{a:Act}{w:World}(hl:lu qk ops listed [])(h:Q .normal a w):wpAny P .any ops Q 0 listed a w:=by
 refine⟨?_,h⟩;rw[List.eq_nil_iff_forall_not_mem];intro i hr;have h1:=mem_ready.1 hr;obtain⟨hu,o,ho,_⟩:=h1;have:=(hl.mem i (Array.getElem?_eq_some_iff.1 ho).1).1 hu;simp at this
theorem a2N{Q:Exit->Act->World->Prop}{qk:Oper->Bool}(hsel:Region.noSelect ops=true){z:Nat×Oper}{listed:Array Bool}{a:Act}{own:List Nat}{F:World->Prop}{w:World}(hl:lu qk ops listed [z])(hc:Closed ops listed)
  (hi:bF (λ_=>True) own F) (hw:F w) (h:aG P ops (λ_=>True) (λa w=>Q .normal a w) [z.2] a own F):wpAny P .any ops Q 1 listed a w:=by
 have hl2:lu (λ_=>false) ops listed [z]:=hl.weak;have h2:mc P ops (λ_=>True) (λ_=>false) (λa w=>Q .normal a w) [] [z.2] a own F:=.inl ⟨rfl,h⟩;have key:=UJ (P:=P) (S:=λ_=>True) (qk:=λ_=>false) (Q:=Q) hsel [] ?_ 1 [z] listed a own F w (by rw[List.length_singleton]) (λp hp=>by cases hp) (by rw[List.append_nil];exact hl2) hc hi hw (by rw[List.map_nil,List.map_singleton];exact h2)
 ·rw [List.length_nil, Nat.add_zero] at key;exact key
 ·intro listed a own F w hl hc hi hw h;rw[List.length_nil];rw[List.map_nil] at h;exact none_left hl (h w hw)
end
def C9(qk:Oper->Bool)(ops:Array Oper):List Nat->List Nat->Bool
 | _,[]=>true|done,i::l=>(iU ops i).all (λe=>done.contains e)&&decide (i<ops.size)&&!(done.contains i)&&done.all (λk=>Dj qk ops i k)&&C9 qk ops (i::done) l
def CZ(qk:Oper->Bool)(ops:Array Oper)(N:Nat)(ord:List Nat):Bool :=
 Region.noSelect ops&&((List.range ops.size).all λi=>ord.contains i)&&C9 qk ops [] ord&&decide ((ord.drop N).length<=1)&&(ord.drop N).all λi=>(ord.take N).all λk=>eX ops 0 i k||eX ops 20 i k
def mR(ops:Array Oper)(ord:List Nat):List Oper:=ord.filterMap λi=>ops[i]?
theorem QQ{qk:Oper->Bool}{ops:Array Oper}:∀ {l done:List Nat},C9 qk ops done l=true->(∀d∈done,d<ops.size)->l.Pairwise (EZ qk ops)/\∀i∈l,i<ops.size/\LP ops i/\i∉done/\∀k∈done,Dj qk ops i k=true
 | [],_,_,_=>⟨.nil,nofun⟩|i::l,done,h,hd=>by
  unfold C9 at h;simp only[Bool.and_eq_true,List.all_eq_true,decide_eq_true_eq,Bool.not_eq_true',List.contains_eq_mem,decide_eq_false_iff_not] at h;obtain⟨⟨⟨⟨h1,h2⟩,h3⟩,h4⟩,h5⟩:=h;obtain⟨k1,k2⟩:=QQ h5 (λd hd'=>by rcases List.mem_cons.1 hd' with rfl|hd';exact h2;exact hd d hd');refine⟨List.pairwise_cons.2 ⟨λj hj=>?_,k1⟩,λj hj=>?_⟩
  ·obtain ⟨_, _, q3, q4⟩ := k2 j hj;exact⟨λe=>q3 (e ▸ List.mem_cons_self ..),q4 i (List.mem_cons_self ..),λhx=>q3 (List.mem_cons_of_mem _ (h1 j hx))⟩
  ·rcases List.mem_cons.1 hj with rfl | hj
   ·exact⟨h2,⟨λhx=>h3 (h1 _ hx),λe he=>hd e (h1 e he)⟩,h3,h4⟩
   ·obtain ⟨q1, q2, q3, q4⟩ := k2 j hj;exact⟨q1,q2,λhx=>q3 (List.mem_cons_of_mem _ hx),λk hk=>q4 k (List.mem_cons_of_mem _ hk)⟩
theorem a7e{P:Program}{id:Nat}{l:List Oper}{Q:Exit->Act->World->Prop}{a:Act}{w:World}(ord:List Nat)(N:Nat)(qk:Oper->Bool)(S F:World->Prop)(hm:P.follows .mixedOrders=true)(hB:CZ qk l.toArray N ord=true)(hF:F w)
  (hmono:dh F) (hFS:∀W,F W->S W) (hsz:∀W,F W->w.heap.size<=W.heap.size)
  (h:mc P l.toArray S qk (λa w=>Q .normal a w) (mR l.toArray (ord.drop N)) (mR l.toArray (ord.take N)) a (List.range w.heap.size) F):(Code.region id l.toArray true).wp P Q a w:=by
 refine wp_region_any hm ?_;have hd:Below w.heap.size w { w with drawn:=w.drawn+1 }:=⟨rfl,rfl,rfl,Nat.le_refl _,λ_ _=>rfl⟩;have hSd:=hmono _ _ hF hd;simp only[CZ,Bool.and_eq_true,List.all_eq_true,List.mem_range,decide_eq_true_eq,List.contains_eq_mem] at hB;obtain⟨⟨⟨⟨hsel,hall⟩,hok⟩,hone⟩,htail⟩:=hB;obtain⟨hpw,hin⟩:=QQ hok nofun
 let zf:Nat->Option (Nat×Oper):=λi=>(l.toArray[i]?).map λo=>(i,o)
 have hzf:∀ {m:List Nat},(∀i∈m,i<l.toArray.size)->(m.filterMap zf).map (·.1)=m/\(m.filterMap zf).map (·.2)=mR l.toArray m/\(m.filterMap zf).length=m.length:=by
  intro m;induction m with|nil=>intro _;exact⟨rfl,rfl,rfl⟩|cons i m ih =>
   intro hm;obtain⟨h1,h2,h3⟩:=ih (λj hj=>hm j (List.mem_cons_of_mem _ hj));have hi:=hm i (List.mem_cons_self ..);have e:l.toArray[i]? = some l.toArray[i]:=Array.getElem?_eq_getElem hi;have e1:zf i=some (i,l.toArray[i]):=by show (l.toArray[i]?).map _=_;rw[e];rfl
   unfold mR at *;rw[List.filterMap_cons_some e1,List.filterMap_cons_some e,List.map_cons,List.map_cons,h1,h2,List.length_cons,List.length_cons,h3];exact⟨rfl,rfl,rfl⟩
 have hlt:∀i∈ord,i<l.toArray.size:=λi hi=>(hin i hi).1
 obtain⟨t1,t2,t3⟩:=hzf (m:=ord.take N) (λi hi=>hlt i (List.mem_of_mem_take hi));obtain⟨d1,d2,d3⟩:=hzf (m:=ord.drop N) (λi hi=>hlt i (List.mem_of_mem_drop hi));obtain⟨o1,o2,o3⟩:=hzf hlt;have happ:(ord.take N).filterMap zf++(ord.drop N).filterMap zf=ord.filterMap zf:=by rw[<- List.filterMap_append,List.take_append_drop]
 have hnd:ord.Nodup:=hpw.imp λh=>h.1
 have hlen:ord.length=l.toArray.size:=by
  have h1:ord.length<=(List.range l.toArray.size).length:=List.Nodup.length_le_of_subset hnd λi hi=>List.mem_range.2 (hlt i hi)
  have h2:(List.range l.toArray.size).length<=ord.length:=List.Nodup.length_le_of_subset List.nodup_range λi hi=>hall i (List.mem_range.1 hi)
  rw[List.length_range] at h1 h2;omega
 have hzmem:∀ {m:List Nat} {p:Nat×Oper},p∈m.filterMap zf->p.1∈m/\l.toArray[p.1]? = some p.2:=by
  intro m p hp;obtain⟨i,hi,he⟩:=List.mem_filterMap.1 hp;obtain⟨o,ho,rfl⟩:=Option.map_eq_some_iff.1 he;exact⟨hi,ho⟩
 have hsz2:((ord.take N).filterMap zf).length+((ord.drop N).filterMap zf).length=l.toArray.size:=by
  rw[<- List.length_append,happ,o3,hlen]
 have hL:lu qk l.toArray (Array.replicate l.toArray.size false) ((ord.take N).filterMap zf++(ord.drop N).filterMap zf):=by
  rw[happ];refine⟨by simp,λp hp=>(hzmem hp).2,λi hi=>?_,?_,λp hp=>(hin _ (hzmem hp).1).2.1⟩
  ·rw [o1];have hi':i<l.length:=by simpa using hi
   constructor
   ·intro _;exact hall i hi
   ·intro _;simp[hi']
  ·have : ((ord.filterMap zf).map (·.1)).Pairwise (EZ qk l.toArray) := by rw [o1]; exact hpw
   rwa [List.pairwise_map] at this
 have hC:Closed l.toArray (Array.replicate l.toArray.size false):=by
  intro j hj;rcases Nat.lt_or_ge j l.length with h'|h'<;>simp[h'] at hj
 rw[<- hsz2];refine UJ (S:=S) hsel ((ord.drop N).filterMap zf) ?_ _ ((ord.take N).filterMap zf) _ a (List.range w.heap.size) F _ rfl ?_ (by rw[hsz2];exact hL) (by rw[hsz2];exact hC) ⟨hmono,hFS,λw hw g hg=>Nat.lt_of_lt_of_le (List.mem_range.1 hg) (hsz w hw),⟨_,hSd⟩⟩ hSd (by rw[t2,d2];exact h)
 ·intro listed a own F w hl hc hi hw h;have h1:((ord.drop N).filterMap zf).length<=1:=by rw[d3];exact hone
  generalize (ord.drop N).filterMap zf=zt at hl h h1;rcases zt with _|⟨z,_|⟨y,zt⟩⟩
  ·rw [List.length_nil];rw[List.map_nil] at h;exact none_left hl (h w hw)
  ·rw [List.length_singleton];rw[List.map_singleton] at h;exact a2N hsel hl hc hi hw h
  ·simp at h1
 ·intro p hp q hq;have:=htail p.1 (hzmem hp).1 q.1 (hzmem hq).1;simpa using this
end
end Go.Proofs.YtghemgdfmldoeaaGreat
