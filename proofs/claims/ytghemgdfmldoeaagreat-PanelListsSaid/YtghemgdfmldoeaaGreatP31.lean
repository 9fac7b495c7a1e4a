import Derived.Test.YtghemgdfmldoeaaGreatP02
set_option linter.unusedVariables false
set_option linter.unusedSimpArgs false
namespace Go.Proofs.YtghemgdfmldoeaaGreat.K
open Go.RowKit
def av(o:Oper):Nat :=
 match o.op with|.alloc _=>1|.call c=>(match c.callee with | .builtin .append=>2 | .builtin _=>0|_=>2)|.box _ _=>2|.buildSlice _ _ _=>1|.store _ _ _=>3|_=>0
section
variable {P:Program} {ops:Array Oper}
inductive aW (P:Program) (ops:Array Oper) (S:World->Prop) (C:Act->List Nat->(World->Prop)->Prop) (o:Oper) (a:Act) (own:List Nat) (F:World->Prop):Prop
 | pure (v:Value) (hy:YieldsIf P ops S o v a) (h:C (a.put o.dst v) own F)
 | flo (hk:av o=1) (hw:Region.wanted o (yielded ops a.tmps)=true) (obj:Obj)
   (hr:∀w,S w->(execOp a.eval o).run P w=.ok (.value (gq o w.heap.size)) { w with heap:=w.heap.push obj })
   (h:∀g,g∉own->(∃w:World,F w/\w.heap[g]? = some obj)->C (a.put o.dst (gq o g)) (g::own) (λw=>F w/\w.heap[g]? = some obj))
 | eff (hk:av o=2) (hw:Region.wanted o (yielded ops a.tmps)=true) (I:Type) (sh:I->Value) (T:I->World->Prop) (hm:∀t,dh (T t))
   (hg:∀w,F w->aL P o a w (λv w'=>∃t,v=sh t/\Below w.heap.size w w'/\T t w'))
   (h:∀t,(∃w,F w/\T t w)->C (a.put o.dst (sh t)) own (λw=>F w/\T t w))
 | sto (hk:av o=3) (hw:Region.wanted o (yielded ops a.tmps)=true) (I:Type) (sh:I->Value) (T:I->World->Prop) (hm:∀t,dh (T t)) (hs:∀t w,T t w->S w)
   (hg:∀w,F w->aL P o a w (λv w'=>∃t,v=sh t/\w.heap.size<=w'.heap.size/\T t w'))
   (h:∀t,(∃w,T t w/\∀g∈own,g<w.heap.size)->C (a.put o.dst (sh t)) own (λw=>T t w/\∀g∈own,g<w.heap.size))
 | mu (hk:av o=2) (hw:Region.wanted o (yielded ops a.tmps)=true) (B:Nat) (hB:B∈own) (I:Type) (sh:I->Value) (T:I->World->Prop) (hm:∀t,dh (T t)) (hs:∀t w,T t w->S w)
   (hg:∀w,F w->aL P o a w (λv w'=>∃t,v=sh t/\Keep B w w'/\T t w'))
   (h:∀t,(∃w,T t w/\∀g∈own,g<w.heap.size)->C (a.put o.dst (sh t)) own (λw=>T t w/\∀g∈own,g<w.heap.size))
def aG(P:Program)(ops:Array Oper)(S:World->Prop)(Q:Act->World->Prop):List Oper->Act->List Nat->(World->Prop)->Prop
 | [],a,_,F=>∀w,F w->Q a w|o::l,a,own,F=>aW P ops S (aG P ops S Q l) o a own F
variable {S:World->Prop} {C C':Act->List Nat->(World->Prop)->Prop} {o k:Oper} {a:Act} {own own':List Nat} {F F':World->Prop} {Q:Act->World->Prop}
theorem aW.imp(hi:bF S own F)(hc:∀a own F,bF S own F->C a own F->C' a own F)(h:aW P ops S C o a own F):aW P ops S C' o a own F:=by
 cases h with|pure v hy h=>exact .pure v hy (hc _ _ _ hi h)|flo hk hw obj hr h=>exact .flo hk hw obj hr λg hg hs=>hc _ _ _ (hi.flo obj g hs) (h g hg hs)|eff hk hw I sh T hm hg h=>exact .eff hk hw I sh T hm hg λt ht=>hc _ _ _ (hi.eff (hm t) ht) (h t ht)|sto hk hw I sh T hm hs hg h=>exact .sto hk hw I sh T hm hs hg λt hx=>hc _ _ _ (bF.sto (hm t) (hs t) hx) (h t hx)|mu hk hw B hB I sh T hm hs hg h=>exact .mu hk hw B hB I sh T hm hs hg λt hx=>hc _ _ _ (bF.sto (hm t) (hs t) hx) (h t hx)
theorem aG.perm{l:List Oper}:∀ {a:Act} {own own':List Nat} {F:World->Prop},(∀g,g∈own' <-> g∈own)->aG P ops S Q l a own F->aG P ops S Q l a own' F:=by
 induction l with
 | nil=>intro a own own' F _ h;exact h
 | cons o l ih =>
  intro a own own' F ho h;cases h with
  | pure v hy h=>exact .pure v hy (ih ho h)
  | flo hk hw obj hr h=>exact .flo hk hw obj hr λg hg hs=>ih (λx=>by simp[ho]) (h g (λhx=>hg ((ho g).2 hx)) hs)
  | eff hk hw I sh T hm hg h=>exact .eff hk hw I sh T hm hg λt ht=>ih ho (h t ht)
  | sto hk hw I sh T hm hs hg h =>
   refine .sto hk hw I sh T hm hs hg λt hx=>?_
   have e:(λw:World=>T t w/\∀g∈own',g<w.heap.size)=(λw:World=>T t w/\∀g∈own,g<w.heap.size):=by
    funext w;simp only[ho]
   rw[e] at hx ⊢;exact ih ho (h t hx)
  | mu hk hw B hB I sh T hm hs hg h =>
   refine .mu hk hw B ((ho B).2 hB) I sh T hm hs hg λt hx=>?_
   have e:(λw:World=>T t w/\∀g∈own',g<w.heap.size)=(λw:World=>T t w/\∀g∈own,g<w.heap.size):=by
    funext w;simp only[ho]
   rw[e] at hx ⊢;exact ih ho (h t hx)
theorem aG.weak{l:List Oper}:∀ {a:Act} {own own':List Nat} {F F':World->Prop},(∀w,F w->F' w)->(∀g,g∈own->g∈own')->aG P ops S Q l a own F'->aG P ops S Q l a own' F:=by
 induction l with
 | nil=>intro a own own' F F' hF _ h w hw;exact h w (hF w hw)
 | cons o l ih =>
  intro a own own' F F' hF ho h;cases h with
  | pure v hy h=>exact .pure v hy (ih hF ho h)
  | flo hk hw obj hr h =>
   refine .flo hk hw obj hr λg hg hs=>ih (λw h=>⟨hF w h.1,h.2⟩) (λx hx=>?_) (h g (λhx=>hg (ho g hx)) (let ⟨w,h1,h2⟩:=hs;⟨w,hF w h1,h2⟩))
   rcases List.mem_cons.1 hx with rfl|hx
   ·exact List.mem_cons_self ..
   ·exact List.mem_cons_of_mem _ (ho x hx)
  | eff hk hw I sh T hm hg h =>
   exact .eff hk hw I sh T hm (λw hw=>hg w (hF w hw)) λt ht=>ih (λw h=>⟨hF w h.1,h.2⟩) ho (h t (let ⟨w,h1,h2⟩:=ht;⟨w,hF w h1,h2⟩))
  | sto hk hw I sh T hm hs hg h =>
   refine .sto hk hw I sh T hm hs (λw hw=>hg w (hF w hw)) λt hx=>ih (λw h=>⟨h.1,λg hg=>h.2 g (ho g hg)⟩) ho (h t (let ⟨w,h1,h2⟩:=hx;⟨w,h1,λg hg=>h2 g (ho g hg)⟩))
  | mu hk hw B hB I sh T hm hs hg h =>
   refine .mu hk hw B (ho B hB) I sh T hm hs (λw hw=>hg w (hF w hw)) λt hx=>ih (λw h=>⟨h.1,λg hg=>h.2 g (ho g hg)⟩) ho (h t (let ⟨w,h1,h2⟩:=hx;⟨w,h1,λg hg=>h2 g (ho g hg)⟩))
def Before(k o:Oper):Prop:=av o=0\/av k=0\/(av o=1/\av k≠3)
theorem aW.isPure(h:aW P ops S C o a own F){u:Value}(hu:YieldsIf P ops S o u a)(hk:av o=0\/av o=1)(hS:∃w,S w):C (a.put o.dst u) own F:=by
 cases h with|pure v hy h=>rw[YieldsIf.one hu hy hS];exact h|flo hk' hw obj hr h =>
  obtain⟨w,hs⟩:=hS;rcases hu with⟨_,hv⟩|⟨hn,_⟩
  ·have e := (hv w hs).symm.trans (hr w hs);simp only[Result.ok.injEq] at e;have:=congrArg (λx:World=>x.heap.size) e.2;simp at this
  ·rw[hw] at hn;cases hn|eff hk'=>omega|sto hk'=>omega|mu hk'=>omega
theorem aW.isFlo(h:aW P ops S C o a own F){obj:Obj}(hw:Region.wanted o (yielded ops a.tmps)=true)
  (hr:∀w,S w->(execOp a.eval o).run P w=.ok (.value (gq o w.heap.size)) { w with heap:=w.heap.push obj }) (hk:av o=0\/av o=1) (hS:∃w,S w) :
  ∀g,g∉own->(∃w:World,F w/\w.heap[g]? = some obj)->C (a.put o.dst (gq o g)) (g::own) (λw=>F w/\w.heap[g]? = some obj):=by
 cases h with|pure v hy h =>
  obtain⟨w,hs⟩:=hS;rcases hy with⟨_,hv⟩|⟨hn,_⟩
  ·have e := (hv w hs).symm.trans (hr w hs);simp only[Result.ok.injEq] at e;have:=congrArg (λx:World=>x.heap.size) e.2;simp at this
  ·rw[hw] at hn;cases hn|flo hk' hw' obj' hr' h =>
  obtain⟨w,hs⟩:=hS;have e:=(hr' w hs).symm.trans (hr w hs);simp only[Result.ok.injEq] at e;have e2:=congrArg (λx:World=>x.heap[w.heap.size]?) e.2;simp at e2;subst e2;exact h|eff hk'=>omega|sto hk'=>omega|mu hk'=>omega
theorem aW.view(h:aW P ops S C o a own F)(hk:av o=0\/av o=1):(∃u,YieldsIf P ops S o u a)\/(av o=1/\∃obj,Region.wanted o (yielded ops a.tmps)=true/\∀w,S w->(execOp a.eval o).run P w=.ok (.value (gq o w.heap.size)) { w with heap:=w.heap.push obj }):=by
 cases h with|pure v hy h=>exact .inl ⟨v,hy⟩|flo hk' hw' obj' hr' h=>exact .inr ⟨hk',obj',hw',hr'⟩|eff hk'=>omega|sto hk'=>omega|mu hk'=>omega
theorem swap(hi:bF S own F)(ha:Apart ops k o)(hb:Before k o)(hC:∀a own own' F,(∀g,g∈own' <-> g∈own)->C a own F->C a own' F)
  (h:aW P ops S (λa1 own1 F1=>aW P ops S C o a1 own1 F1) k a own F):aW P ops S (λa1 own1 F1=>aW P ops S C k a1 own1 F1) o a own F:=by
 have hS:∃w,S w:=let ⟨w,hw⟩:=hi.ex;⟨w,hi.held w hw⟩;have put {v u:Value} {own:List Nat} {F:World->Prop} (h:C ((a.put k.dst v).put o.dst u) own F):C ((a.put o.dst u).put k.dst v) own F:=by rw[<- ha.comm];exact h
 have tr (A B D:World->Prop):(λw=>(A w/\B w)/\D w)=(λw=>(A w/\D w)/\B w):=by
  funext w;exact propext ⟨λ⟨⟨a,b⟩,c⟩=>⟨⟨a,c⟩,b⟩,λ⟨⟨a,b⟩,c⟩=>⟨⟨a,c⟩,b⟩⟩
 cases h with
 | pure v hy h =>
  cases h with
  | pure u hu h=>exact .pure u (ha.yields.1 hu) (.pure v (ha.symm.yields.2 hy) (put h))
  | flo hk hw obj hr h =>
   refine .flo hk (by rw[<- ha.want a v];exact hw) obj (λw hw=>by rw[<- ha.exec a v];exact hr w hw) λg hg hs=>?_
   exact .pure v (ha.symm.yields.2 hy) (put (h g hg hs))
  | eff hk hw I sh T hm hg h =>
   refine .eff hk (by rw[<- ha.want a v];exact hw) I sh T hm (λw hw=>(hg w hw).of_same (ha.exec a v).symm) λt ht=>?_
   exact .pure v (ha.symm.yields.2 hy) (put (h t ht))
  | sto hk hw I sh T hm hs hg h =>
   refine .sto hk (by rw[<- ha.want a v];exact hw) I sh T hm hs (λw hw=>(hg w hw).of_same (ha.exec a v).symm) λt hx=>?_
   exact .pure v (ha.symm.yields.2 hy) (put (h t hx))
  | mu hk hw B hB I sh T hm hs hg h =>
   refine .mu hk (by rw[<- ha.want a v];exact hw) B hB I sh T hm hs (λw hw=>(hg w hw).of_same (ha.exec a v).symm) λt hx=>?_
   exact .pure v (ha.symm.yields.2 hy) (put (h t hx))
 | flo hk hw obj hr h =>
  have hk01:av o=0\/av o=1:=by rcases hb with hb|hb|hb<;>omega
  obtain⟨g0,hg0,hs0⟩:=hi.flo_some obj;rcases (h g0 hg0 hs0).view hk01 with⟨u,hu⟩|⟨ho,obj',hw',hr'⟩
  ·have hu' := ha.yields.1 hu;exact .pure u hu' (.flo hk (by rw[ha.symm.want a u];exact hw) obj (λw hw=>by rw[ha.symm.exec a u];exact hr w hw) λg hg hs=>put ((h g hg hs).isPure (ha.yields.2 hu') hk01 hS))
  ·rw [ha.want] at hw';simp only[ha.exec] at hr';refine .flo ho hw' obj' hr' λg' hg' hs'=>?_
   refine .flo hk (by rw[ha.symm.want];exact hw) obj (λw hw=>by rw[ha.symm.exec];exact hr w hw) λg hg hs=>?_
   have hgg:g≠g':=λe=>hg (by rw[e];exact List.mem_cons_self ..)
   have hgo:g∉own:=λe=>hg (List.mem_cons_of_mem _ e)
   obtain⟨w,⟨h1,h2⟩,h3⟩:=hs;have:=(h g hgo ⟨w,h1,h3⟩).isFlo (by rw[ha.want];exact hw') (λw hw=>by rw[ha.exec];exact hr' w hw) hk01 hS g' (by simp[hgg.symm,hg']) ⟨w,⟨h1,h3⟩,h2⟩;rw[tr] at this;exact hC _ _ _ _ (λx=>by simp only[List.mem_cons];constructor<;>(rintro (h|h|h)<;>simp[h])) (put this)
 | eff hk hw I sh T hm hg h =>
  have hk01:av o=0\/av o=1:=by rcases hb with hb|hb|hb<;>omega
  obtain⟨t0,hs0⟩:=hi.eff_some hg;rcases (h t0 hs0).view hk01 with⟨u,hu⟩|⟨ho,obj',hw',hr'⟩
  ·have hu' := ha.yields.1 hu;exact .pure u hu' (.eff hk (by rw[ha.symm.want a u];exact hw) I sh T hm (λw hw=>(hg w hw).of_same (ha.symm.exec a u)) λt ht=>put ((h t ht).isPure (ha.yields.2 hu') hk01 hS))
  ·rw [ha.want] at hw';simp only[ha.exec] at hr';refine .flo ho hw' obj' hr' λg' hg' hs'=>?_
   refine .eff hk (by rw[ha.symm.want];exact hw) I sh T hm (λw hw=>(hg w hw.1).of_same (ha.symm.exec a _)) λt ht=>?_
   obtain⟨w,⟨h1,h2⟩,h3⟩:=ht;have:=(h t ⟨w,h1,h3⟩).isFlo (by rw[ha.want];exact hw') (λw hw=>by rw[ha.exec];exact hr' w hw) hk01 hS g' hg' ⟨w,⟨h1,h3⟩,h2⟩;rw[tr] at this;exact put this
 | sto hk hw I sh T hm hs hg h =>
  have hk0:av o=0:=by rcases hb with hb|hb|hb<;>omega
  obtain⟨t0,w0,hx⟩:=hi.sto_some hg;rcases (h t0 ⟨w0,hx⟩).view (.inl hk0) with⟨u,hu⟩|⟨ho,_⟩
  ·have hu' := ha.yields.1 hu;exact .pure u hu' (.sto hk (by rw[ha.symm.want a u];exact hw) I sh T hm hs (λw hw=>(hg w hw).of_same (ha.symm.exec a u)) λt hx=>put ((h t hx).isPure (ha.yields.2 hu') (.inl hk0) hS))
  ·omega
 | mu hk hw B hB I sh T hm hs hg h =>
  have hk01:av o=0\/av o=1:=by rcases hb with hb|hb|hb<;>omega
  obtain⟨t0,hs0⟩:=hi.mut_some hg;rcases (h t0 hs0).view hk01 with⟨u,hu⟩|⟨ho,obj',hw',hr'⟩
  ·have hu' := ha.yields.1 hu;exact .pure u hu' (.mu hk (by rw[ha.symm.want a u];exact hw) B hB I sh T hm hs (λw hw=>(hg w hw).of_same (ha.symm.exec a u)) λt ht=>put ((h t ht).isPure (ha.yields.2 hu') hk01 hS))
  ·rw [ha.want] at hw';simp only[ha.exec] at hr';refine .flo ho hw' obj' hr' λg' hg' hs'=>?_
   have hne:g'≠B:=λe=>hg' (e ▸ hB)
   have bp (t:I):(λw=>(T t w/\w.heap[g']? = some obj')/\∀g∈g'::own,g<w.heap.size)=(λw=>(T t w/\∀g∈own,g<w.heap.size)/\w.heap[g']? = some obj'):=by
    funext w;refine propext ⟨λ⟨⟨h1,h2⟩,h3⟩=>⟨⟨h1,λg hg=>h3 g (List.mem_cons_of_mem _ hg)⟩,h2⟩,λ⟨⟨h1,h3⟩,h2⟩=>⟨⟨h1,h2⟩,λg hg=>?_⟩⟩;rcases List.mem_cons.1 hg with rfl|hg
    ·exact (Array.getElem?_eq_some_iff.1 h2).1
    ·exact h3 g hg
   refine .mu hk (by rw[ha.symm.want];exact hw) B (List.mem_cons_of_mem _ hB) I sh (λt w=>T t w/\w.heap[g']? = some obj') (λt=>(hm t).and (Hf g' obj')) (λt w h=>hs t w h.1) (λw hw=>?_) λt hx=>?_
   ·refine aL.of_same ?_ (ha.symm.exec a _);have:=hg w hw.1;unfold aL at *;generalize (execOp a.eval k).run P w=r at *;cases r with
    | ok n w1 =>
     cases n<;>simp only[dz] at this ⊢
     ·obtain⟨t,h1,h2,h3⟩:=this;exact⟨t,h1,h2,h3,h2.obj hw.2 hne⟩
     ·obtain⟨t,h1,h2,h3⟩:=this;exact⟨t,h1,h2,h3,h2.obj hw.2 hne⟩
     ·exact this.mono λe w2 ⟨v,he,t,h1,h2,h3⟩=>⟨v,he,t,h1,h2,h3,h2.obj hw.2 hne⟩
    | halt x w1=>simp only[dz] at this
   ·obtain ⟨w, h1⟩ := hx;have h2:(λw=>(T t w/\w.heap[g']? = some obj')/\∀g∈g'::own,g<w.heap.size) w:=h1;rw[bp t] at h2;have:=(h t ⟨w,h2.1⟩).isFlo (by rw[ha.want];exact hw') (λw hw=>by rw[ha.exec];exact hr' w hw) hk01 hS g' hg' ⟨w,h2⟩;rw[bp t];exact put this
theorem Dy{pre post:List Oper}(hp:∀k∈pre,Apart ops k o/\Before k o):∀ {a:Act} {own:List Nat} {F:World->Prop},bF S own F->aG P ops S Q (pre++o::post) a own F ->
  aW P ops S (aG P ops S Q (pre++post)) o a own F:=by
 induction pre with
 | nil=>intro a own F _ h;exact h
 | cons k pre ih =>
  intro a own F hi h;have h1:aW P ops S (λa1 own1 F1=>aW P ops S (aG P ops S Q (pre++post)) o a1 own1 F1) k a own F :=
   aW.imp hi (λa own F hi h=>ih (λx hx=>hp x (List.mem_cons_of_mem _ hx)) hi h) h
  have hk:=hp k (List.mem_cons_self ..);exact swap hi hk.1 hk.2 (λa own own' F ho h=>h.perm ho) h1
def qb(k o:Oper):Bool:=av o==0||av k==0||(av o==1&&av k != 3)
def uB(ops:Array Oper)(i k:Nat):Bool :=
 match ops[i]?,ops[k]? with|some o,some x=>eX ops 0 i k||(qb x o&&Oper.apart ops x o)||eX ops 20 i k|_,_=>false
def fN(ops:Array Oper):Bool :=
 Region.noSelect ops&&(List.range ops.size).all λi=>((iU ops i).all λe=>decide (e<i))&&(List.range i).all λk=>uB ops i k
theorem Ew{Q:Exit->Act->World->Prop}(hB:fN ops=true):∀(n:Nat) (zs:List (Nat×Oper)) (listed:Array Bool) (a:Act) (own:List Nat) (F:World->Prop) (w:World),zs.length=n->ru ops listed zs->Closed ops listed ->
  bF S own F->F w->aG P ops S (λa w=>Q .normal a w) (zs.map (·.2)) a own F->wpAny P .any ops Q n listed a w:=by
 have hB':=hB;simp only[fN,Bool.and_eq_true,List.all_eq_true,List.mem_range,decide_eq_true_eq] at hB';obtain⟨hsel,hall⟩:=hB';intro n;induction n with|zero =>
  intro zs listed a own F w hn hl hc hi hw h;have:zs=[]:=List.eq_nil_of_length_eq_zero hn;subst this;refine⟨?_,h w hw⟩;rw[List.eq_nil_iff_forall_not_mem];intro i hr;have h1:=mem_ready.1 hr;obtain⟨hu,o,ho,_⟩:=h1;have:=(hl.mem i (Array.getElem?_eq_some_iff.1 ho).1).1 hu;simp at this|succ n ih =>
  intro zs listed a own F w hn hl hc hi hw h;have hget (i:Nat) (hlt:i<ops.size) (hu:¬listed.getD i true=false):listed.getD i false=true:=by
   have hlt':i<listed.size:=by rw[hl.size];exact hlt
   simp[hlt'] at hu ⊢;exact hu
  refine⟨λh0=>?_,λi hr=>?_⟩
  ·exfalso;obtain⟨⟨i,o⟩,rest,rfl⟩:∃z rest,zs=z::rest:=by
    cases zs with|nil=>simp at hn|cons z rest=>exact⟨z,rest,rfl⟩
   have ho:=hl.here (i,o) (by simp);have hlt:i<ops.size:=(Array.getElem?_eq_some_iff.1 ho).1;have hr:i∈Region.ready .any ops listed:=by
    refine mem_ready.2 ⟨(hl.mem i hlt).2 (by simp),o,ho,λe he hb=>?_⟩;have hd:e.on∈iU ops i:=(vT ho).2 ⟨e,he,hb,rfl⟩;have hei:=(hall i hlt).1 _ hd;refine hget _ (by omega) λhu=>?_
    have hm:=(hl.mem e.on (by omega)).1 hu;simp only[List.map_cons,List.mem_cons] at hm;rcases hm with hm|hm
    ·omega
    ·obtain ⟨p, hp, he'⟩ := List.mem_map.1 hm;have:=(List.pairwise_cons.1 hl.sorted).1 p hp;simp at this;omega
   rw[h0] at hr;cases hr
  ·obtain ⟨hu, o, ho, _⟩ := mem_ready.1 hr;have hlt:i<ops.size:=(Array.getElem?_eq_some_iff.1 ho).1;have hm:=(hl.mem i hlt).1 hu;obtain⟨⟨i',o'⟩,hp,hei⟩:=List.mem_map.1 hm;simp only at hei;subst hei;have ho':=hl.here _ hp;simp only at ho';rw[ho] at ho';simp only[Option.some.injEq] at ho';subst ho';obtain⟨pre,post,rfl⟩:=List.append_of_mem hp;have hpre:∀k∈pre.map (·.2),Apart ops k o/\Before k o:=by
    intro k hk;obtain⟨⟨j,k'⟩,hj,rfl⟩:=List.mem_map.1 hk;have hji:j<i':=((List.pairwise_append.1 hl.sorted).2.2) _ hj (i',o) (List.mem_cons_self ..);have hjk:=hl.here (j,k') (by simp[hj]);simp only at hjk;have hju:listed.getD j true=false:=(hl.mem j (by omega)).2 (by simp only[List.map_append,List.mem_append,List.mem_map];exact .inl ⟨_,hj,rfl⟩);have hno (f:Nat):eX ops f i' j=false:=by
     cases hx:eX ops f i' j with|false=>rfl|true =>
      have h1:=wJ hc f i' j (wK hr) hx;have hlt':j<listed.size:=by rw[hl.size];omega
      simp[hlt'] at h1 hju;rw[h1] at hju;cases hju
    have hpair:=(hall i' hlt).2 j hji;simp only[uB,ho,hjk,hno,Bool.or_false,Bool.false_or,Bool.and_eq_true] at hpair;obtain⟨hbe,hap⟩:=hpair;obtain⟨a1,a2,a3⟩:=Oper.apart_spec hap;refine⟨⟨a1,a3,a2,λcs b=>Region.noSelect_spec hsel j k' cs b hjk,λcs b=>Region.noSelect_spec hsel i' o cs b ho⟩,?_⟩;simp only[qb,Bool.or_eq_true,beq_iff_eq,Bool.and_eq_true,bne_iff_ne] at hbe;rcases hbe with (hbe|hbe)|hbe
    ·exact .inl hbe
    ·exact .inr (.inl hbe)
    ·exact .inr (.inr hbe)
   have hst:=Dy (post:=post.map (·.2)) hpre hi (by simpa using h);have hlen:(pre++post).length=n:=by simp at hn ⊢;omega
   have next {a':Act} {own':List Nat} {F':World->Prop} {w':World} (hi':bF S own' F') (hw':F' w') (h':aG P ops S (λa w=>Q .normal a w) (pre.map (·.2)++post.map (·.2)) a' own' F'):wpAny P .any ops Q n (listed.setIfInBounds i' true) a' w' :=
    ih (pre++post) _ a' own' F' w' hlen hl.take (hc.set hr) hi' hw' (by simpa using h')
   cases hst with|pure v hy h=>exact hy.wpOp ho (hi.held w hw) (next hi hw h)|flo hk hwant obj hrun h =>
    unfold wpOp;simp only[ho,hwant,if_true];refine .inl ?_;unfold Oper.wp;rw[hrun w (hi.held w hw)];have hs:∃w':World,F w'/\w'.heap[w.heap.size]? = some obj:=⟨{ w with heap:=w.heap.push obj },hi.mono _ _ hw (kM w obj),by simp⟩;exact next (hi.flo obj _ hs) ⟨hi.mono _ _ hw (kM w obj),by simp⟩ (h _ (λhx=>Nat.lt_irrefl _ (hi.own w hw _ hx)) hs)|eff hk hwant I sh T hm' hg h =>
    unfold wpOp;simp only[ho,hwant,if_true];refine .inl ((hg w hw).wp ?_);rintro v w' ⟨t,rfl,hb,ht⟩;have hs:∃w,F w/\T t w:=⟨w',hi.mono _ _ hw hb,ht⟩;exact next (hi.eff (hm' t) hs) ⟨hi.mono _ _ hw hb,ht⟩ (h t hs)|sto hk hwant I sh T hm' hs hg h =>
    unfold wpOp;simp only[ho,hwant,if_true];refine .inl ((hg w hw).wp ?_);rintro v w' ⟨t,rfl,hb,ht⟩;have hx:T t w'/\∀g∈own,g<w'.heap.size:=⟨ht,λg hg=>Nat.lt_of_lt_of_le (hi.own w hw g hg) hb⟩;exact next (bF.sto (hm' t) (hs t) ⟨w',hx⟩) hx (h t ⟨w',hx⟩)|mu hk hwant B hB I sh T hm' hs hg h =>
    unfold wpOp;simp only[ho,hwant,if_true];refine .inl ((hg w hw).wp ?_);rintro v w' ⟨t,rfl,hb,ht⟩;have hx:T t w'/\∀g∈own,g<w'.heap.size:=⟨ht,λg hg=>Nat.lt_of_lt_of_le (hi.own w hw g hg) hb.1⟩;exact next (bF.sto (hm' t) (hs t) ⟨w',hx⟩) hx (h t ⟨w',hx⟩)
end
theorem Ai{P:Program}{l:List Oper}{Q:Exit->Act->World->Prop}{a:Act}{w:World}(S F:World->Prop)(hB:fN l.toArray=true)(n:Nat)(hmono:dh F)(hFS:∀w,F w->S w)(hsz:∀w,F w->n<=w.heap.size)(hw:F w)
  (h:aG P l.toArray S (λa w=>Q .normal a w) l a (List.range n) F):wpAny P .any l.toArray Q l.toArray.size (Array.replicate l.toArray.size false) a w:=by
 have hlen:(l.zipIdx.map λp=>(p.2,p.1)).length=l.toArray.size:=by simp
 refine Ew (S:=S) hB _ (l.zipIdx.map λp=>(p.2,p.1)) _ a (List.range n) F _ hlen ⟨by simp,?_,?_,?_⟩ ?_ ⟨hmono,hFS,λw hw g hg=>Nat.lt_of_lt_of_le (List.mem_range.1 hg) (hsz w hw),⟨w,hw⟩⟩ hw ?_
 ·intro p hp;obtain⟨⟨o,i⟩,hx,rfl⟩:=List.mem_map.1 hp;have:=List.mem_zipIdx' hx;simp[this.1,this.2]
 ·intro i hi;have hi':i<l.length:=by simpa using hi
  simp only[List.map_map];constructor
  ·intro _;refine List.mem_map.2 ⟨(l[i],i),?_,rfl⟩;rw[List.mem_zipIdx_iff_getElem?];simp[hi']
  ·intro _;simp[hi']
 ·rw [List.pairwise_map, List.pairwise_iff_getElem];intro i j hi hj hij;simpa using hij
 ·intro j hj;rcases Nat.lt_or_ge j l.length with h'|h'<;>simp[h'] at hj
 ·have : (l.zipIdx.map λp => (p.2, p.1)).map (·.2) = l := by simp [List.map_map, Function.comp_def, List.zipIdx_map_fst]
  rw[this];exact h
theorem wp_region_F{P:Program}{id:Nat}{l:List Oper}{Q:Exit->Act->World->Prop}{a:Act}{w:World}(S:World->Prop)(hm:P.follows .mixedOrders=true)(hB:fN l.toArray=true)(hmono:dh S)(hsz:∀W,S W->w.heap.size<=W.heap.size)(hS:S w)
  (h:aG P l.toArray S (λa w=>Q .normal a w) l a (List.range w.heap.size) S):(Code.region id l.toArray true).wp P Q a w:=by
 refine wp_region_any hm ?_;have hd:Below w.heap.size w { w with drawn:=w.drawn+1 }:=⟨rfl,rfl,rfl,Nat.le_refl _,λ_ _=>rfl⟩;exact Ai S S hB w.heap.size hmono (λ_ h=>h) hsz (hmono _ _ hS hd) h
theorem Ez{P:Program}{id:Nat}{l:List Oper}{Q:Exit->Act->World->Prop}{a:Act}{w:World}(C:World->Prop)(hm:P.follows .mixedOrders=true)(hB:fN l.toArray=true)(hC:C w)
  (hmono:∀W W',C W->Below w.heap.size w W->Below W.heap.size W W'->C W')
  (h:aG P l.toArray (λW=>Below w.heap.size w W/\C W) (λa w=>Q .normal a w) l a (List.range w.heap.size) (λW=>Below w.heap.size w W/\C W)):(Code.region id l.toArray true).wp P Q a w :=
 wp_region_F _ hm hB (λW W' h hb=>⟨h.1.trans (hb.mono h.1.size),hmono W W' h.2 h.1 hb⟩) (λ_ h=>h.1.size) ⟨Below.refl _ _,hC⟩ h
theorem EB{P:Program}{id:Nat}{l:List Oper}{Q:Exit->Act->World->Prop}{a:Act}{w:World}(S R:World->Prop)(hm:P.follows .mixedOrders=true)(hB:fN l.toArray=true)(hSR:S w/\R w)
  (hmono:dh λW=>S W/\R W) (hsz:∀W,S W->w.heap.size<=W.heap.size)
  (h:aG P l.toArray S (λa w=>Q .normal a w) l a (List.range w.heap.size) (λW=>S W/\R W)):(Code.region id l.toArray true).wp P Q a w:=by
 refine wp_region_any hm ?_;have hd:Below w.heap.size w { w with drawn:=w.drawn+1 }:=⟨rfl,rfl,rfl,Nat.le_refl _,λ_ _=>rfl⟩;exact Ai S (λW=>S W/\R W) hB w.heap.size hmono (λ_ h=>h.1) (λW h=>hsz W h.1) (hmono _ _ hSR hd) h
end Go.Proofs.YtghemgdfmldoeaaGreat.K
