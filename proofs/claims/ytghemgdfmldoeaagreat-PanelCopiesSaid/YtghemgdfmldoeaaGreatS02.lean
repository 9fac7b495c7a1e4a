import Derived.OrdersHeld
import Derived.Below
set_option linter.unusedVariables false
set_option linter.unusedSimpArgs false

namespace Go.Proofs.YtghemgdfmldoeaaGreat
open Go.RowKit

section
def FMono(F:World->Prop):Prop:=∀w w',F w->Below w.heap.size w w'->F w'
def fkind(o:Oper):Nat :=
 match o.op with
 | .alloc _=>1
 | .call c=>(match c.callee with | .builtin .append=>3 | .builtin _=>0|_=>2)
 | .box _ _=>2
 | .buildSlice _ _ _=>1
 | .store _ _ _=>3
 | _=>0
def shp(o:Oper)(g:Nat):Value :=
 match o.op with
 | .buildSlice _ n _=>.slice (some ⟨g,0,none⟩) n n
 | _=>.pointer (some ⟨g,0,none⟩)
def givesU(P:Program)(R:Value->World->Prop):Result Next->Prop
 | .ok (.value v) w'=>R v w'
 | .ok .skip w'=>R undef w'
 | .ok (.enter f args) w'=>Calls P f args w' (fun e w''=>∃v,e=.returned v/\R v w'')
 | _=>False
def Gives(P:Program)(o:Oper)(a:Act)(w:World)(R:Value->World->Prop):Prop:=givesU P R ((execOp a.eval o).run P w)
section
variable {P:Program} {ops:Array Oper}
theorem Gives.wp{o:Oper}{a:Act}{w:World}{R:Value->World->Prop}{K:Act->World->Prop}{Q:Exit->Act->World->Prop}
  (h:Gives P o a w R) (hk:∀v w',R v w'->K (a.put o.dst v) w'):o.wp P a w K Q:=by
 unfold Gives at h
 unfold Oper.wp
 generalize (execOp a.eval o).run P w=r at *
 cases r with
 | ok n w' =>
  cases n<;>simp only[givesU] at h<;>simp only[Oper.upon]
  case value u=>exact hk _ _ h
  case skip=>exact hk _ _ h
  case enter f args=>exact h.mono fun e w'' ⟨v,he,hr⟩=>by subst he;exact hk _ _ hr
 | halt x w'=>simp only[givesU] at h
theorem Gives.ex{o:Oper}{a:Act}{w:World}{R:Value->World->Prop}(h:Gives P o a w R):∃v w',R v w':=by
 unfold Gives at h
 generalize (execOp a.eval o).run P w=r at *
 cases r with
 | ok n w' =>
  cases n<;>simp only[givesU] at h
  case value u=>exact⟨_,_,h⟩
  case skip=>exact⟨_,_,h⟩
  case enter f args =>
   obtain⟨e,w'',_,⟨v,_,hr⟩,_⟩:=h []
   exact⟨v,w'',hr⟩
 | halt x w'=>simp only[givesU] at h
theorem Gives.of_same{o:Oper}{a a':Act}{w:World}{R:Value->World->Prop}(h:Gives P o a w R)(he:execOp a'.eval o=execOp a.eval o):Gives P o a' w R:=by
 unfold Gives at *
 rwa [he]
def Keep(B:Nat)(w w':World):Prop:=w.heap.size<=w'.heap.size/\∀k,k<w.heap.size->k≠B->w'.heap[k]? = w.heap[k]?
theorem Keep.obj{B g:Nat}{w w':World}{obj:Obj}(h:Keep B w w')(hg:w.heap[g]? = some obj)(hB:g≠B):w'.heap[g]? = some obj:=by
 rw[h.2 g (Array.getElem?_eq_some_iff.1 hg).1 hB];exact hg
inductive StepF (P:Program) (ops:Array Oper) (S:World->Prop) (C:Act->List Nat->(World->Prop)->Prop) (o:Oper) (a:Act) (own:List Nat) (F:World->Prop):Prop
 | pure (v:Value) (hy:YieldsIf P ops S o v a) (h:C (a.put o.dst v) own F)
 | flo (hk:fkind o=1) (hw:Region.wanted o (yielded ops a.tmps)=true) (obj:Obj)
   (hr:∀w,S w->(execOp a.eval o).run P w=.ok (.value (shp o w.heap.size)) { w with heap:=w.heap.push obj })
   (h:∀g,g∉own->(∃w:World,F w/\w.heap[g]? = some obj)->C (a.put o.dst (shp o g)) (g::own) (fun w=>F w/\w.heap[g]? = some obj))
 | eff (hk:fkind o=2) (hw:Region.wanted o (yielded ops a.tmps)=true) (I:Type) (sh:I->Value) (T:I->World->Prop) (hm:∀t,FMono (T t))
   (hg:∀w,F w->Gives P o a w (fun v w'=>∃t,v=sh t/\Below w.heap.size w w'/\T t w'))
   (h:∀t,(∃w,F w/\T t w)->C (a.put o.dst (sh t)) own (fun w=>F w/\T t w))
 | sto (hk:fkind o=3) (hw:Region.wanted o (yielded ops a.tmps)=true) (I:Type) (sh:I->Value) (T:I->World->Prop) (hm:∀t,FMono (T t)) (hs:∀t w,T t w->S w)
   (hg:∀w,F w->Gives P o a w (fun v w'=>∃t,v=sh t/\w.heap.size<=w'.heap.size/\T t w'))
   (h:∀t,(∃w,T t w/\∀g∈own,g<w.heap.size)->C (a.put o.dst (sh t)) own (fun w=>T t w/\∀g∈own,g<w.heap.size))
 | mu (hk:fkind o=2) (hw:Region.wanted o (yielded ops a.tmps)=true) (B:Nat) (hB:B∈own) (I:Type) (sh:I->Value) (T:I->World->Prop) (hm:∀t,FMono (T t)) (hs:∀t w,T t w->S w)
   (hg:∀w,F w->Gives P o a w (fun v w'=>∃t,v=sh t/\Keep B w w'/\T t w'))
   (h:∀t,(∃w,T t w/\∀g∈own,g<w.heap.size)->C (a.put o.dst (sh t)) own (fun w=>T t w/\∀g∈own,g<w.heap.size))
def WpF(P:Program)(ops:Array Oper)(S:World->Prop)(Q:Act->World->Prop):List Oper->Act->List Nat->(World->Prop)->Prop
 | [],a,_,F=>∀w,F w->Q a w
 | o::l,a,own,F=>StepF P ops S (WpF P ops S Q l) o a own F
structure InvF (S:World->Prop) (own:List Nat) (F:World->Prop):Prop where
 mono:FMono F
 held:∀w,F w->S w
 own:∀w,F w->∀g∈own,g<w.heap.size
 ex:∃w,F w
variable {S:World->Prop} {C C':Act->List Nat->(World->Prop)->Prop} {o k:Oper} {a:Act} {own own':List Nat} {F F':World->Prop} {Q:Act->World->Prop}
theorem below_push(w:World)(obj:Obj):Below w.heap.size w { w with heap:=w.heap.push obj } :=
 ⟨rfl,rfl,rfl,by simp,fun k hk=>by simp[Array.getElem?_push];omega⟩
theorem fmono_obj(g:Nat)(obj:Obj):FMono (fun w=>w.heap[g]? = some obj):=fun w w' h hb=>by
 show w'.heap[g]? = some obj
 rw[hb.block g (Array.getElem?_eq_some_iff.1 h).1];exact h
theorem FMono.and(h:FMono F)(h':FMono F'):FMono (fun w=>F w/\F' w):=fun w w' hh hb=>⟨h _ _ hh.1 hb,h' _ _ hh.2 hb⟩
theorem InvF.flo(h:InvF S own F)(obj:Obj)(g:Nat)(hs:∃w:World,F w/\w.heap[g]? = some obj):InvF S (g::own) (fun w=>F w/\w.heap[g]? = some obj) :=
 ⟨h.mono.and (fmono_obj g obj),fun w hw=>h.held w hw.1,fun w hw x hx=>by
  rcases List.mem_cons.1 hx with rfl|hx
  ·exact (Array.getElem?_eq_some_iff.1 hw.2).1
  ·exact h.own w hw.1 x hx,hs⟩
theorem InvF.eff(h:InvF S own F){T:World->Prop}(hm:FMono T)(hs:∃w,F w/\T w):InvF S own (fun w=>F w/\T w) :=
 ⟨h.mono.and hm,fun w hw=>h.held w hw.1,fun w hw=>h.own w hw.1,hs⟩
theorem InvF.sto{T:World->Prop}(hm:FMono T)(hs:∀w,T w->S w)(hx:∃w,T w/\∀g∈own,g<w.heap.size):InvF S own (fun w=>T w/\∀g∈own,g<w.heap.size) :=
 ⟨fun w w' h hb=>⟨hm _ _ h.1 hb,fun g hg=>Nat.lt_of_lt_of_le (h.2 g hg) hb.size⟩,fun w hw=>hs w hw.1,fun w hw=>hw.2,hx⟩
theorem InvF.flo_some(h:InvF S own F)(obj:Obj):∃g,g∉own/\∃w:World,F w/\w.heap[g]? = some obj:=by
 obtain⟨w,hw⟩:=h.ex
 exact⟨w.heap.size,fun hx=>Nat.lt_irrefl _ (h.own w hw _ hx),{ w with heap:=w.heap.push obj },h.mono _ _ hw (below_push w obj),by simp⟩
theorem InvF.eff_some(h:InvF S own F){I:Type}{sh:I->Value}{T:I->World->Prop}(hg:∀w,F w->Gives P o a w (fun v w'=>∃t,v=sh t/\Below w.heap.size w w'/\T t w')):∃t w,F w/\T t w:=by
 obtain⟨w,hw⟩:=h.ex
 obtain⟨v,w',t,_,hb,ht⟩:=(hg w hw).ex
 exact⟨t,w',h.mono _ _ hw hb,ht⟩
theorem InvF.sto_some(h:InvF S own F){I:Type}{sh:I->Value}{T:I->World->Prop}(hg:∀w,F w->Gives P o a w (fun v w'=>∃t,v=sh t/\w.heap.size<=w'.heap.size/\T t w')):∃t w,T t w/\∀g∈own,g<w.heap.size:=by
 obtain⟨w,hw⟩:=h.ex
 obtain⟨v,w',t,_,hb,ht⟩:=(hg w hw).ex
 exact⟨t,w',ht,fun g hx=>Nat.lt_of_lt_of_le (h.own w hw g hx) hb⟩
theorem InvF.mut_some(h:InvF S own F){B:Nat}{I:Type}{sh:I->Value}{T:I->World->Prop}(hg:∀w,F w->Gives P o a w (fun v w'=>∃t,v=sh t/\Keep B w w'/\T t w')):∃t w,T t w/\∀g∈own,g<w.heap.size:=by
 obtain⟨w,hw⟩:=h.ex
 obtain⟨v,w',t,_,hb,ht⟩:=(hg w hw).ex
 exact⟨t,w',ht,fun g hx=>Nat.lt_of_lt_of_le (h.own w hw g hx) hb.1⟩
theorem StepF.imp(hi:InvF S own F)(hc:∀a own F,InvF S own F->C a own F->C' a own F)(h:StepF P ops S C o a own F):StepF P ops S C' o a own F:=by
 cases h with
 | pure v hy h=>exact .pure v hy (hc _ _ _ hi h)
 | flo hk hw obj hr h=>exact .flo hk hw obj hr fun g hg hs=>hc _ _ _ (hi.flo obj g hs) (h g hg hs)
 | eff hk hw I sh T hm hg h=>exact .eff hk hw I sh T hm hg fun t ht=>hc _ _ _ (hi.eff (hm t) ht) (h t ht)
 | sto hk hw I sh T hm hs hg h=>exact .sto hk hw I sh T hm hs hg fun t hx=>hc _ _ _ (InvF.sto (hm t) (hs t) hx) (h t hx)
 | mu hk hw B hB I sh T hm hs hg h=>exact .mu hk hw B hB I sh T hm hs hg fun t hx=>hc _ _ _ (InvF.sto (hm t) (hs t) hx) (h t hx)
theorem WpF.perm{l:List Oper}:∀ {a:Act} {own own':List Nat} {F:World->Prop},(∀g,g∈own' <-> g∈own)->WpF P ops S Q l a own F->WpF P ops S Q l a own' F:=by
 induction l with
 | nil=>intro a own own' F _ h;exact h
 | cons o l ih =>
  intro a own own' F ho h
  cases h with
  | pure v hy h=>exact .pure v hy (ih ho h)
  | flo hk hw obj hr h=>exact .flo hk hw obj hr fun g hg hs=>ih (fun x=>by simp[ho]) (h g (fun hx=>hg ((ho g).2 hx)) hs)
  | eff hk hw I sh T hm hg h=>exact .eff hk hw I sh T hm hg fun t ht=>ih ho (h t ht)
  | sto hk hw I sh T hm hs hg h =>
   refine .sto hk hw I sh T hm hs hg fun t hx=>?_
   have e:(fun w:World=>T t w/\∀g∈own',g<w.heap.size)=(fun w:World=>T t w/\∀g∈own,g<w.heap.size):=by
    funext w;simp only[ho]
   rw[e] at hx ⊢
   exact ih ho (h t hx)
  | mu hk hw B hB I sh T hm hs hg h =>
   refine .mu hk hw B ((ho B).2 hB) I sh T hm hs hg fun t hx=>?_
   have e:(fun w:World=>T t w/\∀g∈own',g<w.heap.size)=(fun w:World=>T t w/\∀g∈own,g<w.heap.size):=by
    funext w;simp only[ho]
   rw[e] at hx ⊢
   exact ih ho (h t hx)
theorem WpF.weak{l:List Oper}:∀ {a:Act} {own own':List Nat} {F F':World->Prop},(∀w,F w->F' w)->(∀g,g∈own->g∈own')->WpF P ops S Q l a own F'->WpF P ops S Q l a own' F:=by
 induction l with
 | nil=>intro a own own' F F' hF _ h w hw;exact h w (hF w hw)
 | cons o l ih =>
  intro a own own' F F' hF ho h
  cases h with
  | pure v hy h=>exact .pure v hy (ih hF ho h)
  | flo hk hw obj hr h =>
   refine .flo hk hw obj hr fun g hg hs=>ih (fun w h=>⟨hF w h.1,h.2⟩) (fun x hx=>?_) (h g (fun hx=>hg (ho g hx)) (let ⟨w,h1,h2⟩:=hs;⟨w,hF w h1,h2⟩))
   rcases List.mem_cons.1 hx with rfl|hx
   ·exact List.mem_cons_self ..
   ·exact List.mem_cons_of_mem _ (ho x hx)
  | eff hk hw I sh T hm hg h =>
   exact .eff hk hw I sh T hm (fun w hw=>hg w (hF w hw)) fun t ht=>ih (fun w h=>⟨hF w h.1,h.2⟩) ho (h t (let ⟨w,h1,h2⟩:=ht;⟨w,hF w h1,h2⟩))
  | sto hk hw I sh T hm hs hg h =>
   refine .sto hk hw I sh T hm hs (fun w hw=>hg w (hF w hw)) fun t hx=>ih (fun w h=>⟨h.1,fun g hg=>h.2 g (ho g hg)⟩) ho (h t (let ⟨w,h1,h2⟩:=hx;⟨w,h1,fun g hg=>h2 g (ho g hg)⟩))
  | mu hk hw B hB I sh T hm hs hg h =>
   refine .mu hk hw B (ho B hB) I sh T hm hs (fun w hw=>hg w (hF w hw)) fun t hx=>ih (fun w h=>⟨h.1,fun g hg=>h.2 g (ho g hg)⟩) ho (h t (let ⟨w,h1,h2⟩:=hx;⟨w,h1,fun g hg=>h2 g (ho g hg)⟩))
theorem YieldsIf.one{v v':Value}(h:YieldsIf P ops S o v a)(h':YieldsIf P ops S o v' a)(hs:∃w,S w):v=v':=by
 obtain⟨w,hw⟩:=hs
 rcases h with⟨h1,h2⟩|⟨h1,h2⟩<;>rcases h' with⟨k1,k2⟩|⟨k1,k2⟩
 ·have := (h2 w hw).symm.trans (k2 w hw)
  simpa using this
 ·rw[h1] at k1;cases k1
 ·rw[h1] at k1;cases k1
 ·rw[h2,k2]
structure Apart (ops:Array Oper) (k o:Oper):Prop where
 ko:∀d,k.dst=some d->d∉o.looksAt ops
 ok:∀d,o.dst=some d->d∉k.looksAt ops
 kd:∀d,k.dst=some d->o.dst≠some d
 sk:∀cs b,k.op ≠ .select cs b
 so:∀cs b,o.op ≠ .select cs b
theorem Apart.symm(h:Apart ops k o):Apart ops o k:=⟨h.ok,h.ko,fun d hd hk=>h.kd d hk hd,h.so,h.sk⟩
theorem Apart.exec(h:Apart ops k o)(a:Act)(v:Value):execOp (a.put k.dst v).eval o=execOp a.eval o:=execOp_put o h.so a k.dst v h.ko
theorem Apart.want(h:Apart ops k o)(a:Act)(v:Value):Region.wanted o (yielded ops (a.put k.dst v).tmps)=Region.wanted o (yielded ops a.tmps):=wanted_put o a k.dst v h.ko
theorem Apart.yields{v u:Value}(h:Apart ops k o):YieldsIf P ops S o v (a.put k.dst u) <-> YieldsIf P ops S o v a :=
 ⟨fun hy=>hy.of_same (h.exec a u).symm (h.want a u).symm,fun hy=>hy.of_same (h.exec a u) (h.want a u)⟩
theorem Apart.comm(h:Apart ops k o)(a:Act)(v u:Value):(a.put k.dst v).put o.dst u=(a.put o.dst u).put k.dst v:=Act.put_comm a v u h.kd
def Before(k o:Oper):Prop:=fkind o=0\/fkind k=0\/(fkind o=1/\fkind k≠3)
theorem StepF.isPure(h:StepF P ops S C o a own F){u:Value}(hu:YieldsIf P ops S o u a)(hk:fkind o=0\/fkind o=1)(hS:∃w,S w):C (a.put o.dst u) own F:=by
 cases h with
 | pure v hy h=>rw[YieldsIf.one hu hy hS];exact h
 | flo hk' hw obj hr h =>
  obtain⟨w,hs⟩:=hS
  rcases hu with⟨_,hv⟩|⟨hn,_⟩
  ·have e := (hv w hs).symm.trans (hr w hs)
   simp only[Result.ok.injEq] at e
   have:=congrArg (fun x:World=>x.heap.size) e.2
   simp at this
  ·rw[hw] at hn;cases hn
 | eff hk'=>omega
 | sto hk'=>omega
 | mu hk'=>omega
theorem StepF.isFlo(h:StepF P ops S C o a own F){obj:Obj}(hw:Region.wanted o (yielded ops a.tmps)=true)
  (hr:∀w,S w->(execOp a.eval o).run P w=.ok (.value (shp o w.heap.size)) { w with heap:=w.heap.push obj }) (hk:fkind o=0\/fkind o=1) (hS:∃w,S w) :
  ∀g,g∉own->(∃w:World,F w/\w.heap[g]? = some obj)->C (a.put o.dst (shp o g)) (g::own) (fun w=>F w/\w.heap[g]? = some obj):=by
 cases h with
 | pure v hy h =>
  obtain⟨w,hs⟩:=hS
  rcases hy with⟨_,hv⟩|⟨hn,_⟩
  ·have e := (hv w hs).symm.trans (hr w hs)
   simp only[Result.ok.injEq] at e
   have:=congrArg (fun x:World=>x.heap.size) e.2
   simp at this
  ·rw[hw] at hn;cases hn
 | flo hk' hw' obj' hr' h =>
  obtain⟨w,hs⟩:=hS
  have e:=(hr' w hs).symm.trans (hr w hs)
  simp only[Result.ok.injEq] at e
  have e2:=congrArg (fun x:World=>x.heap[w.heap.size]?) e.2
  simp at e2
  subst e2
  exact h
 | eff hk'=>omega
 | sto hk'=>omega
 | mu hk'=>omega
theorem StepF.view(h:StepF P ops S C o a own F)(hk:fkind o=0\/fkind o=1):(∃u,YieldsIf P ops S o u a)\/(fkind o=1/\∃obj,Region.wanted o (yielded ops a.tmps)=true/\∀w,S w->(execOp a.eval o).run P w=.ok (.value (shp o w.heap.size)) { w with heap:=w.heap.push obj }):=by
 cases h with
 | pure v hy h=>exact .inl ⟨v,hy⟩
 | flo hk' hw' obj' hr' h=>exact .inr ⟨hk',obj',hw',hr'⟩
 | eff hk'=>omega
 | sto hk'=>omega
 | mu hk'=>omega
theorem swap(hi:InvF S own F)(ha:Apart ops k o)(hb:Before k o)(hC:∀a own own' F,(∀g,g∈own' <-> g∈own)->C a own F->C a own' F)
  (h:StepF P ops S (fun a1 own1 F1=>StepF P ops S C o a1 own1 F1) k a own F):StepF P ops S (fun a1 own1 F1=>StepF P ops S C k a1 own1 F1) o a own F:=by
 have hS:∃w,S w:=let ⟨w,hw⟩:=hi.ex;⟨w,hi.held w hw⟩
 have put {v u:Value} {own:List Nat} {F:World->Prop} (h:C ((a.put k.dst v).put o.dst u) own F):C ((a.put o.dst u).put k.dst v) own F:=by rw[<- ha.comm];exact h
 have and3 (A B D:World->Prop):(fun w=>(A w/\B w)/\D w)=(fun w=>(A w/\D w)/\B w):=by
  funext w;exact propext ⟨fun ⟨⟨a,b⟩,c⟩=>⟨⟨a,c⟩,b⟩,fun ⟨⟨a,b⟩,c⟩=>⟨⟨a,c⟩,b⟩⟩
 cases h with
 | pure v hy h =>
  cases h with
  | pure u hu h=>exact .pure u (ha.yields.1 hu) (.pure v (ha.symm.yields.2 hy) (put h))
  | flo hk hw obj hr h =>
   refine .flo hk (by rw[<- ha.want a v];exact hw) obj (fun w hw=>by rw[<- ha.exec a v];exact hr w hw) fun g hg hs=>?_
   exact .pure v (ha.symm.yields.2 hy) (put (h g hg hs))
  | eff hk hw I sh T hm hg h =>
   refine .eff hk (by rw[<- ha.want a v];exact hw) I sh T hm (fun w hw=>(hg w hw).of_same (ha.exec a v).symm) fun t ht=>?_
   exact .pure v (ha.symm.yields.2 hy) (put (h t ht))
  | sto hk hw I sh T hm hs hg h =>
   refine .sto hk (by rw[<- ha.want a v];exact hw) I sh T hm hs (fun w hw=>(hg w hw).of_same (ha.exec a v).symm) fun t hx=>?_
   exact .pure v (ha.symm.yields.2 hy) (put (h t hx))
  | mu hk hw B hB I sh T hm hs hg h =>
   refine .mu hk (by rw[<- ha.want a v];exact hw) B hB I sh T hm hs (fun w hw=>(hg w hw).of_same (ha.exec a v).symm) fun t hx=>?_
   exact .pure v (ha.symm.yields.2 hy) (put (h t hx))
 | flo hk hw obj hr h =>
  have hk01:fkind o=0\/fkind o=1:=by rcases hb with hb|hb|hb<;>omega
  obtain⟨g0,hg0,hs0⟩:=hi.flo_some obj
  rcases (h g0 hg0 hs0).view hk01 with⟨u,hu⟩|⟨ho,obj',hw',hr'⟩
  ·have hu' := ha.yields.1 hu
   exact .pure u hu' (.flo hk (by rw[ha.symm.want a u];exact hw) obj (fun w hw=>by rw[ha.symm.exec a u];exact hr w hw) fun g hg hs=>put ((h g hg hs).isPure (ha.yields.2 hu') hk01 hS))
  ·rw [ha.want] at hw'
   simp only[ha.exec] at hr'
   refine .flo ho hw' obj' hr' fun g' hg' hs'=>?_
   refine .flo hk (by rw[ha.symm.want];exact hw) obj (fun w hw=>by rw[ha.symm.exec];exact hr w hw) fun g hg hs=>?_
   have hgg:g≠g':=fun e=>hg (by rw[e];exact List.mem_cons_self ..)
   have hgo:g∉own:=fun e=>hg (List.mem_cons_of_mem _ e)
   obtain⟨w,⟨h1,h2⟩,h3⟩:=hs
   have:=(h g hgo ⟨w,h1,h3⟩).isFlo (by rw[ha.want];exact hw') (fun w hw=>by rw[ha.exec];exact hr' w hw) hk01 hS g' (by simp[hgg.symm,hg']) ⟨w,⟨h1,h3⟩,h2⟩
   rw[and3] at this
   exact hC _ _ _ _ (fun x=>by simp only[List.mem_cons];constructor<;>(rintro (h|h|h)<;>simp[h])) (put this)
 | eff hk hw I sh T hm hg h =>
  have hk01:fkind o=0\/fkind o=1:=by rcases hb with hb|hb|hb<;>omega
  obtain⟨t0,hs0⟩:=hi.eff_some hg
  rcases (h t0 hs0).view hk01 with⟨u,hu⟩|⟨ho,obj',hw',hr'⟩
  ·have hu' := ha.yields.1 hu
   exact .pure u hu' (.eff hk (by rw[ha.symm.want a u];exact hw) I sh T hm (fun w hw=>(hg w hw).of_same (ha.symm.exec a u)) fun t ht=>put ((h t ht).isPure (ha.yields.2 hu') hk01 hS))
  ·rw [ha.want] at hw'
   simp only[ha.exec] at hr'
   refine .flo ho hw' obj' hr' fun g' hg' hs'=>?_
   refine .eff hk (by rw[ha.symm.want];exact hw) I sh T hm (fun w hw=>(hg w hw.1).of_same (ha.symm.exec a _)) fun t ht=>?_
   obtain⟨w,⟨h1,h2⟩,h3⟩:=ht
   have:=(h t ⟨w,h1,h3⟩).isFlo (by rw[ha.want];exact hw') (fun w hw=>by rw[ha.exec];exact hr' w hw) hk01 hS g' hg' ⟨w,⟨h1,h3⟩,h2⟩
   rw[and3] at this
   exact put this
 | sto hk hw I sh T hm hs hg h =>
  have hk0:fkind o=0:=by rcases hb with hb|hb|hb<;>omega
  obtain⟨t0,w0,hx⟩:=hi.sto_some hg
  rcases (h t0 ⟨w0,hx⟩).view (.inl hk0) with⟨u,hu⟩|⟨ho,_⟩
  ·have hu' := ha.yields.1 hu
   exact .pure u hu' (.sto hk (by rw[ha.symm.want a u];exact hw) I sh T hm hs (fun w hw=>(hg w hw).of_same (ha.symm.exec a u)) fun t hx=>put ((h t hx).isPure (ha.yields.2 hu') (.inl hk0) hS))
  ·omega
 | mu hk hw B hB I sh T hm hs hg h =>
  have hk01:fkind o=0\/fkind o=1:=by rcases hb with hb|hb|hb<;>omega
  obtain⟨t0,hs0⟩:=hi.mut_some hg
  rcases (h t0 hs0).view hk01 with⟨u,hu⟩|⟨ho,obj',hw',hr'⟩
  ·have hu' := ha.yields.1 hu
   exact .pure u hu' (.mu hk (by rw[ha.symm.want a u];exact hw) B hB I sh T hm hs (fun w hw=>(hg w hw).of_same (ha.symm.exec a u)) fun t ht=>put ((h t ht).isPure (ha.yields.2 hu') hk01 hS))
  ·rw [ha.want] at hw'
   simp only[ha.exec] at hr'
   refine .flo ho hw' obj' hr' fun g' hg' hs'=>?_
   have hne:g'≠B:=fun e=>hg' (e ▸ hB)
   have eqF (t:I):(fun w=>(T t w/\w.heap[g']? = some obj')/\∀g∈g'::own,g<w.heap.size)=(fun w=>(T t w/\∀g∈own,g<w.heap.size)/\w.heap[g']? = some obj'):=by
    funext w
    refine propext ⟨fun ⟨⟨h1,h2⟩,h3⟩=>⟨⟨h1,fun g hg=>h3 g (List.mem_cons_of_mem _ hg)⟩,h2⟩,fun ⟨⟨h1,h3⟩,h2⟩=>⟨⟨h1,h2⟩,fun g hg=>?_⟩⟩
    rcases List.mem_cons.1 hg with rfl|hg
    ·exact (Array.getElem?_eq_some_iff.1 h2).1
    ·exact h3 g hg
   refine .mu hk (by rw[ha.symm.want];exact hw) B (List.mem_cons_of_mem _ hB) I sh (fun t w=>T t w/\w.heap[g']? = some obj') (fun t=>(hm t).and (fmono_obj g' obj')) (fun t w h=>hs t w h.1) (fun w hw=>?_) fun t hx=>?_
   ·refine Gives.of_same ?_ (ha.symm.exec a _)
    have:=hg w hw.1
    unfold Gives at *
    generalize (execOp a.eval k).run P w=r at *
    cases r with
    | ok n w1 =>
     cases n<;>simp only[givesU] at this ⊢
     ·obtain⟨t,h1,h2,h3⟩:=this;exact⟨t,h1,h2,h3,h2.obj hw.2 hne⟩
     ·obtain⟨t,h1,h2,h3⟩:=this;exact⟨t,h1,h2,h3,h2.obj hw.2 hne⟩
     ·exact this.mono fun e w2 ⟨v,he,t,h1,h2,h3⟩=>⟨v,he,t,h1,h2,h3,h2.obj hw.2 hne⟩
    | halt x w1=>simp only[givesU] at this
   ·obtain ⟨w, h1⟩ := hx
    have h2:(fun w=>(T t w/\w.heap[g']? = some obj')/\∀g∈g'::own,g<w.heap.size) w:=h1
    rw[eqF t] at h2
    have:=(h t ⟨w,h2.1⟩).isFlo (by rw[ha.want];exact hw') (fun w hw=>by rw[ha.exec];exact hr' w hw) hk01 hS g' hg' ⟨w,h2⟩
    rw[eqF t]
    exact put this
theorem pull{pre post:List Oper}(hp:∀k∈pre,Apart ops k o/\Before k o):∀ {a:Act} {own:List Nat} {F:World->Prop},InvF S own F->WpF P ops S Q (pre++o::post) a own F ->
  StepF P ops S (WpF P ops S Q (pre++post)) o a own F:=by
 induction pre with
 | nil=>intro a own F _ h;exact h
 | cons k pre ih =>
  intro a own F hi h
  have h1:StepF P ops S (fun a1 own1 F1=>StepF P ops S (WpF P ops S Q (pre++post)) o a1 own1 F1) k a own F :=
   StepF.imp hi (fun a own F hi h=>ih (fun x hx=>hp x (List.mem_cons_of_mem _ hx)) hi h) h
  have hk:=hp k (List.mem_cons_self ..)
  exact swap hi hk.1 hk.2 (fun a own own' F ho h=>h.perm ho) h1
def depsOf(ops:Array Oper)(i:Nat):List Nat:=match ops[i]? with|some o=>(o.after.toList.filter (Region.binds .any)).map (·.on)|none=>[]
def reach(ops:Array Oper):Nat->Nat->Nat->Bool
 | 0,i,k=>(depsOf ops i).contains k
 | f+1,i,k=>(depsOf ops i).contains k||(depsOf ops i).any fun e=>decide (k<e)&&reach ops f e k
def beforeB(k o:Oper):Bool:=fkind o==0||fkind k==0||(fkind o==1&&fkind k != 3)
def pairB(ops:Array Oper)(i k:Nat):Bool :=
 match ops[i]?,ops[k]? with
 | some o,some x=>reach ops 0 i k||(beforeB x o&&Oper.apart ops x o)||reach ops 20 i k
 | _,_=>false
def floatB(ops:Array Oper):Bool :=
 Region.noSelect ops&&(List.range ops.size).all fun i=>((depsOf ops i).all fun e=>decide (e<i))&&(List.range i).all fun k=>pairB ops i k
def Closed(ops:Array Oper)(listed:Array Bool):Prop:=∀j,listed.getD j false=true->∀e∈depsOf ops j,listed.getD e false=true
theorem reach_listed{listed:Array Bool}(hc:Closed ops listed):∀(f i k:Nat),(∀e∈depsOf ops i,listed.getD e false=true)->reach ops f i k=true->listed.getD k false=true
 | 0,i,k,hi,h=>hi k (by simpa[reach] using h)
 | f+1,i,k,hi,h=>by
  simp only[reach,Bool.or_eq_true,List.any_eq_true,Bool.and_eq_true] at h
  rcases h with h|⟨e,he,_,h⟩
  ·exact hi k (by simpa using h)
  ·exact reach_listed hc f e k (hc e (hi e he)) h
theorem mem_depsOf{i e:Nat}{o:Oper}(ho:ops[i]? = some o):e∈depsOf ops i <-> ∃x∈o.after,Region.binds .any x=true/\x.on=e:=by
 simp[depsOf,ho,and_assoc]
theorem ready_deps{listed:Array Bool}{i:Nat}(h:i∈Region.ready .any ops listed):∀e∈depsOf ops i,listed.getD e false=true:=by
 obtain⟨_,o,ho,hall⟩:=mem_ready.1 h
 intro e he
 obtain⟨x,hx,hb,rfl⟩:=(mem_depsOf ho).1 he
 exact hall x hx hb
structure LeftF (ops:Array Oper) (listed:Array Bool) (zs:List (Nat×Oper)):Prop where
 size:listed.size=ops.size
 here:∀p∈zs,ops[p.1]? = some p.2
 mem:∀i,i<ops.size->(listed.getD i true=false <-> i∈zs.map (·.1))
 sorted:zs.Pairwise (fun p q=>p.1<q.1)
theorem LeftF.take{listed:Array Bool}{pre post:List (Nat×Oper)}{i:Nat}{o:Oper}(h:LeftF ops listed (pre++(i,o)::post)):LeftF ops (listed.setIfInBounds i true) (pre++post):=by
 have hs:=h.sorted
 rw[List.pairwise_append] at hs
 obtain⟨h1,h2,h3⟩:=hs
 rw[List.pairwise_cons] at h2
 have hlt:i<ops.size:=(Array.getElem?_eq_some_iff.1 (h.here (i,o) (by simp))).1
 refine⟨by simp[h.size],fun p hp=>h.here p (by rcases List.mem_append.1 hp with hp|hp<;>simp[hp]),fun j hj=>?_,?_⟩
 ·by_cases hij : i = j
  ·subst hij
   constructor
   ·intro e
    simp[h.size,hlt] at e
   ·intro hm
    obtain⟨p,hp,he⟩:=List.mem_map.1 hm
    rcases List.mem_append.1 hp with hp|hp
    ·have:=h3 p hp (i,o) (List.mem_cons_self ..);simp at this;omega
    ·have:=h2.1 p hp;simp at this;omega
  ·rw [getD_set_ne true hij, h.mem j hj]
   simp only[List.map_append,List.map_cons,List.mem_append,List.mem_cons]
   constructor
   ·rintro (h | h | h)
    ·exact .inl h
    ·exact absurd h.symm hij
    ·exact .inr h
   ·rintro (h | h)
    ·exact .inl h
    ·exact .inr (.inr h)
 ·rw [List.pairwise_append]
  exact⟨h1,h2.2,fun p hp q hq=>h3 p hp q (List.mem_cons_of_mem _ hq)⟩
theorem Closed.set{listed:Array Bool}{i:Nat}(h:Closed ops listed)(hi:i∈Region.ready .any ops listed):Closed ops (listed.setIfInBounds i true):=by
 intro j hj e he
 by_cases hij:i=j
 ·subst hij
  exact getD_set_true (ready_deps hi e he)
 ·rw [getD_set_ne false hij] at hj
  exact getD_set_true (h j hj e he)
theorem wpAny_of_F{Q:Exit->Act->World->Prop}(hB:floatB ops=true):∀(n:Nat) (zs:List (Nat×Oper)) (listed:Array Bool) (a:Act) (own:List Nat) (F:World->Prop) (w:World),zs.length=n->LeftF ops listed zs->Closed ops listed ->
  InvF S own F->F w->WpF P ops S (fun a w=>Q .normal a w) (zs.map (·.2)) a own F->wpAny P .any ops Q n listed a w:=by
 have hB':=hB
 simp only[floatB,Bool.and_eq_true,List.all_eq_true,List.mem_range,decide_eq_true_eq] at hB'
 obtain⟨hsel,hall⟩:=hB'
 intro n
 induction n with
 | zero =>
  intro zs listed a own F w hn hl hc hi hw h
  have:zs=[]:=List.eq_nil_of_length_eq_zero hn
  subst this
  refine⟨?_,h w hw⟩
  rw[List.eq_nil_iff_forall_not_mem]
  intro i hr
  have h1:=mem_ready.1 hr
  obtain⟨hu,o,ho,_⟩:=h1
  have:=(hl.mem i (Array.getElem?_eq_some_iff.1 ho).1).1 hu
  simp at this
 | succ n ih =>
  intro zs listed a own F w hn hl hc hi hw h
  have hget (i:Nat) (hlt:i<ops.size) (hu:¬listed.getD i true=false):listed.getD i false=true:=by
   have hlt':i<listed.size:=by rw[hl.size];exact hlt
   simp[hlt'] at hu ⊢
   exact hu
  refine⟨fun h0=>?_,fun i hr=>?_⟩
  ·exfalso
   obtain⟨⟨i,o⟩,rest,rfl⟩:∃z rest,zs=z::rest:=by
    cases zs with
    | nil=>simp at hn
    | cons z rest=>exact⟨z,rest,rfl⟩
   have ho:=hl.here (i,o) (by simp)
   have hlt:i<ops.size:=(Array.getElem?_eq_some_iff.1 ho).1
   have hr:i∈Region.ready .any ops listed:=by
    refine mem_ready.2 ⟨(hl.mem i hlt).2 (by simp),o,ho,fun e he hb=>?_⟩
    have hd:e.on∈depsOf ops i:=(mem_depsOf ho).2 ⟨e,he,hb,rfl⟩
    have hei:=(hall i hlt).1 _ hd
    refine hget _ (by omega) fun hu=>?_
    have hm:=(hl.mem e.on (by omega)).1 hu
    simp only[List.map_cons,List.mem_cons] at hm
    rcases hm with hm|hm
    ·omega
    ·obtain ⟨p, hp, he'⟩ := List.mem_map.1 hm
     have:=(List.pairwise_cons.1 hl.sorted).1 p hp
     simp at this
     omega
   rw[h0] at hr
   cases hr
  ·obtain ⟨hu, o, ho, _⟩ := mem_ready.1 hr
   have hlt:i<ops.size:=(Array.getElem?_eq_some_iff.1 ho).1
   have hm:=(hl.mem i hlt).1 hu
   obtain⟨⟨i',o'⟩,hp,hei⟩:=List.mem_map.1 hm
   simp only at hei
   subst hei
   have ho':=hl.here _ hp
   simp only at ho'
   rw[ho] at ho'
   simp only[Option.some.injEq] at ho'
   subst ho'
   obtain⟨pre,post,rfl⟩:=List.append_of_mem hp
   have hpre:∀k∈pre.map (·.2),Apart ops k o/\Before k o:=by
    intro k hk
    obtain⟨⟨j,k'⟩,hj,rfl⟩:=List.mem_map.1 hk
    have hji:j<i':=((List.pairwise_append.1 hl.sorted).2.2) _ hj (i',o) (List.mem_cons_self ..)
    have hjk:=hl.here (j,k') (by simp[hj])
    simp only at hjk
    have hju:listed.getD j true=false:=(hl.mem j (by omega)).2 (by simp only[List.map_append,List.mem_append,List.mem_map];exact .inl ⟨_,hj,rfl⟩)
    have hno (f:Nat):reach ops f i' j=false:=by
     cases hx:reach ops f i' j with
     | false=>rfl
     | true =>
      have h1:=reach_listed hc f i' j (ready_deps hr) hx
      have hlt':j<listed.size:=by rw[hl.size];omega
      simp[hlt'] at h1 hju
      rw[h1] at hju
      cases hju
    have hpair:=(hall i' hlt).2 j hji
    simp only[pairB,ho,hjk,hno,Bool.or_false,Bool.false_or,Bool.and_eq_true] at hpair
    obtain⟨hbe,hap⟩:=hpair
    obtain⟨a1,a2,a3⟩:=Oper.apart_spec hap
    refine⟨⟨a1,a3,a2,fun cs b=>Region.noSelect_spec hsel j k' cs b hjk,fun cs b=>Region.noSelect_spec hsel i' o cs b ho⟩,?_⟩
    simp only[beforeB,Bool.or_eq_true,beq_iff_eq,Bool.and_eq_true,bne_iff_ne] at hbe
    rcases hbe with (hbe|hbe)|hbe
    ·exact .inl hbe
    ·exact .inr (.inl hbe)
    ·exact .inr (.inr hbe)
   have hst:=pull (post:=post.map (·.2)) hpre hi (by simpa using h)
   have hlen:(pre++post).length=n:=by simp at hn ⊢;omega
   have next {a':Act} {own':List Nat} {F':World->Prop} {w':World} (hi':InvF S own' F') (hw':F' w') (h':WpF P ops S (fun a w=>Q .normal a w) (pre.map (·.2)++post.map (·.2)) a' own' F'):wpAny P .any ops Q n (listed.setIfInBounds i' true) a' w' :=
    ih (pre++post) _ a' own' F' w' hlen hl.take (hc.set hr) hi' hw' (by simpa using h')
   cases hst with
   | pure v hy h=>exact hy.wpOp ho (hi.held w hw) (next hi hw h)
   | flo hk hwant obj hrun h =>
    unfold wpOp
    simp only[ho,hwant,if_true]
    refine .inl ?_
    unfold Oper.wp
    rw[hrun w (hi.held w hw)]
    have hs:∃w':World,F w'/\w'.heap[w.heap.size]? = some obj:=⟨{ w with heap:=w.heap.push obj },hi.mono _ _ hw (below_push w obj),by simp⟩
    exact next (hi.flo obj _ hs) ⟨hi.mono _ _ hw (below_push w obj),by simp⟩ (h _ (fun hx=>Nat.lt_irrefl _ (hi.own w hw _ hx)) hs)
   | eff hk hwant I sh T hm' hg h =>
    unfold wpOp
    simp only[ho,hwant,if_true]
    refine .inl ((hg w hw).wp ?_)
    rintro v w' ⟨t,rfl,hb,ht⟩
    have hs:∃w,F w/\T t w:=⟨w',hi.mono _ _ hw hb,ht⟩
    exact next (hi.eff (hm' t) hs) ⟨hi.mono _ _ hw hb,ht⟩ (h t hs)
   | sto hk hwant I sh T hm' hs hg h =>
    unfold wpOp
    simp only[ho,hwant,if_true]
    refine .inl ((hg w hw).wp ?_)
    rintro v w' ⟨t,rfl,hb,ht⟩
    have hx:T t w'/\∀g∈own,g<w'.heap.size:=⟨ht,fun g hg=>Nat.lt_of_lt_of_le (hi.own w hw g hg) hb⟩
    exact next (InvF.sto (hm' t) (hs t) ⟨w',hx⟩) hx (h t ⟨w',hx⟩)
   | mu hk hwant B hB I sh T hm' hs hg h =>
    unfold wpOp
    simp only[ho,hwant,if_true]
    refine .inl ((hg w hw).wp ?_)
    rintro v w' ⟨t,rfl,hb,ht⟩
    have hx:T t w'/\∀g∈own,g<w'.heap.size:=⟨ht,fun g hg=>Nat.lt_of_lt_of_le (hi.own w hw g hg) hb.1⟩
    exact next (InvF.sto (hm' t) (hs t) ⟨w',hx⟩) hx (h t ⟨w',hx⟩)
end
theorem wpAny_of_FL{P:Program}{l:List Oper}{Q:Exit->Act->World->Prop}{a:Act}{w:World}(S F:World->Prop)(hB:floatB l.toArray=true)(n:Nat)(hmono:FMono F)(hFS:∀w,F w->S w)(hsz:∀w,F w->n<=w.heap.size)(hw:F w)
  (h:WpF P l.toArray S (fun a w=>Q .normal a w) l a (List.range n) F):wpAny P .any l.toArray Q l.toArray.size (Array.replicate l.toArray.size false) a w:=by
 have hlen:(l.zipIdx.map fun p=>(p.2,p.1)).length=l.toArray.size:=by simp
 refine wpAny_of_F (S:=S) hB _ (l.zipIdx.map fun p=>(p.2,p.1)) _ a (List.range n) F _ hlen ⟨by simp,?_,?_,?_⟩ ?_ ⟨hmono,hFS,fun w hw g hg=>Nat.lt_of_lt_of_le (List.mem_range.1 hg) (hsz w hw),⟨w,hw⟩⟩ hw ?_
 ·intro p hp
  obtain⟨⟨o,i⟩,hx,rfl⟩:=List.mem_map.1 hp
  have:=List.mem_zipIdx' hx
  simp[this.1,this.2]
 ·intro i hi
  have hi':i<l.length:=by simpa using hi
  simp only[List.map_map]
  constructor
  ·intro _
   refine List.mem_map.2 ⟨(l[i],i),?_,rfl⟩
   rw[List.mem_zipIdx_iff_getElem?]
   simp[hi']
  ·intro _
   simp[hi']
 ·rw [List.pairwise_map, List.pairwise_iff_getElem]
  intro i j hi hj hij
  simpa using hij
 ·intro j hj
  rcases Nat.lt_or_ge j l.length with h'|h'<;>simp[h'] at hj
 ·have : (l.zipIdx.map fun p => (p.2, p.1)).map (·.2) = l := by simp [List.map_map, Function.comp_def, List.zipIdx_map_fst]
  rw[this]
  exact h
theorem wp_region_F{P:Program}{id:Nat}{l:List Oper}{Q:Exit->Act->World->Prop}{a:Act}{w:World}(S:World->Prop)(hm:P.follows .mixedOrders=true)(hB:floatB l.toArray=true)(hmono:FMono S)(hsz:∀W,S W->w.heap.size<=W.heap.size)(hS:S w)
  (h:WpF P l.toArray S (fun a w=>Q .normal a w) l a (List.range w.heap.size) S):(Code.region id l.toArray true).wp P Q a w:=by
 refine wp_region_any hm ?_
 have hd:Below w.heap.size w { w with drawn:=w.drawn+1 }:=⟨rfl,rfl,rfl,Nat.le_refl _,fun _ _=>rfl⟩
 exact wpAny_of_FL S S hB w.heap.size hmono (fun _ h=>h) hsz (hmono _ _ hS hd) h
theorem wp_region_FC{P:Program}{id:Nat}{l:List Oper}{Q:Exit->Act->World->Prop}{a:Act}{w:World}(C:World->Prop)(hm:P.follows .mixedOrders=true)(hB:floatB l.toArray=true)(hC:C w)
  (hmono:∀W W',C W->Below w.heap.size w W->Below W.heap.size W W'->C W')
  (h:WpF P l.toArray (fun W=>Below w.heap.size w W/\C W) (fun a w=>Q .normal a w) l a (List.range w.heap.size) (fun W=>Below w.heap.size w W/\C W)):(Code.region id l.toArray true).wp P Q a w :=
 wp_region_F _ hm hB (fun W W' h hb=>⟨h.1.trans (hb.mono h.1.size),hmono W W' h.2 h.1 hb⟩) (fun _ h=>h.1.size) ⟨Below.refl _ _,hC⟩ h
theorem wp_region_G{P:Program}{id:Nat}{l:List Oper}{Q:Exit->Act->World->Prop}{a:Act}{w:World}(S R:World->Prop)(hm:P.follows .mixedOrders=true)(hB:floatB l.toArray=true)(hSR:S w/\R w)
  (hmono:FMono fun W=>S W/\R W) (hsz:∀W,S W->w.heap.size<=W.heap.size)
  (h:WpF P l.toArray S (fun a w=>Q .normal a w) l a (List.range w.heap.size) (fun W=>S W/\R W)):(Code.region id l.toArray true).wp P Q a w:=by
 refine wp_region_any hm ?_
 have hd:Below w.heap.size w { w with drawn:=w.drawn+1 }:=⟨rfl,rfl,rfl,Nat.le_refl _,fun _ _=>rfl⟩
 exact wpAny_of_FL S (fun W=>S W/\R W) hB w.heap.size hmono (fun _ h=>h.1) (fun W h=>hsz W h.1) (hmono _ _ hSR hd) h
end

section
section
variable {P:Program} {ops:Array Oper} {S:World->Prop} {Q:Act->World->Prop} {tail:List Oper}
def WpT(P:Program)(ops:Array Oper)(S:World->Prop)(Q:Act->World->Prop)(tail:List Oper):List Oper->Act->List Nat->(World->Prop)->Prop
 | [],a,own,F=>WpF P ops (fun _=>True) Q tail a own F
 | o::l,a,own,F=>StepF P ops S (WpT P ops S Q tail l) o a own F
theorem WpT.perm{l:List Oper}:∀ {a:Act} {own own':List Nat} {F:World->Prop},(∀g,g∈own' <-> g∈own)->WpT P ops S Q tail l a own F->WpT P ops S Q tail l a own' F:=by
 induction l with
 | nil=>intro a own own' F ho h;exact WpF.perm (Q:=Q) ho h
 | cons o l ih =>
  intro a own own' F ho h
  cases h with
  | pure v hy h=>exact .pure v hy (ih ho h)
  | flo hk hw obj hr h=>exact .flo hk hw obj hr fun g hg hs=>ih (fun x=>by simp[ho]) (h g (fun hx=>hg ((ho g).2 hx)) hs)
  | eff hk hw I sh T hm hg h=>exact .eff hk hw I sh T hm hg fun t ht=>ih ho (h t ht)
  | sto hk hw I sh T hm hs hg h =>
   refine .sto hk hw I sh T hm hs hg fun t hx=>?_
   have e:(fun w:World=>T t w/\∀g∈own',g<w.heap.size)=(fun w:World=>T t w/\∀g∈own,g<w.heap.size):=by
    funext w;simp only[ho]
   rw[e] at hx ⊢
   exact ih ho (h t hx)
  | mu hk hw B hB I sh T hm hs hg h =>
   refine .mu hk hw B ((ho B).2 hB) I sh T hm hs hg fun t hx=>?_
   have e:(fun w:World=>T t w/\∀g∈own',g<w.heap.size)=(fun w:World=>T t w/\∀g∈own,g<w.heap.size):=by
    funext w;simp only[ho]
   rw[e] at hx ⊢
   exact ih ho (h t hx)
theorem pullT{o:Oper}{pre post:List Oper}(hp:∀k∈pre,Apart ops k o/\Before k o):∀ {a:Act} {own:List Nat} {F:World->Prop},InvF S own F->WpT P ops S Q tail (pre++o::post) a own F ->
  StepF P ops S (WpT P ops S Q tail (pre++post)) o a own F:=by
 induction pre with
 | nil=>intro a own F _ h;exact h
 | cons k pre ih =>
  intro a own F hi h
  have h1:StepF P ops S (fun a1 own1 F1=>StepF P ops S (WpT P ops S Q tail (pre++post)) o a1 own1 F1) k a own F :=
   StepF.imp hi (fun a own F hi h=>ih (fun x hx=>hp x (List.mem_cons_of_mem _ hx)) hi h) h
  have hk:=hp k (List.mem_cons_self ..)
  exact swap hi hk.1 hk.2 (fun a own own' F ho h=>WpT.perm ho h) h1
def tailB(ops:Array Oper)(n:Nat):Bool:=(List.range ops.size).all fun i=>decide (i<n)||(List.range n).all fun k=>reach ops 0 i k||reach ops 20 i k
theorem wpAny_of_T{Q:Exit->Act->World->Prop}(hB:floatB ops=true)(N:Nat)(hT:tailB ops N=true)(zt:List (Nat×Oper))(ht:∀p∈zt,N<=p.1):∀(n:Nat) (zs:List (Nat×Oper)) (listed:Array Bool) (a:Act) (own:List Nat) (F:World->Prop) (w:World),zs.length=n->(∀p∈zs,p.1<N)->LeftF ops listed (zs++zt)->Closed ops listed ->
  InvF S own F->F w->WpT P ops S (fun a w=>Q .normal a w) (zt.map (·.2)) (zs.map (·.2)) a own F->wpAny P .any ops Q (n+zt.length) listed a w:=by
 have hB':=hB
 simp only[floatB,Bool.and_eq_true,List.all_eq_true,List.mem_range,decide_eq_true_eq] at hB'
 obtain⟨hsel,hall⟩:=hB'
 have hT':=hT
 simp only[tailB,List.all_eq_true,List.mem_range,Bool.or_eq_true,decide_eq_true_eq] at hT'
 intro n
 induction n with
 | zero =>
  intro zs listed a own F w hn hz hl hc hi hw h
  have:zs=[]:=List.eq_nil_of_length_eq_zero hn
  subst this
  rw[Nat.zero_add]
  exact wpAny_of_F (S:=fun _=>True) hB zt.length zt listed a own F w rfl (by simpa using hl) hc ⟨hi.mono,fun _ _=>trivial,hi.own,hi.ex⟩ hw h
 | succ n ih =>
  intro zs listed a own F w hn hz hl hc hi hw h
  have hget (i:Nat) (hlt:i<ops.size) (hu:¬listed.getD i true=false):listed.getD i false=true:=by
   have hlt':i<listed.size:=by rw[hl.size];exact hlt
   simp[hlt'] at hu ⊢
   exact hu
  rw[show n+1+zt.length=n+zt.length+1 by omega]
  obtain⟨⟨i0,o0⟩,rest,hzs⟩:∃z rest,zs=z::rest:=by
   cases zs with
   | nil=>simp at hn
   | cons z rest=>exact⟨z,rest,rfl⟩
  have h0un:listed.getD i0 true=false:=by
   have ho:=hl.here (i0,o0) (by simp[hzs])
   exact (hl.mem i0 (Array.getElem?_eq_some_iff.1 ho).1).2 (by simp[hzs])
  have h0N:i0<N:=hz (i0,o0) (by simp[hzs])
  refine⟨fun h0=>?_,fun i hr=>?_⟩
  ·exfalso
   have ho:=hl.here (i0,o0) (by simp[hzs])
   have hlt:i0<ops.size:=(Array.getElem?_eq_some_iff.1 ho).1
   have hr:i0∈Region.ready .any ops listed:=by
    refine mem_ready.2 ⟨h0un,o0,ho,fun e he hb=>?_⟩
    have hd:e.on∈depsOf ops i0:=(mem_depsOf ho).2 ⟨e,he,hb,rfl⟩
    have hei:=(hall i0 hlt).1 _ hd
    refine hget _ (by omega) fun hu=>?_
    have hm:=(hl.mem e.on (by omega)).1 hu
    have hs:=hl.sorted
    rw[hzs] at hm hs
    simp only[List.cons_append,List.map_cons,List.mem_cons] at hm hs
    rcases hm with hm|hm
    ·omega
    ·obtain ⟨p, hp, he'⟩ := List.mem_map.1 hm
     have:=(List.pairwise_cons.1 hs).1 p hp
     simp at this
     omega
   rw[h0] at hr
   cases hr
  ·obtain ⟨hu, o, ho, _⟩ := mem_ready.1 hr
   have hlt:i<ops.size:=(Array.getElem?_eq_some_iff.1 ho).1
   have hno (j:Nat) (hju:listed.getD j true=false) (hj:j<ops.size) (f:Nat):reach ops f i j=false:=by
    cases hx:reach ops f i j with
    | false=>rfl
    | true =>
     have h1:=reach_listed hc f i j (ready_deps hr) hx
     have hlt':j<listed.size:=by rw[hl.size];omega
     simp[hlt'] at h1 hju
     rw[h1] at hju
     cases hju
   have hiN:i<N:=by
    rcases Nat.lt_or_ge i N with h|h
    ·exact h
    ·exfalso
     have h0s:i0<ops.size:=by
      have ho:=hl.here (i0,o0) (by simp[hzs])
      exact (Array.getElem?_eq_some_iff.1 ho).1
     rcases hT' i hlt with g|g
     ·omega
     ·have := g i0 h0N
      rw[hno i0 h0un h0s 0,hno i0 h0un h0s 20] at this
      simp at this
   have hm:=(hl.mem i hlt).1 hu
   obtain⟨⟨i',o'⟩,hp,hei⟩:=List.mem_map.1 hm
   simp only at hei
   subst hei
   have ho':=hl.here _ hp
   simp only at ho'
   rw[ho] at ho'
   simp only[Option.some.injEq] at ho'
   subst ho'
   have hp':(i',o)∈zs:=by
    rcases List.mem_append.1 hp with h|h
    ·exact h
    ·have:=ht _ h;simp at this;omega
   obtain⟨pre,post,rfl⟩:=List.append_of_mem hp'
   have hl':LeftF ops listed (pre++(i',o)::(post++zt)):=by simpa using hl
   have hpre:∀k∈pre.map (·.2),Apart ops k o/\Before k o:=by
    intro k hk
    obtain⟨⟨j,k'⟩,hj,rfl⟩:=List.mem_map.1 hk
    have hji:j<i':=((List.pairwise_append.1 hl'.sorted).2.2) _ hj (i',o) (List.mem_cons_self ..)
    have hjk:=hl'.here (j,k') (by simp[hj])
    simp only at hjk
    have hju:listed.getD j true=false:=(hl'.mem j (by omega)).2 (by simp only[List.map_append,List.mem_append,List.mem_map];exact .inl ⟨_,hj,rfl⟩)
    have hpair:=(hall i' hlt).2 j hji
    simp only[pairB,ho,hjk,hno j hju (by omega),Bool.or_false,Bool.false_or,Bool.and_eq_true] at hpair
    obtain⟨hbe,hap⟩:=hpair
    obtain⟨a1,a2,a3⟩:=Oper.apart_spec hap
    refine⟨⟨a1,a3,a2,fun cs b=>Region.noSelect_spec hsel j k' cs b hjk,fun cs b=>Region.noSelect_spec hsel i' o cs b ho⟩,?_⟩
    simp only[beforeB,Bool.or_eq_true,beq_iff_eq,Bool.and_eq_true,bne_iff_ne] at hbe
    rcases hbe with (hbe|hbe)|hbe
    ·exact .inl hbe
    ·exact .inr (.inl hbe)
    ·exact .inr (.inr hbe)
   have hst:=pullT (post:=post.map (·.2)) hpre hi (by simpa using h)
   have hlen:(pre++post).length=n:=by simp at hn ⊢;omega
   have next {a':Act} {own':List Nat} {F':World->Prop} {w':World} (hi':InvF S own' F') (hw':F' w') (h':WpT P ops S (fun a w=>Q .normal a w) (zt.map (·.2)) (pre.map (·.2)++post.map (·.2)) a' own' F'):wpAny P .any ops Q (n+zt.length) (listed.setIfInBounds i' true) a' w' :=
    ih (pre++post) _ a' own' F' w' hlen (fun p hp=>hz p (by rcases List.mem_append.1 hp with hp|hp<;>simp[hp])) (by have:=hl'.take;simpa using this) (hc.set hr) hi' hw' (by simpa using h')
   cases hst with
   | pure v hy h=>exact hy.wpOp ho (hi.held w hw) (next hi hw h)
   | flo hk hwant obj hrun h =>
    unfold wpOp
    simp only[ho,hwant,if_true]
    refine .inl ?_
    unfold Oper.wp
    rw[hrun w (hi.held w hw)]
    have hs:∃w':World,F w'/\w'.heap[w.heap.size]? = some obj:=⟨{ w with heap:=w.heap.push obj },hi.mono _ _ hw (below_push w obj),by simp⟩
    exact next (hi.flo obj _ hs) ⟨hi.mono _ _ hw (below_push w obj),by simp⟩ (h _ (fun hx=>Nat.lt_irrefl _ (hi.own w hw _ hx)) hs)
   | eff hk hwant I sh T hm' hg h =>
    unfold wpOp
    simp only[ho,hwant,if_true]
    refine .inl ((hg w hw).wp ?_)
    rintro v w' ⟨t,rfl,hb,ht⟩
    have hs:∃w,F w/\T t w:=⟨w',hi.mono _ _ hw hb,ht⟩
    exact next (hi.eff (hm' t) hs) ⟨hi.mono _ _ hw hb,ht⟩ (h t hs)
   | sto hk hwant I sh T hm' hs hg h =>
    unfold wpOp
    simp only[ho,hwant,if_true]
    refine .inl ((hg w hw).wp ?_)
    rintro v w' ⟨t,rfl,hb,ht⟩
    have hx:T t w'/\∀g∈own,g<w'.heap.size:=⟨ht,fun g hg=>Nat.lt_of_lt_of_le (hi.own w hw g hg) hb⟩
    exact next (InvF.sto (hm' t) (hs t) ⟨w',hx⟩) hx (h t ⟨w',hx⟩)
   | mu hk hwant B hB I sh T hm' hs hg h =>
    unfold wpOp
    simp only[ho,hwant,if_true]
    refine .inl ((hg w hw).wp ?_)
    rintro v w' ⟨t,rfl,hb,ht⟩
    have hx:T t w'/\∀g∈own,g<w'.heap.size:=⟨ht,fun g hg=>Nat.lt_of_lt_of_le (hi.own w hw g hg) hb.1⟩
    exact next (InvF.sto (hm' t) (hs t) ⟨w',hx⟩) hx (h t ⟨w',hx⟩)
end
theorem wp_region_TG{P:Program}{id:Nat}{l:List Oper}{Q:Exit->Act->World->Prop}{a:Act}{w:World}(N:Nat)(S R:World->Prop)(hm:P.follows .mixedOrders=true)(hB:floatB l.toArray=true)(hT:tailB l.toArray N=true)(hS:S w/\R w)
  (hmono:FMono fun W=>S W/\R W) (hsz:∀W,S W->w.heap.size<=W.heap.size)
  (h:WpT P l.toArray S (fun a w=>Q .normal a w) (l.drop N) (l.take N) a (List.range w.heap.size) (fun W=>S W/\R W)):(Code.region id l.toArray true).wp P Q a w:=by
 refine wp_region_any hm ?_
 have hd:Below w.heap.size w { w with drawn:=w.drawn+1 }:=⟨rfl,rfl,rfl,Nat.le_refl _,fun _ _=>rfl⟩
 have hSd:=hmono _ _ hS hd
 let zs:=l.zipIdx.map fun p=>(p.2,p.1)
 have hz:zs=zs.take N++zs.drop N:=(List.take_append_drop N zs).symm
 have hidx:∀(i:Nat) (h:i<zs.length),(zs[i]).1=i:=by
  intro i h
  simp[zs]
 have hlen:(zs.take N).length+(zs.drop N).length=l.toArray.size:=by
  rw[<- List.length_append,List.take_append_drop]
  simp[zs]
 have hmap:zs.map (·.2)=l:=by simp[zs,List.map_map,Function.comp_def,List.zipIdx_map_fst]
 rw[<- hlen]
 refine wpAny_of_T (S:=S) hB N hT (zs.drop N) ?_ (zs.take N).length (zs.take N) _ a (List.range w.heap.size) (fun W=>S W/\R W) _ rfl ?_ ?_ ?_ ⟨hmono,fun _ h=>h.1,fun w hw g hg=>Nat.lt_of_lt_of_le (List.mem_range.1 hg) (hsz w hw.1),⟨_,hSd⟩⟩ hSd ?_
 ·intro p hp
  obtain⟨i,hi,rfl⟩:=List.mem_iff_getElem.1 hp
  rw[List.getElem_drop,hidx]
  omega
 ·intro p hp
  obtain⟨i,hi,rfl⟩:=List.mem_iff_getElem.1 hp
  rw[List.getElem_take,hidx]
  simp at hi
  omega
 ·rw [List.take_append_drop, hlen]
  refine⟨by simp,?_,?_,?_⟩
  ·intro p hp
   obtain⟨⟨o,i⟩,hx,rfl⟩:=List.mem_map.1 hp
   have:=List.mem_zipIdx' hx
   simp[this.1,this.2]
  ·intro i hi
   have hi':i<l.length:=by simpa using hi
   simp only[zs,List.map_map]
   constructor
   ·intro _
    refine List.mem_map.2 ⟨(l[i],i),?_,rfl⟩
    rw[List.mem_zipIdx_iff_getElem?]
    simp[hi']
   ·intro _
    simp[hi']
  ·rw [List.pairwise_map, List.pairwise_iff_getElem]
   intro i j hi hj hij
   simpa using hij
 ·intro j hj
  rw[hlen] at hj
  rcases Nat.lt_or_ge j l.length with h'|h'<;>simp[h'] at hj
 ·rw [List.map_drop, List.map_take, hmap]
  exact h
theorem wp_region_T{P:Program}{id:Nat}{l:List Oper}{Q:Exit->Act->World->Prop}{a:Act}{w:World}(N:Nat)(S:World->Prop)(hm:P.follows .mixedOrders=true)(hB:floatB l.toArray=true)(hT:tailB l.toArray N=true)(hS:S w)
  (hmono:FMono S) (hsz:∀W,S W->w.heap.size<=W.heap.size)
  (h:WpT P l.toArray S (fun a w=>Q .normal a w) (l.drop N) (l.take N) a (List.range w.heap.size) S):(Code.region id l.toArray true).wp P Q a w :=
 have e:(fun W=>S W/\True)=S:=by funext W;simp
 wp_region_TG N S (fun _=>True) hm hB hT ⟨hS,trivial⟩ (by rw[e];exact hmono) hsz (by rw[e];exact h)
end
end Go.Proofs.YtghemgdfmldoeaaGreat
