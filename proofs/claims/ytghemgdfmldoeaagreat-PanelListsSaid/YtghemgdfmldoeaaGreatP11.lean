import Derived.Test.YtghemgdfmldoeaaGreatP10
set_option linter.unusedVariables false
set_option linter.unusedSimpArgs false
namespace Go.Proofs.YtghemgdfmldoeaaGreat
open Go.RowKit
section
section
variable {P:Program} {V:World} {E:Env} {call:gw} {ops:Array Oper} {qk:Oper->Bool}
theorem J.put{r:Nat->Nat}{cm:Nat->List Value}{s:St}{a:Act}{w:World}{d:Option Nat}{v:AV}{x:Value}(h1:RM V r cm s.m w)(h2:RT V w r s.m.length s.t a)(hd:a.defers=[])(hv:bT V w r s.m.length v x):J V r cm (put s d v) (a.put d x) w:=by
 refine⟨⟨by rw[fg];exact h1,?_⟩,by rw[fg];exact h2.put hv⟩;cases d<;>exact hd
theorem J.gd{r:Nat->Nat}{cm:Nat->List Value}{s s1:St}{a:Act}{w:World}{o:Oper}{q q':List Bool}{d:Bool}{ps:List Prop}(h:qt ops o s q=some (d,s1,ps,q'))(hp:aw ps)(hJ:J V r cm s a w):J V r cm s1 a w/\Region.wanted o (yielded ops a.tmps)=d:=by
 obtain⟨h1,h2⟩:=Hk (r:=r) (k:=s.m.length) (a:=a) h hp;obtain⟨h3,h4⟩:=h2 w hJ.2;exact⟨⟨by rw[h1];exact hJ.1,by rw[h1];exact h3⟩,h4⟩
theorem mG{s s1:St}{o:Oper}{q q':List Bool}{d:Bool}{ps:List Prop}(h:qt ops o s q=some (d,s1,ps,q')):s1.m=s.m:=by
 unfold qt at h;split at h
 ·cases h;rfl
 ·split at h
  ·cases h
  ·split at h
   ·cases h;rfl
   ·cases h;rfl
   ·split at h <;> cases h;rfl
   ·cases h
theorem Fg(hs:iP P E call){Q:Exit->Act->World->Prop}:∀ {l:List Oper} {s s':St} {q q':List Bool} {ob:Ob} {a:Act} {w:World} {r:Nat->Nat} {cm:Nat->List Value},ct P E call ops qk l s q=some (s',ob,q')->aw ob.ps->J V r cm s a w ->
  (∀a' W r' cm',Ag s.m r cm s'.m r' cm'->J V r' cm' s' a' W->Q .normal a' W)->wpList P ops Q l a w
 | [],s,s',q,q',ob,a,w,r,cm,h,_,hJ,hQ=>by
  unfold ct at h;cases h;exact hQ _ _ _ _ .rfl hJ
 | o::l,s,s',q,q',ob,a,w,r,cm,h,hp,hJ,hQ=>by
  unfold ct at h;unfold wpList;split at h
  ·cases h
  ·rename_i sg ps q1 hg;split at h
   ·cases h
   cases hl:ct P E call ops qk l (put sg o.dst .und) q1 with
   | none=>simp[hl] at h
   | some z =>
    obtain⟨s2,ob2,q2⟩:=z;simp only[hl,Option.map_some,Option.some.injEq,Prod.mk.injEq] at h;obtain⟨rfl,rfl,rfl⟩:=h;obtain⟨p1,p2⟩:=aw.app hp;obtain⟨hJ,hw⟩:=hJ.gd hg p1;rw[if_neg (by rw[hw];decide)];exact Fg hs hl p2 (J.put hJ.1.1 hJ.2 hJ.1.2 rfl) λa' W r' cm' hA=>hQ a' W r' cm' (by rw[fg,mG hg] at hA;exact hA)
  ·rename_i sg ps q1 hg;split at h
   ·cases h
   ·rename_i v s1 ob1 q2 hd;cases hl:ct P E call ops qk l (put s1 o.dst v) q2 with
    | none=>simp[hl] at h
    | some z =>
     obtain⟨s2,ob2,q3⟩:=z;simp only[hl,Option.map_some,Option.some.injEq,Prod.mk.injEq] at h;obtain⟨rfl,rfl,rfl⟩:=h;obtain⟨p1,p2⟩:=aw.app hp;obtain⟨p3,p4⟩:=aw.app p1;obtain⟨hJ,hw⟩:=hJ.gd hg p3;rw[if_pos hw];refine .inl ((Fb hs hJ hd p4).wp ?_);rintro x w' ⟨r',cm',hA1,⟨h1,h2⟩,h3⟩;exact Fg hs hl p2 (J.put h1 h2 hJ.1.2 h3) λa' W r' cm' hA=>hQ a' W r' cm' (by rw[fg] at hA;rw[mG hg] at hA1;exact hA1.trans hA)
def S0(V:World)(n0:Nat)(r0:Nat->Nat)(cm0:Nat->List Value)(m0:List (Option Mb))(X:List Nat):World->Prop:=λW=>(ac V W/\n0<=W.heap.size)/\∀b m,mb m0 b=some m->b∉X->W.heap[r0 b]? = some (.cells (cm0 b).toArray m.T)
structure Cond (V:World) (al:Bool) (r0:Nat->Nat) (cm0:Nat->List Value) (m0:List (Option Mb)) (X:List Nat) (own:List Nat) (r:Nat->Nat) (cm:Nat->List Value) (m:List (Option Mb)):Prop where
 len:m0.length<=m.length
 ro:∀b,b<m0.length->r b=r0 b
 same:∀b x,mb m0 b=some x->b∉X->cm b=cm0 b/\mb m b=some x
 mo:al=true->∀b,b<m.length->r b∈own
 vo:∀g,g<V.heap.size->g∈own
 ln:∀b,b<m0.length->(cm b).length=(cm0 b).length
variable {n0:Nat} {r0:Nat->Nat} {cm0:Nat->List Value} {m0:List (Option Mb)} {X:List Nat} {al:Bool}
theorem Cond.s0{own:List Nat}{r:Nat->Nat}{cm:Nat->List Value}{s:St}{a:Act}{W:World}(h:Cond V al r0 cm0 m0 X own r cm s.m)(hJ:J V r cm s a W)(hn:n0<=W.heap.size):S0 V n0 r0 cm0 m0 X W:=by
 refine⟨⟨hJ.1.1.ext,hn⟩,λb m hb hX=>?_⟩;obtain⟨h1,h2⟩:=h.same b m hb hX;rw[<- h.ro b (cZ hb),<- h1];exact (hJ.1.1.blk b m h2).1
theorem Cond.new{own:List Nat}{r:Nat->Nat}{cm:Nat->List Value}{m:List (Option Mb)}{g:Nat}{c:List Value}{x:Mb}(hc:Cond V al r0 cm0 m0 X own r cm m):Cond V al r0 cm0 m0 X (g::own) (up r m.length g) (cz cm m.length c) (m++[some x]):=by
 refine⟨by rw[List.length_append];exact Nat.le_trans hc.len (Nat.le_add_right _ _),λb hb=>?_,λb y hb hX=>?_,λha b hb=>?_,λg' hg'=>List.mem_cons_of_mem _ (hc.vo g' hg'),λb hb=>by rw[Ae (Nat.lt_of_lt_of_le hb hc.len)];exact hc.ln b hb⟩
 ·rw[ge (Nat.lt_of_lt_of_le hb hc.len)];exact hc.ro b hb
 ·obtain ⟨k1, k2⟩ := hc.same b y hb hX;have hlt:=cZ k2;refine⟨?_,?_⟩
  ·unfold cz;rw[if_neg (by omega)];exact k1
  ·rw[cf,List.getElem?_append_left hlt];exact cf.1 k2
 ·rw [List.length_append] at hb;rcases Nat.lt_or_ge b m.length with h|h
  ·rw[ge h];exact List.mem_cons_of_mem _ (hc.mo ha b h)
  ·rw[show b=m.length by simp at hb;omega,lk];exact List.mem_cons_self ..
theorem Cond.cons{own:List Nat}{r:Nat->Nat}{cm:Nat->List Value}{m:List (Option Mb)}(g:Nat)(hc:Cond V al r0 cm0 m0 X own r cm m):Cond V al r0 cm0 m0 X (g::own) r cm m:=⟨hc.len,hc.ro,hc.same,λha b hb=>List.mem_cons_of_mem _ (hc.mo ha b hb),λg' hg'=>List.mem_cons_of_mem _ (hc.vo g' hg'),hc.ln⟩
theorem Cond.weak{al':Bool}{own:List Nat}{r:Nat->Nat}{cm:Nat->List Value}{m:List (Option Mb)}(hc:Cond V al r0 cm0 m0 X own r cm m)(h:al'=true->al=true):Cond V al' r0 cm0 m0 X own r cm m:=⟨hc.len,hc.ro,hc.same,λh2=>hc.mo (h h2),hc.vo,hc.ln⟩
def dN(s:St):Bool:=decide (s.al≠2)
theorem eJ{s:St}{d:Option Nat}{v:AV}:(put s d v).al=s.al:=by cases d<;>rfl
theorem vF{s s1:St}{o:Oper}{q q':List Bool}{d:Bool}{ps:List Prop}(h:qt ops o s q=some (d,s1,ps,q')):s1.al=s.al:=by
 unfold qt at h;split at h
 ·cases h;rfl
 ·split at h
  ·cases h
  ·split at h
   ·cases h;rfl
   ·cases h;rfl
   ·split at h <;> cases h;rfl
   ·cases h
theorem uo{n:Nat}(h:n≠0):kX n=2:=by unfold kX;rw[if_neg h]
theorem Um{v:Value}{i:It}(h:tc v=some i):i.fr=false:=by
 unfold tc at h;split at h
 ·cases h;rfl
 ·split at h
  ·split at h <;> cases h;rfl
  ·split at h <;> cases h;rfl
 ·split at h <;> cases h;rfl
theorem Eo:∀ {l:List Value} {is:List It},mV l=some is->fD is=true
 | [],_,h=>by cases h;rfl|v::l,is,h=>by
  unfold mV at h;split at h<;>cases h;unfold fD;rw[List.all_cons,Um (by assumption)];exact Eo (by assumption)
theorem a7p{P:Program}{t:TypeId}{z:List It}(h:oh P t=some z):fD z=true:=by
 obtain⟨_,_,_,_,h3⟩:=uU h;exact Eo h3
theorem OA{s:St}{x:Operand}{v:V1}(hs:qI s=true)(h:evV s x=some v):fD v.l=true:=by
 unfold evV at h;cases hq:evA s x with
 | none=>rw[hq] at h;cases h
 | some u =>
  rw[hq] at h;simp only[Option.bind_some] at h;cases u with
  | one w =>
   cases h;cases x with
   | tmp t=>exact yY hs t _ hq
   | const c =>
    unfold evA at hq;simp only at hq;split at hq
    ·rename_i cs;cases hz:mV cs.toList with
     | none=>rw[hz] at hq;cases hq
     | some l=>rw[hz] at hq;cases hq;exact Eo hz
    ·cases hq
    ·cases hz : tc c with
     | none=>rw[hz] at hq;cases hq
     | some l =>
      rw[hz] at hq;cases hq;unfold fD;rw[List.all_cons,Um hz];rfl
   | global g=>cases hq
   | func f=>cases hq;rfl
  | _=>cases h
theorem F7:∀ {l:List It} {n:Nat} {a b:List It},bE l n=some (a,b)->fD l=true->fD a=true/\fD b=true
 | [],0,_,_,h,_=>by unfold bE at h;cases h;exact⟨rfl,rfl⟩|[],n+1,_,_,h,_=>by unfold bE at h;cases h|i::l,0,_,_,h,e=>by unfold bE at h;cases h;exact⟨rfl,e⟩|i::l,n+1,a,b,h,e=>by
  unfold bE at h;unfold fD at e;rw[List.all_cons,Bool.and_eq_true] at e;split at h
  ·split at h
   ·rename_i x y hc;cases h;obtain⟨k1,k2⟩:=F7 hc e.2;exact⟨by unfold fD at k1 ⊢;rw[List.all_cons,e.1,k1];rfl,k2⟩
   ·cases h
  ·cases h
theorem OU{pl:Nat->Option (Nat×Nat)}:∀ {l:List (Nat×V1)} {c c':List It},fills pl c l=some c'->fD c=true->(∀x∈l,fD x.2.l=true)->fD c'=true
 | [],c,c',h,hc,_=>by unfold fills at h;cases h;exact hc|(f,v)::l,c,c',h,hc,hl=>by
  unfold fills at h;split at h
  ·rename_i o n _;split at h
   ·rename_i c1 hp;split at h
    ·refine OU h ?_ λx hx => hl x (List.mem_cons_of_mem _ hx)
     unfold uC at hp;cases h1:bE c o with|none=>simp[h1] at hp|some q =>
      obtain⟨a,b⟩:=q;cases h2:bE b n with|none=>simp[h1,h2] at hp|some q =>
       obtain⟨d,e⟩:=q;simp only[h1,h2,Option.bind_some,Option.map_some,Option.some.injEq] at hp;subst hp;obtain⟨k1,k2⟩:=F7 h1 hc;obtain⟨_,k4⟩:=F7 h2 k2;have k5:=hl (f,v) (List.mem_cons_self ..);unfold fD at *;rw[List.all_append,List.all_append,k1,k4,k5];rfl
    ·cases h
   ·cases h
  ·cases h
theorem Oz{s:St}(hs:qI s=true):∀ {ps:List (Nat×Operand)} {l:List (Nat×V1)},evPs s ps=some l->∀x∈l,fD x.2.l=true
 | [],_,h,x,hx=>by cases h;cases hx|(f,o)::ps,l,h,x,hx=>by
  unfold evPs at h;split at h<;>cases h;rename_i h1 h2;rcases List.mem_cons.1 hx with rfl|hx
  ·exact OA hs h1
  ·exact Oz hs h2 x hx
theorem RU{zs:List It}(h:fD zs=true):∀n:Nat,fD (List.replicate n zs).flatten=true
 | 0=>rfl|n+1=>by
  rw[List.replicate_succ,List.flatten_cons];have:=RU h n;unfold fD at *;rw[List.all_append,h,this];rfl
theorem jy(hs:iP P E call){C:List Oper->Act->List Nat->(World->Prop)->Prop}(hC2:∀o l a own F,qk o=false->aW P ops (S0 V n0 r0 cm0 m0 X) (C l) o a own F->C (o::l) a own F)
  (hC3:∀o l a own F v,qk o=true->av o=0/\(Region.wanted o (yielded ops a.tmps)=true->(∀w,F w->(execOp a.eval o).run P w=.ok (.value v) w)->C l (a.put o.dst v) own F->C (o::l) a own F)):∀ {l:List Oper} {s s':St} {q q':List Bool} {ob:Ob} {a:Act} {own:List Nat} {F:World->Prop} {r:Nat->Nat} {cm:Nat->List Value},ct P E call ops qk l s q=some (s',ob,q')->aw ob.ps ->
  s.al≠0->(∀b∈ob.st,b∈X)->(∀b∈ob.ld,(mb m0 b).isSome=true/\b∉X)->Cond V (dN s) r0 cm0 m0 X own r cm s.m->(∃W,F W)->(∀W,F W->J V r cm s a W/\n0<=W.heap.size) ->
  (∀a' own' F' r' cm',Ag m0 r0 cm0 s'.m r' cm'->(∃W,F' W)->(∀W,F' W->J V r' cm' s' a' W)->C [] a' own' F')->C l a own F
 | [],s,s',q,q',ob,a,own,F,r,cm,h,_,_,_,_,hc,hex,hF,hQ=>by
  unfold ct at h;cases h;exact hQ _ _ _ _ _ ⟨hc.len,λb hb=>⟨hc.ro b hb,hc.ln b hb⟩⟩ hex λW hW=>(hF W hW).1
 | o::l,s,s',q,q',ob,a,own,F,r,cm,h,hp,hbx,hst,hld,hc,hex,hF,hQ=>by
  obtain⟨W0,h0⟩:=hex;have hJ0:=(hF W0 h0).1;unfold ct at h;split at h
  ·cases h
  ·rename_i sg ps q1 hg;split at h
   ·cases h
   rename_i hqk;refine hC2 _ _ _ _ _ (by simpa using hqk) ?_;cases hl:ct P E call ops qk l (put sg o.dst .und) q1 with
   | none=>simp[hl] at h
   | some z =>
    obtain⟨s2,ob2,q2⟩:=z;simp only[hl,Option.map_some,Option.some.injEq,Prod.mk.injEq] at h;obtain⟨rfl,rfl,rfl⟩:=h;obtain⟨p1,p2⟩:=aw.app hp;have hm:=(Hk (V:=V) (r:=r) (k:=s.m.length) (a:=a) hg p1).1;exact .pure undef (.inr ⟨(hJ0.gd hg p1).2,rfl⟩) (jy hs hC2 hC3 hl p2 (by rw[eJ,vF hg];exact hbx) hst hld (by unfold dN;rw[fg,hm,eJ,vF hg];exact hc) ⟨W0,h0⟩ (λW hW=>⟨J.put ((hF W hW).1.gd hg p1).1.1.1 ((hF W hW).1.gd hg p1).1.2 ((hF W hW).1.gd hg p1).1.1.2 rfl,(hF W hW).2⟩) hQ)
  ·rename_i sg ps q1 hg;split at h
   ·cases h
   ·rename_i v s1 ob1 q2 hd;cases hl:ct P E call ops qk l (put s1 o.dst v) q2 with
    | none=>simp[hl] at h
    | some z =>
     obtain⟨s2,ob2,q3⟩:=z;simp only[hl,Option.map_some,Option.some.injEq,Prod.mk.injEq] at h;obtain⟨rfl,rfl,rfl⟩:=h;obtain⟨p1,p2⟩:=aw.app hp;obtain⟨p3,p4⟩:=aw.app p1;have hw:=(hJ0.gd hg p3).2;have hm:=(Hk (V:=V) (r:=r) (k:=s.m.length) (a:=a) hg p3).1;replace hF:∀W,F W->J V r cm sg a W/\n0<=W.heap.size:=λW hW=>⟨((hF W hW).1.gd hg p3).1,(hF W hW).2⟩
     replace hJ0:=(hF W0 h0).1;have hbx2:sg.al≠0:=by rw[vF hg];exact hbx
     have hc:Cond V (dN sg) r0 cm0 m0 X own r cm sg.m:=by unfold dN;rw[vF hg,hm];exact hc
     have hst1:∀b∈ob1.st,b∈X:=λb hb=>hst b (List.mem_append_left _ hb)
     have hst2:∀b∈ob2.st,b∈X:=λb hb=>hst b (List.mem_append_right _ hb)
     have hld2:∀b∈ob2.ld,(mb m0 b).isSome=true/\b∉X:=λb hb=>hld b (List.mem_append_right _ hb)
     have hH:HT V r sg.m.length sg a F:=⟨⟨W0,h0⟩,λW hW=>(hF W hW).1.2⟩;by_cases hqk:qk o=true
     ·obtain ⟨hk, hC⟩ := hC3 o l a own F undef hqk;obtain⟨rfl,_,x,h1,h2⟩:=AG (cm:=cm) (S:=F) hs.eq (λh=>absurd h hbx2) hH (λb m hb W hW=>((hF W hW).1.1.1.blk b m hb).2) (λW hW=>(hF W hW).1.1.1.ext) hk hd p4 (λb m hb hm w hw=>((hF w hw).1.1.1.blk b m hm).1);exact (hC3 o l a own F x hqk).2 hw h1 (jy hs hC2 hC3 hl p2 (by rw[eJ];exact hbx2) hst2 hld2 (by unfold dN;rw[fg,eJ];exact hc) ⟨W0,h0⟩ (λW hW=>⟨J.put (hF W hW).1.1.1 (hF W hW).1.2 (hF W hW).1.1.2 (h2 W hW),(hF W hW).2⟩) hQ)
     have hqf:qk o=false:=by simpa using hqk
     refine hC2 _ _ _ _ _ hqf ?_;have hld1:∀b∈ob1.ld,(mb m0 b).isSome=true/\b∉X:=λb hb=>hld b (List.mem_append_left _ (by rw[hqf];exact hb))
     by_cases hk:av o=0
     ·obtain⟨rfl,_,x,h1,h2⟩:=AG (cm:=cm) (S:=S0 V n0 r0 cm0 m0 X) hs.eq (λh=>absurd h hbx2) hH (λb m hb W hW=>((hF W hW).1.1.1.blk b m hb).2) (λW hW=>hW.1.1) hk hd p4 (λb m hb hm w hw=>by
       obtain⟨k1,k2⟩:=hld1 b hb;obtain⟨m',hm'⟩:=Option.isSome_iff_exists.1 k1;obtain⟨k3,k4⟩:=hc.same b m' hm' k2;rw[hm] at k4;cases k4;rw[hc.ro b (cZ hm'),k3];exact hw.2 b m hm' k2)
      exact .pure x (.inl ⟨hw,h1⟩) (jy hs hC2 hC3 hl p2 (by rw[eJ];exact hbx2) hst2 hld2 (by unfold dN;rw[fg,eJ];exact hc) ⟨W0,h0⟩ (λW hW=>⟨J.put (hF W hW).1.1.1 (hF W hW).1.2 (hF W hW).1.1.2 (h2 W hW),(hF W hW).2⟩) hQ)
     have newB:∀ {g:Nat} (ha:dN sg=true),g∉own->V.heap.size<=g/\∀b x,mb sg.m b=some x->r b≠g:=λ{g} ha hg=>⟨by
      rcases Nat.lt_or_ge g V.heap.size with h1|h1
      ·exact absurd (hc.vo g h1) hg
      ·exact h1,λb x hb e=>hg (e ▸ hc.mo ha b (cZ hb))⟩
     have newA:∀ {g:Nat} (ha:dN sg=true),g∉own->∀b,b<sg.m.length->r b≠g:=λ{g} ha hg b hb e=>hg (e ▸ hc.mo ha b hb)
     have hlen1:∀x:Option Mb,(sg.m++[x]).length=sg.m.length+1:=λx=>by simp
     unfold oC at hd;split at hd
     ·rename_i ho;simp[av,ho] at hk
     ·rename_i ho;simp[av,ho] at hk
     ·rename_i ho;simp[av,ho] at hk
     ·rename_i t ho;split at hd
      ·cases hd
      rename_i hal;cases hz:oh P t with
      | none=>simp[hz] at hd
      | some z =>
       simp only[hz,Option.map_some,Option.some.injEq,Prod.mk.injEq] at hd;obtain⟨rfl,rfl,rfl,rfl⟩:=hd;obtain⟨i,zv,i1,i2,i3⟩:=uU hz;have hal:rF sg=true:=by simpa using hal
       have ha:dN sg=true:=by unfold dN;simpa using LX hal
       have hfr:=Fj hal hbx2;refine .flo (by simp[av,ho]) hw (.cells zv.cells t) (λw hw=>?_) (λg hg hsg=>?_)
       ·have := lF (o := o) (a := a) (by unfold execOp; rw [ho]) (Kq i1 i2 w);rw[this];simp[gq,ho]
       ·have hsh : gq o g = .pointer (some ⟨g, 0, none⟩) := by simp [gq, ho]
        rw[hsh];obtain⟨hvg,hng⟩:=newB ha hg;refine jy hs hC2 hC3 (r:=up r sg.m.length g) (cm:=cz cm sg.m.length zv.cells.toList) hl p2 (by rw[eJ];exact hbx2) hst2 hld2 (by unfold dN;rw[fg,eJ];exact hc.new) (by obtain⟨w,h1,h2⟩:=hsg;exact⟨w,h1,h2⟩) (λW hW=>⟨?_,(hF W hW.1).2⟩) hQ;obtain⟨⟨⟨h1,h2⟩,h3⟩,_⟩:=hF W hW.1;refine J.put ?_ ?_ h2 ?_
        ·exact h1.newF (c:=zv.cells.toList) (ID hfr) (Eo i3) (by simpa using hW.2) (pK i3).pre hvg hng
        ·simp only [hlen1];exact h3.grow (yY hfr) (Nat.le_succ _) (λb hb=>ge hb)
        ·simp only [hlen1];exact af.val (i:=.p _ _) ⟨Nat.lt_succ_self _,by simp[up]⟩
     ·rename_i t x ho;split at hd
      ·rename_i u n hu hn;split at hd
       ·rename_i hb;simp only[Option.some.injEq,Prod.mk.injEq] at hd;obtain⟨rfl,rfl,rfl,rfl⟩:=hd;have hfr:=Fj hb.1 hbx2;obtain⟨vs,e1,e2,e3⟩:=hH.evV hu;have e4:=e3 W0 h0;have hcells:(a.eval x).cells=vs.toArray:=by rw[e1];exact ya e2 (λv hv=>(e4.cells.2 v hv).2)
        refine .eff (by simp[av,ho]) hw Nat (λg=>.pointer (some ⟨g,0,none⟩)) (λg W=>W.heap[g]? = some (.cells vs.toArray t)/\V.heap.size<=g/\∀b x,mb sg.m b=some x->r b≠g) (λg W W' h hx=>⟨aH h.1 hx,h.2⟩) (λw hw=>?_) (λg hx=>?_)
        ·refine kC (lF (by unfold execOp; rw [ho]) (To (a.eval x) w)) ⟨w.heap.size, rfl, iR w _, by rw [hcells]; exact tX rfl, (hF w hw).1.1.1.ext.size, λb x hb e => ?_⟩;have:=(Array.getElem?_eq_some_iff.1 ((hF w hw).1.1.1.blk b x hb).1).1;omega
        ·obtain ⟨hvg, hng⟩ := hx.choose_spec.2.2;refine jy hs hC2 hC3 (r:=up r sg.m.length g) (cm:=cz cm sg.m.length vs) hl p2 (by rw[eJ];simp only;rw[uo hbx2];decide) hst2 hld2 ?_ hx (λW hW=>⟨?_,(hF W hW.1).2⟩) hQ
         ·unfold dN;rw[fg,eJ];refine⟨by rw[hlen1];exact Nat.le_succ_of_le hc.len,λb hb=>by rw[ge (Nat.lt_of_lt_of_le hb hc.len)];exact hc.ro b hb,λb x hb hX=>?_,λha b hb=>?_,hc.vo,λb hb=>by rw[Ae (Nat.lt_of_lt_of_le hb hc.len)];exact hc.ln b hb⟩
          ·obtain ⟨k1, k2⟩ := hc.same b x hb hX;have hlt:=cZ k2;refine⟨by unfold cz;rw[if_neg (by omega)];exact k1,?_⟩;rw[cf,List.getElem?_append_left hlt];exact cf.1 k2
          ·simp only [uo hbx2] at ha;exact absurd ha (by decide)
         ·obtain ⟨⟨⟨h1, h2⟩, h3⟩, _⟩ := hF W hW.1;refine J.put ?_ ?_ h2 ?_
          ·exact h1.newF (c:=vs) (ID hfr) (OA hfr hu) hW.2.1 (e3 W hW.1).pre hvg hng
          ·simp only [hlen1];exact h3.grow (yY hfr) (Nat.le_succ _) (λb hb=>ge hb)
          ·simp only [hlen1];exact af.val (i:=.p _ _) ⟨Nat.lt_succ_self _,by simp[up]⟩
       ·cases hd
      ·cases hd
     ·rename_i ho;simp[av,ho] at hk
     ·rename_i ho;simp[av,ho] at hk
     ·rename_i t x y ho;split at hd
      ·rename_i b j u n hx hy hn;split at hd
       ·rename_i m hb;split at hd
        ·rename_i c hpc;split at hd
         ·rename_i hlen;rw[Bool.and_eq_true] at hlen;simp only[Option.some.injEq,Prod.mk.injEq] at hd;obtain⟨rfl,rfl,rfl,rfl⟩:=hd;obtain⟨vs,e1,e2,e3⟩:=hH.evV hy;have hbX:b∈X:=hst1 b (by simp);let cs:=(cm b).take j++(vs++(cm b).drop (j+vs.length));have hT:∀w,F w->∃W',(execOp a.eval o).run P w=.ok .skip W'/\w.heap.size<=W'.heap.size/\RM V r (cz cm b cs) (sg.m.set b (some ⟨m.T,c⟩)) W'/\RT V W' r sg.m.length sg.t a:=by
           intro w hw;obtain⟨⟨⟨h1,h2⟩,h3⟩,_⟩:=hF w hw;obtain⟨hgb,hr⟩:=h1.blk b m hb;have e4:=e3 w hw;obtain⟨l1,l2⟩:=e4.cells;have hvn:vs.length=n:=by rw[l1];simpa using hlen.1
           obtain⟨k1,k2⟩:=Jv hpc hr e4 hvn;have hp2:=(hH.ptr hx).2;obtain⟨o1,o2⟩:=lP (cs':=cs.toArray) hgb;have hln:cs.length=(cm b).length:=by show ((cm b).take j++(vs++(cm b).drop (j+vs.length))).length=_;simp;omega
           refine⟨_,?_,by rw[o1.size];exact Nat.le_refl _,h1.set (Ud hlen.2) hb k1 o1 o2 hln,h3.keep ⟨b,cZ hb,rfl⟩ (CU (IW hlen.2).1) hgb hr.nd o1 o2 hln⟩;have:=Ks (P:=P) (w:=w) (x:=a.eval y) hgb (by rw[e1];exact ya e2 (λv hv=>(l2 v hv).2)) hn hvn k2 (λv hv=>(l2 v hv).2);unfold execOp;simp only[ho,hp2,Sem.run_bind,this,Result.andThen_ok,Sem.run_pure];rfl
          have hlnC:cs.length=(cm b).length:=by
           obtain⟨⟨⟨h1,h2⟩,h3⟩,_⟩:=hF W0 h0;obtain⟨hgb,hr⟩:=h1.blk b m hb;have e4:=e3 W0 h0;obtain⟨l1,l2⟩:=e4.cells;have hvn:vs.length=n:=by rw[l1];simpa using hlen.1
           obtain⟨k1,k2⟩:=Jv hpc hr e4 hvn;show ((cm b).take j++(vs++(cm b).drop (j+vs.length))).length=_;simp;omega
          have hc':Cond V (dN sg) r0 cm0 m0 X own r (cz cm b cs) (sg.m.set b (some ⟨m.T,c⟩)):=by
           refine⟨by rw[List.length_set];exact hc.len,hc.ro,λb' x hb' hX=>?_,λha b' hb'=>hc.mo ha b' (by rwa [List.length_set] at hb'),hc.vo,λb' hb'=>by rw[K0 hlnC];exact hc.ln b' hb'⟩
           ·have hne : b' ≠ b := λe => hX (e ▸ hbX)
            obtain⟨k1,k2⟩:=hc.same b' x hb' hX;refine⟨by unfold cz;rw[if_neg hne];exact k1,?_⟩;rw[cf,List.getElem?_set,if_neg (λe=>hne e.symm)];exact cf.1 k2
          refine .sto (by simp[av,ho]) hw Unit (λ_=>undef) (λ_ W=>(J V r (cz cm b cs) { sg with m:=sg.m.set b (some ⟨m.T,c⟩) } a W/\n0<=W.heap.size)) (λ_ W W' h hx=>⟨J.mono _ _ h.1 hx,Nat.le_trans h.2 hx.size⟩) (λ_ W h=>hc'.s0 h.1 h.2) (λw hw=>?_) (λ_ hsx=>?_)
          ·obtain ⟨W', h1, h2, h3, h4⟩ := hT w hw;exact qw h1 ⟨(),rfl,h2,⟨⟨h3,(hF w hw).1.1.2⟩,by rw[List.length_set];exact h4⟩,Nat.le_trans (hF w hw).2 h2⟩
          ·obtain ⟨w, h1, h2⟩ := hsx;refine jy hs hC2 hC3 (r:=r) (cm:=cz cm b cs) hl p2 (by rw[eJ];exact hbx2) hst2 hld2 (by unfold dN;rw[fg,eJ];exact hc') ⟨w,h1,h2⟩ (λW hW=>⟨J.put hW.1.1.1.1 hW.1.1.2 hW.1.1.1.2 rfl,hW.1.2⟩) hQ
         ·cases hd
        ·cases hd
       ·cases hd
      ·cases hd
     ·rename_i ho;simp[av,ho] at hk
     ·rename_i ho;simp[av,ho] at hk
     ·rename_i ho;simp[av,ho] at hk
     ·rename_i ho;simp[av,ho] at hk
     ·rename_i ho;simp[av,ho] at hk
     ·rename_i ho;simp[av,ho] at hk
     ·rename_i ho;simp[av,ho] at hk
     ·rename_i ho;simp[av,ho] at hk
     ·rename_i ho;simp[av,ho] at hk
     ·
      rename_i t len ps ho;split at hd
      ·rename_i e lv hu hlv;split at hd
       ·rename_i z zs hz hzs;split at hd
        ·split at hd
         ·rename_i hb;cases hf:fills (λi=>some (i*z,z)) (List.replicate len zs).flatten lv with
          | none=>simp[hf] at hd
          | some c =>
           cases hck:chunk z len c with
           | none=>simp[hf,hck] at hd
           | some rs =>
            cases hli:yS e z len rs with
            | none=>simp[hf,hck,hli] at hd
            | some j =>
            simp only[hf,hck,hli,Option.bind_some,Option.map_some,Option.some.injEq,Prod.mk.injEq] at hd;obtain⟨rfl,rfl,rfl,rfl⟩:=hd;obtain⟨cs,h1,h2,h3⟩:=Ar hH ho hu hlv hz hzs hb.2 hf;have ha:dN sg=true:=by unfold dN;simpa using hb.1
            refine .flo (by simp[av,ho]) hw (.cells cs.toArray e) (λw hw=>?_) (λg hg hsg=>?_)
            ·rw [h1 w];simp[gq,ho]
            ·have hsh : gq o g = .slice (some ⟨g, 0, none⟩) len len := by simp [gq, ho]
             rw[hsh];obtain⟨hvg,_⟩:=newB ha hg;refine jy hs hC2 hC3 (r:=r) (cm:=cm) hl p2 (by rw[eJ];exact hbx2) hst2 hld2 (by unfold dN;rw[fg,eJ];exact hc.cons g) (by obtain⟨w,h1,h2⟩:=hsg;exact⟨w,h1,h2⟩) (λW hW=>⟨?_,(hF W hW.1).2⟩) hQ;obtain⟨⟨⟨g1,g2⟩,g3⟩,_⟩:=hF W hW.1;exact J.put g1 g3 g2 (af.val (PK g1.ext hck hli (h2 W hW.1) h3 (by omega) hW.2 hvg (newA ha hg)))
         ·cases hd
        ·split at hd
         ·rename_i hb;cases hf:fills (λi=>some (i*z,z)) (List.replicate len zs).flatten lv with
          | none=>simp[hf] at hd
          | some c =>
           simp only[hf,Option.map_some,Option.some.injEq,Prod.mk.injEq] at hd;obtain⟨rfl,rfl,rfl,rfl⟩:=hd;obtain⟨cs,h1,h2,h3⟩:=Ar hH ho hu hlv hz hzs hb.2 hf;have ha:dN sg=true:=by unfold dN;simpa using LX hb.1
           have hfr:=Fj hb.1 hbx2;have hcF:=OU hf (RU (a7p hzs) len) (Oz hfr hlv);refine .flo (by simp[av,ho]) hw (.cells cs.toArray e) (λw hw=>?_) (λg hg hsg=>?_)
           ·rw [h1 w];simp[gq,ho]
           ·have hsh : gq o g = .slice (some ⟨g, 0, none⟩) len len := by simp [gq, ho]
            rw[hsh];obtain⟨hvg,hng⟩:=newB ha hg;refine jy hs hC2 hC3 (r:=up r sg.m.length g) (cm:=cz cm sg.m.length cs) hl p2 (by rw[eJ];exact hbx2) hst2 hld2 (by unfold dN;rw[fg,eJ];exact hc.new) (by obtain⟨w,h1,h2⟩:=hsg;exact⟨w,h1,h2⟩) (λW hW=>⟨?_,(hF W hW.1).2⟩) hQ;obtain⟨⟨⟨g1,g2⟩,g3⟩,_⟩:=hF W hW.1;refine J.put ?_ ?_ g2 ?_
            ·exact g1.newF (c:=cs) (ID hfr) hcF hW.2 (h2 W hW.1).pre hvg hng
            ·simp only [hlen1];exact g3.grow (yY hfr) (Nat.le_succ _) (λb hb=>ge hb)
            ·simp only [hlen1];exact af.val (i:=.sl _ _ _) ⟨Nat.lt_succ_self _,len,cs.toArray,e,by simp[up],by rw[lk];exact hW.2,by simp[h3],Nat.le_refl _,by unfold maxLen;omega⟩
         ·cases hd
       ·cases hd
      ·cases hd
     ·rename_i c ho;split at hd
      ·rename_i x hcl;replace hcl:=Bo hcl;split at hd
       ·rename_i f cap lv hfn hlv;split at hd
        ·rename_i g hg2;split at hd<;>(try (cases hd;done));rename_i hb;cases hq:xM sg g lv with
         | none=>simp[hq] at hd
         | some z =>
          obtain⟨z1,z2,z3⟩:=z;simp only[hq,Option.map_some,Option.some.injEq,Prod.mk.injEq] at hd;obtain⟨rfl,rfl,rfl,rfl⟩:=hd;obtain⟨b,m,new,n,hst3,hld3,hal3,e1,rfl,hG⟩:=Ln (V:=V) (r:=r) (cm:=cm) hs.nm (hs.eff f g hg2) ho hcl hfn hlv hb hq p4;have hbX:b∈X:=hst1 b (by rw[hst3];simp);have ha:dN sg=true:=by unfold dN;simpa using hal3
          have hc':Cond V (dN sg) r0 cm0 m0 X own r (cz cm b ((cm b).set 1 n)) (sg.m.set b (some ⟨m.T,new⟩)):=by
           refine⟨by rw[List.length_set];exact hc.len,hc.ro,λb' x hb' hX=>?_,λha b' hb'=>hc.mo ha b' (by rwa [List.length_set] at hb'),hc.vo,λb' hb'=>by rw[K0 (List.length_set ..)];exact hc.ln b' hb'⟩
           ·have hne : b' ≠ b := λe => hX (e ▸ hbX)
            obtain⟨k1,k2⟩:=hc.same b' x hb' hX;refine⟨by unfold cz;rw[if_neg hne];exact k1,?_⟩;rw[cf,List.getElem?_set,if_neg (λe=>hne e.symm)];exact cf.1 k2
          refine .mu (by simp[av,ho,hcl]) hw (r b) (hc.mo ha b (cZ e1)) Value (λt=>t) (λt W=>(J V r (cz cm b ((cm b).set 1 n)) { sg with m:=sg.m.set b (some ⟨m.T,new⟩) } a W/\bT V W r sg.m.length z1 t)/\n0<=W.heap.size) (λt W W' h hx=>⟨⟨J.mono _ _ h.1.1 hx,h.1.2.imp (af.ext hx)⟩,Nat.le_trans h.2 hx.size⟩) (λt W h=>hc'.s0 h.1.1 h.2) (λw hw=>?_) (λt hsx=>?_)
          ·refine (hG w (hF w hw).1.1.1 (hF w hw).1.2).imp λx w' ⟨h1, h2, h3, h4⟩ => ⟨x, rfl, h1, ⟨⟨⟨h2, (hF w hw).1.1.2⟩, ?_⟩, h4⟩, Nat.le_trans (hF w hw).2 h1.1⟩
           rw[List.length_set];exact h3
          ·obtain ⟨w, h1, h2⟩ := hsx;refine jy hs hC2 hC3 (r:=r) (cm:=cz cm b ((cm b).set 1 n)) hl p2 (by rw[eJ];exact hbx2) hst2 hld2 (by unfold dN;rw[fg,eJ];exact hc') ⟨w,h1,h2⟩ (λW hW=>⟨J.put hW.1.1.1.1.1 hW.1.1.1.2 hW.1.1.1.1.2 (by rw[List.length_set];exact hW.1.1.2),hW.1.2⟩) hQ
        split at hd
        ·rename_i cb l' hb hn;split at hd
         ·rename_i z hq;split at hd
          ·rename_i hrk;simp only[Option.some.injEq,Prod.mk.injEq] at hd;obtain⟨rfl,rfl,rfl,rfl⟩:=hd;rw[Bool.and_eq_true,Bool.and_eq_true] at hrk;obtain⟨⟨hwr,hrk⟩,hfr⟩:=hrk;simp only[Bool.and_eq_true] at hrk;have hgr:∀(r2:Nat->Nat) W,F W->RT V W (mg r r2 sg.m.length) (sg.m.length+z.1.2.length) sg.t a:=λr2 W hW=>by
            simp only[Bool.or_eq_true,List.isEmpty_iff,Nat.beq_eq] at hfr;rcases hfr with hfr|hfr|hfr
            ·rw [hfr];exact (hF W hW).1.2.imp λi cs h=>af.grow (by simp) (λb hb=>jp hb) i (.inr λb h1 h2=>by simp at h2;omega) cs h
            ·exact absurd hfr hbx2
            ·exact (hF W hW).1.2.grow (yY hfr) (by omega) (λb hb=>jp hb)
           refine .eff (by simp[av,ho,hcl]) hw (Value×(Nat->Nat)×(Nat->List Value)) (λt=>t.1) (λt W=>RM V (mg r t.2.1 sg.m.length) (mg cm t.2.2 sg.m.length) (sg.m++z.1.2.map some) W/\bT V W (mg r t.2.1 sg.m.length) (sg.m.length+z.1.2.length) (Kw sg.m.length z.1.1) t.1) (λt W W' h hx=>⟨h.1.step hx,h.2.imp (af.ext hx)⟩) (λw hw=>?_) (λt hx=>?_)
           ·refine (Lm hs ho hcl hfn hlv hb hn hq hwr p4 (hF w hw).1.1.1 (hF w hw).1.2).imp λx w' ⟨r2,cm2,h1,h2⟩=>⟨(x,r2,cm2),rfl,h1.ext,(hF w hw).1.1.1.merge h1 hrk.2,RL (hF w hw).1.1.1.ext.size (hF w hw).1.1.1.bd hrk.1 h2⟩
           ·have hlen2 : (sg.m ++ z.1.2.map some).length = sg.m.length + z.1.2.length := by simp
            refine jy hs hC2 hC3 (r:=mg r t.2.1 sg.m.length) (cm:=mg cm t.2.2 sg.m.length) hl p2 (by rw[eJ];simp only;split;exact hbx2;rw[uo hbx2];decide) hst2 hld2 ?_ hx (λW hW=>⟨J.put hW.2.1 (by rw[hlen2];exact hgr _ W hW.1) (hF W hW.1).1.1.2 (by rw[hlen2];exact hW.2.2),(hF W hW.1).2⟩) hQ;unfold dN;rw[fg,eJ];refine⟨by rw[hlen2];exact Nat.le_trans hc.len (Nat.le_add_right _ _),λb hb=>by rw[jp (Nat.lt_of_lt_of_le hb hc.len)];exact hc.ro b hb,λb x hb hX=>?_,λha b hb=>?_,hc.vo,λb hb=>by rw[jp (Nat.lt_of_lt_of_le hb hc.len)];exact hc.ln b hb⟩
            ·obtain ⟨k1, k2⟩ := hc.same b x hb hX;have hlt:=cZ k2;refine⟨by rw[jp hlt];exact k1,?_⟩;rw[cf,List.getElem?_append_left hlt];exact cf.1 k2
            ·simp only at ha;split at ha
             ·rename_i he;have he:z.1.2=[]:=by simpa using he
              simp only[he,List.map_nil,List.append_nil] at hb;rw[jp hb];exact hc.mo ha b hb
             ·rw [uo hbx2] at ha;exact absurd ha (by decide)
          ·cases hd
         ·cases hd
        ·cases hd
       ·cases hd
      ·rename_i b hcl;replace hcl:=FT hcl;split at hd
       ·rename_i lv hlv;split at hd
        ·split at hd
         ·rename_i t t' x b' m z' ht;split at hd
          ·rename_i htt;subst htt;have hA:∀w,F w->∃n zz y m1,v=cH (.sl sg.m.length n zz)/\s1.al=kX sg.al/\s1.t=sg.t/\s1.m=m1++[some y]/\m1.length=sg.m.length/\(∀b x,mb m1 b=some x->mb sg.m b=some x)/\(∀b,b∉ob1.st->m1[b]? = sg.m[b]?) /\
             ∃g cc cs W',(execOp a.eval o).run P w=.ok (.value (.slice (some ⟨g,0,none⟩) n cc)) W'/\w.heap.size<=W'.heap.size/\RM V (up r sg.m.length g) (cz cm sg.m.length cs) s1.m W' /\
              af V W' (up r sg.m.length g) s1.m.length (.sl sg.m.length n zz) [.slice (some ⟨g,0,none⟩) n cc]/\RT V W' (up r sg.m.length g) s1.m.length sg.t a:=by
            intro w hw;obtain⟨⟨⟨g1,g2⟩,g3⟩,_⟩:=hF w hw;obtain⟨y1,_,e1,c1,y2,_,e2,c2,e3⟩:=mC g3 hlv;subst e2 e3;obtain⟨_,d0,_,d4,n,zz,y,m1,d5,d6,d7,d8,d9,g,cc,cs,W',d10,d11,d12,d13,d14⟩:=Lj g1 c1.scal c2.scal hd o.type;exact⟨n,zz,y,m1,d5,d0,d4,d6,d7,d8,d9,g,cc,cs,W',wP (x:=.tmp 0) (y:=.tmp 0) ho hcl e1 ht d10,d11,d12,d13,d14 _ g3⟩
           obtain⟨n,zz,y,m1,d5,d0,d4,d6,d7,d8,d9,_⟩:=hA W0 h0;have hal2:s1.al=2:=by rw[d0,uo hbx2]
           have hcA:∀(g:Nat) (cs:List Value),Cond V false r0 cm0 m0 X own (up r sg.m.length g) (cz cm sg.m.length cs) s1.m:=by
            intro g cs;refine⟨by rw[d6,List.length_append,d7];exact Nat.le_trans hc.len (Nat.le_add_right _ _),λb hb=>by rw[ge (Nat.lt_of_lt_of_le hb hc.len)];exact hc.ro b hb,λb x hb hX=>?_,nofun,hc.vo,λb hb=>by rw[Ae (Nat.lt_of_lt_of_le hb hc.len)];exact hc.ln b hb⟩;obtain⟨k1,k2⟩:=hc.same b x hb hX;have hlt:=cZ k2;refine⟨by unfold cz;rw[if_neg (by omega)];exact k1,?_⟩;rw[d6,cf,List.getElem?_append_left (by omega),d9 b (λh=>hX (hst1 b h))];exact cf.1 k2
           refine .sto (by simp[av,ho,hcl]) hw (Nat×Nat×List Value) (λt=>.slice (some ⟨t.1,0,none⟩) n t.2.1) (λt W=>(J V (up r sg.m.length t.1) (cz cm sg.m.length t.2.2) s1 a W/\n0<=W.heap.size)/\af V W (up r sg.m.length t.1) s1.m.length (.sl sg.m.length n zz) [.slice (some ⟨t.1,0,none⟩) n t.2.1]) (λt W W' h hx=>⟨⟨J.mono _ _ h.1.1 hx,Nat.le_trans h.1.2 hx.size⟩,af.ext hx _ _ h.2⟩) (λt W h=>(hcA _ _).s0 h.1.1 h.1.2) (λw hw=>?_) (λt hsx=>?_)
           ·obtain ⟨n', zz', y', m1', f5, f0, f4, f6, f7, f8, f9, g, cc, cs, W', f10, f11, f12, f13, f14⟩ := hA w hw;rw[d5] at f5;simp only[cH,AV.one.injEq,V1.mk.injEq,List.cons.injEq,It.sl.injEq,true_and,and_true] at f5;obtain⟨rfl,rfl⟩:=f5;exact kC f10 ⟨(g,cc,cs),rfl,f11,⟨⟨⟨f12,(hF w hw).1.1.2⟩,by rw[f4];exact f14⟩,Nat.le_trans (hF w hw).2 f11⟩,f13⟩
           ·obtain ⟨w, h1, h2⟩ := hsx;refine jy hs hC2 hC3 (r:=up r sg.m.length t.1) (cm:=cz cm sg.m.length t.2.2) hl p2 (by rw[eJ,hal2];decide) hst2 hld2 (by unfold dN;rw[fg,eJ,hal2];exact hcA _ _) ⟨w,h1,h2⟩ (λW hW=>⟨J.put hW.1.1.1.1.1 hW.1.1.1.2 hW.1.1.1.1.2 (by rw[d5];exact af.val hW.1.2),hW.1.1.2⟩) hQ
          ·cases hd
         ·rename_i t t' x ht;split at hd
          ·rename_i htt;subst htt;cases hq:xJ P t x with
           | none=>simp[hq] at hd
           | some u =>
            simp only[hq,Option.map_some,Option.some.injEq,Prod.mk.injEq] at hd;obtain⟨rfl,rfl,rfl,rfl⟩:=hd;obtain⟨y1,_,e1,g1,y2,_,e2,g2,e3⟩:=mC hJ0.2 hlv;subst e2 e3;obtain rfl:y2=_:=by simpa using g2.scal.1
            obtain⟨d1,d2⟩:=Lh ⟨W0,g1.scal⟩ hq o.type;subst d1;refine .sto (by simp[av,ho,hcl]) hw Unit (λ_=>y1) (λ_ W=>(J V r cm sg a W/\n0<=W.heap.size)/\af V W r sg.m.length x [y1]) (λ_ W W' h hx=>⟨⟨J.mono _ _ h.1.1 hx,Nat.le_trans h.1.2 hx.size⟩,af.ext hx _ _ h.2⟩) (λ_ W h=>hc.s0 h.1.1 h.1.2) (λw hw=>?_) (λ_ hsx=>?_)
            ·have hw2 := hF w hw;obtain⟨z1,_,f1,f2,_⟩:=mC hw2.1.2 hlv;rw[e1] at f1;obtain rfl:y1=z1:=by simpa using (List.cons.inj f1).1
             exact kC (wP (x:=.tmp 0) (y:=.tmp 0) ho hcl e1 ht (d2 w)) ⟨(),rfl,Nat.le_refl _,hw2,f2.scal⟩
            ·obtain ⟨w, h1, h2⟩ := hsx;exact jy hs hC2 hC3 hl p2 (by rw[eJ];exact hbx2) hst2 hld2 (by unfold dN;rw[fg,eJ];exact hc) ⟨w,h1,h2⟩ (λW hW=>⟨J.put hW.1.1.1.1.1 hW.1.1.1.2 hW.1.1.1.1.2 (af.val hW.1.2),hW.1.1.2⟩) hQ
          ·cases hd
         ·rename_i t t' x T z m g ht;split at hd
          ·rename_i htt;subst htt;cases hq:xK P sg t x T z m g with
           | none=>simp[hq] at hd
           | some u =>
            simp only[hq,Option.map_some,Option.some.injEq,Prod.mk.injEq] at hd;obtain⟨rfl,rfl,rfl,rfl⟩:=hd;have hA:∀w,F w->∃y W',(execOp a.eval o).run P w=.ok (.value y) W'/\w.heap.size<=W'.heap.size/\J V r cm (sj T { sg with al:=kX sg.al }) a W'/\af V W' r sg.m.length u.1 [y]:=by
             intro w hw;obtain⟨⟨⟨g1,g2⟩,g3⟩,_⟩:=hF w hw;obtain⟨y1,_,e1,c1,y2,_,e2,c2,e3⟩:=mC g3 hlv;subst e2 e3;obtain⟨y,W',d1,d2,d3,d4,d5⟩:=Ll g1 c1.scal c2.scal hq p4 o.type;exact⟨y,W',wP (x:=.tmp 0) (y:=.tmp 0) ho hcl e1 ht d1,d2,⟨⟨d3,g2⟩,d5 _ g3⟩,d4⟩
            have hc':Cond V false r0 cm0 m0 X own r cm sg.m:=hc.weak nofun
            refine .sto (by simp[av,ho,hcl]) hw Value (λt=>t) (λt W=>(J V r cm (sj T { sg with al:=kX sg.al }) a W/\n0<=W.heap.size)/\af V W r sg.m.length u.1 [t]) (λt W W' h hx=>⟨⟨J.mono _ _ h.1.1 hx,Nat.le_trans h.1.2 hx.size⟩,af.ext hx _ _ h.2⟩) (λt W h=>Cond.s0 (s:=sj T { sg with al:=kX sg.al }) hc' h.1.1 h.1.2) (λw hw=>?_) (λt hsx=>?_)
            ·obtain ⟨y, W', d1, d2, d3, d4⟩ := hA w hw;exact kC d1 ⟨y,rfl,d2,⟨d3,Nat.le_trans (hF w hw).2 d2⟩,d4⟩
            ·obtain ⟨w, h1, h2⟩ := hsx;refine jy hs hC2 hC3 (r:=r) (cm:=cm) hl p2 (by rw[eJ];show kX sg.al≠0;rw[uo hbx2];decide) hst2 hld2 ?_ ⟨w,h1,h2⟩ (λW hW=>⟨J.put hW.1.1.1.1.1 hW.1.1.1.2 hW.1.1.1.1.2 (af.val hW.1.2),hW.1.1.2⟩) hQ;unfold dN;rw[fg,eJ];show Cond V (decide (kX sg.al≠2)) r0 cm0 m0 X own r cm sg.m;rw[uo hbx2];exact hc'
          ·cases hd
         ·cases hd
        ·rename_i hb;cases hq:sC P b c.argTypes.toList lv with
         | none=>simp[hq] at hd
         | some z=>exact absurd (Qb hq ho hcl) hk
       ·cases hd
      ·split at hd
       ·rename_i x name hcl;split at hd
        ·rename_i T lf hxe ha;split at hd<;>(try (cases hd;done));rename_i n wd hq;split at hd
         ·rename_i hwd;simp only[Option.some.injEq,Prod.mk.injEq] at hd;obtain⟨rfl,rfl,rfl,rfl⟩:=hd;obtain⟨i1,i2⟩:=hs.mt T name n wd hq;refine .eff (by simp[av,ho,hcl]) hw Unit (λ_=>.int .i64 n) (λ_ _=>True) (λ_ _ _ h _=>h) (λw hw=>?_) (λ_ hx=>?_)
          ·exact (i2 o c x lf a w ho hcl ha (Oy (hF w hw).1.2 hxe) hwd).imp λv w' ⟨e,hx⟩=>⟨(),e,hx,trivial⟩
          ·obtain ⟨w, h1, h2⟩ := hx;exact jy hs hC2 hC3 hl p2 (by rw[eJ];exact hbx2) hst2 hld2 (by unfold dN;rw[fg,eJ];exact hc) ⟨w,h1,h2⟩ (λW hW=>⟨J.put (hF W hW.1).1.1.1 (hF W hW.1).1.2 (hF W hW.1).1.1.2 (af.val (i:=.k n) ⟨rfl,i1⟩),(hF W hW.1).2⟩) hQ
         ·cases hd
        ·cases hd
       ·cases hd
     ·rename_i ho;simp[av,ho] at hk
     ·rename_i ho;simp[av,ho] at hk
     ·rename_i ho;simp[av,ho] at hk
     ·cases hd
theorem LU(hs:iP P E call){Q:Act->World->Prop}{l:List Oper}{s s':St}{q q':List Bool}{ob:Ob}{a:Act}{own:List Nat}{F:World->Prop}{r:Nat->Nat}{cm:Nat->List Value}(h:ct P E call ops fE l s q=some (s',ob,q'))(hp:aw ob.ps)
  (h1:s.al≠0) (h2:∀b∈ob.st,b∈X) (h3:∀b∈ob.ld,(mb m0 b).isSome=true/\b∉X) (h4:Cond V (dN s) r0 cm0 m0 X own r cm s.m) (h5:∃W,F W) (h6:∀W,F W->J V r cm s a W/\n0<=W.heap.size)
  (hQ:∀a' W r' cm',Ag m0 r0 cm0 s'.m r' cm'->J V r' cm' s' a' W->Q a' W):aG P ops (S0 V n0 r0 cm0 m0 X) Q l a own F :=
 jy hs (qk:=fE) (C:=λl a own F=>aG P ops (S0 V n0 r0 cm0 m0 X) Q l a own F) (λ_ _ _ _ _ _ h=>h) (λ_ _ _ _ _ _ h=>nomatch h) h hp h1 h2 h3 h4 h5 h6 λ_ _ _ _ _ hA _ hF W hW=>hQ _ _ _ _ hA (hF W hW)
theorem a6J{Q:Act->World->Prop}{o:Oper}{t:TypeId}{x y:Operand}(ho:o.op=.store t x y){s s':St}{q q':List Bool}{ob:Ob}{a:Act}{own:List Nat}{F:World->Prop}{r:Nat->Nat}{cm:Nat->List Value}(h:ct P E call ops fE [o] s q=some (s',ob,q'))(hp:aw ob.ps)
  (hex:∃W,F W) (hF:∀W,F W->J V r cm s a W) (hQ:∀a' W r' cm',Ag s.m r cm s'.m r' cm'->J V r' cm' s' a' W->Q a' W):aG P ops (λ_=>True) Q [o] a own F:=by
 obtain⟨W0,h0⟩:=hex;have hJ0:=hF W0 h0;unfold ct at h;split at h
 ·cases h
 ·rename_i sg ps q1 hg;simp only[ct,fE,Bool.false_eq_true,if_false,Option.map_some,Option.some.injEq,Prod.mk.injEq] at h;obtain⟨rfl,rfl,rfl⟩:=h;obtain⟨p1,p2⟩:=aw.app hp;exact .pure undef (.inr ⟨(hJ0.gd hg p1).2,rfl⟩) λW hW=>hQ _ _ _ _ (by rw[fg,mG hg];exact .rfl) (J.put ((hF W hW).gd hg p1).1.1.1 ((hF W hW).gd hg p1).1.2 ((hF W hW).gd hg p1).1.1.2 rfl)
 ·rename_i sg ps q1 hg;split at h
  ·cases h
  ·rename_i v s1 ob1 q2 hd;simp only[ct,fE,Bool.false_eq_true,if_false,Option.map_some,Option.some.injEq,Prod.mk.injEq] at h;obtain⟨rfl,rfl,rfl⟩:=h;obtain⟨p1,p2⟩:=aw.app hp;obtain⟨p3,p4⟩:=aw.app p1;have hw:=(hJ0.gd hg p3).2;simp only[oC,ho] at hd;split at hd
   ·rename_i b j u n hx hy hn;split at hd
    ·rename_i m hb;split at hd
     ·rename_i c hc;split at hd
      ·rename_i hl;rw[Bool.and_eq_true] at hl;simp only[Option.some.injEq,Prod.mk.injEq] at hd;obtain⟨rfl,rfl,rfl,rfl⟩:=hd;refine .sto (by simp[av,ho]) hw Unit (λ_=>undef) (λ_ W=>∃cs:List Value,cs.length=(cm b).length/\J V r (cz cm b cs) { sg with m:=sg.m.set b (some ⟨m.T,c⟩) } a W) (λ_ W W' h hx=>h.imp λ_ h=>⟨h.1,J.mono _ _ h.2 hx⟩) (λ_ _ _=>trivial) (λw hw=>?_) (λ_ _ W hW=>?_)
       ·obtain ⟨⟨hM, hD⟩, hT⟩ := ((hF w hw).gd hg p3).1;obtain⟨cs,W',h1,h2,h3,h4,h5⟩:=EJ ho hx hy hn hb hc hl.1 hl.2 hT hM;exact qw h1 ⟨(),rfl,by rw[h2.size];exact Nat.le_refl _,_,h5,⟨h3,hD⟩,by rw[List.length_set];exact h4⟩
       ·obtain ⟨⟨cs, h5, hJ⟩, _⟩ := hW;exact hQ _ _ _ _ (by rw[fg,<- mG hg];exact .set h5) (J.put hJ.1.1 hJ.2 hJ.1.2 rfl)
      ·cases hd
     ·cases hd
    ·cases hd
   ·cases hd
theorem Ui{Q:Act->World->Prop}:∀ {l:List Oper} (_:∀o∈l,Em o=true) {s s':St} {q q':List Bool} {ob:Ob} {a:Act} {own:List Nat} {F:World->Prop} {r:Nat->Nat} {cm:Nat->List Value} (_:ct P E call ops fE l s q=some (s',ob,q')) (_:aw ob.ps)
  (_:∃W,F W) (_:∀W,F W->J V r cm s a W) (_:∀a' W r' cm',Ag s.m r cm s'.m r' cm'->J V r' cm' s' a' W->Q a' W),aG P ops (λ_=>True) Q l a own F
 | [],_,s,s',q,q',ob,a,own,F,r,cm,h,_,_,hF,hQ=>by
  unfold ct at h;cases h;exact λW hW=>hQ _ _ _ _ .rfl (hF W hW)
 | o::l,hl,s,s',q,q',ob,a,own,F,r,cm,h,hp,hex,hF,hQ=>by
  have ih:=λ{s s' q q' ob a own F r cm}=>@Ui Q l (λo h=>hl o (List.mem_cons_of_mem _ h)) s s' q q' ob a own F r cm
  have ho:=hl o (List.mem_cons_self ..);obtain⟨W0,h0⟩:=hex;have hJ0:=hF W0 h0;unfold ct at h;split at h
  ·cases h
  ·rename_i sg ps q1 hg;simp only[fE,Bool.false_eq_true,if_false] at h;cases h2:ct P E call ops fE l (put sg o.dst .und) q1 with
   | none=>rw[h2] at h;cases h
   | some z =>
    obtain⟨s2,ob2,q2⟩:=z;rw[h2] at h;simp only[Option.map_some,Option.some.injEq,Prod.mk.injEq] at h;obtain⟨rfl,rfl,rfl⟩:=h;obtain⟨p1,p2⟩:=aw.app hp;exact .pure undef (.inr ⟨(hJ0.gd hg p1).2,rfl⟩) (ih h2 p2 ⟨W0,h0⟩ (λW hW=>J.put ((hF W hW).gd hg p1).1.1.1 ((hF W hW).gd hg p1).1.2 ((hF W hW).gd hg p1).1.1.2 rfl) λa' W r' cm' hA=>hQ a' W r' cm' (by rw[fg,mG hg] at hA;exact hA))
  ·rename_i sg ps q1 hg;split at h
   ·cases h
   ·rename_i v s1 ob1 q2 hd;cases h2:ct P E call ops fE l (put s1 o.dst v) q2 with
    | none=>rw[h2] at h;cases h
    | some z =>
     obtain⟨s2,ob2,q3⟩:=z;rw[h2] at h;simp only[fE,Bool.false_eq_true,if_false,Option.map_some,Option.some.injEq,Prod.mk.injEq] at h;obtain⟨rfl,rfl,rfl⟩:=h;obtain⟨p1,p2⟩:=aw.app hp;obtain⟨p3,p4⟩:=aw.app p1;have hw:=(hJ0.gd hg p3).2;unfold Em at ho;split at ho
     ·rename_i t x y hop;simp only[oC,hop] at hd;split at hd
      ·rename_i b j u n hx hy hn;split at hd
       ·rename_i m hb;split at hd
        ·rename_i c hc;split at hd
         ·rename_i hl;rw[Bool.and_eq_true] at hl;simp only[Option.some.injEq,Prod.mk.injEq] at hd;obtain⟨rfl,rfl,rfl,rfl⟩:=hd;refine .sto (by simp[av,hop]) hw (List Value) (λ_=>undef) (λcs W=>cs.length=(cm b).length/\J V r (cz cm b cs) { sg with m:=sg.m.set b (some ⟨m.T,c⟩) } a W) (λ_ W W' h hx=>⟨h.1,J.mono _ _ h.2 hx⟩) (λ_ _ _=>trivial) (λw hw=>?_) (λcs hx=>?_)
          ·obtain ⟨⟨hM, hD⟩, hT⟩ := ((hF w hw).gd hg p3).1;obtain⟨cs,W',h1,h2,h3,h4,h5⟩:=EJ hop hx hy hn hb hc hl.1 hl.2 hT hM;exact qw h1 ⟨cs,rfl,by rw[h2.size];exact Nat.le_refl _,h5,⟨h3,hD⟩,by rw[List.length_set];exact h4⟩
          ·have h5 : cs.length = (cm b).length := by obtain ⟨_, h, _⟩ := hx; exact h.1
           exact ih h2 p2 hx (λW hW=>J.put hW.1.2.1.1 hW.1.2.2 hW.1.2.1.2 rfl) λa' W r' cm' hA=>hQ a' W r' cm' (by rw[fg] at hA;rw[<- mG hg];exact (Ag.set h5).trans hA)
         ·cases hd
        ·cases hd
       ·cases hd
      ·cases hd
     ·rename_i t x f hop;simp only[oC,hop] at hd;split at hd
      ·rename_i b j kk ft hx hf;split at hd
       ·rename_i n hn;simp only[Option.some.injEq,Prod.mk.injEq] at hd;obtain⟨rfl,rfl,rfl,rfl⟩:=hd;obtain⟨fs,fd,f1,f2,f3,f4⟩:=tQ hf;have hv:a.eval x=.pointer (some ⟨r b,j,none⟩):=by simpa using (gU (hJ0.gd hg p3).1.2 hx).2
        refine .pure (.pointer (some ⟨r b,j+kk,none⟩)) (.inl ⟨hw,λw _=>?_⟩) (ih h2 p2 ⟨W0,h0⟩ (λW hW=>J.put ((hF W hW).gd hg p3).1.1.1 ((hF W hW).gd hg p3).1.2 ((hF W hW).gd hg p3).1.1.2 ?_) λa' W r' cm' hA=>hQ a' W r' cm' (by rw[fg,mG hg] at hA;exact hA))
        ·unfold execOp;simp only[hop,hv];simp only[Instr.fieldAt,Sem.run_bind,run_underlying f1,Result.andThen_ok,f2,Instr.sureAddr,Sem.run_pure,fieldPlace,f4,fP hn,if_neg (Nat.succ_ne_zero n),f3,Addr.add_mid]
        ·exact af.val (i:=.p b (j+kk)) ⟨(gU ((hF W hW).gd hg p3).1.2 hx).1,rfl⟩
       ·cases hd
      ·rename_i l' kk ft hx hf;split at hd
       ·rename_i n hn;cases hq:bE l' kk with
        | none=>simp[hq] at hd
        | some z =>
         obtain⟨u1,u2⟩:=z;simp only[hq,Option.map_some,Option.some.injEq,Prod.mk.injEq] at hd;obtain⟨rfl,rfl,rfl,rfl⟩:=hd;obtain⟨fs,fd,f1,f2,f3,f4⟩:=tQ hf;obtain⟨g,j,xs,T,e1,e2,e5,c,d,e3,e4⟩:=gU (hJ0.gd hg p3).1.2 hx;obtain⟨k1,k2,k3⟩:=rJ hq e4;have e1:a.eval x=.pointer (some ⟨g,j,none⟩):=by simpa using e1
         refine .pure (.pointer (some ⟨g,j+kk,none⟩)) (.inl ⟨hw,λw _=>?_⟩) (ih h2 p2 ⟨W0,h0⟩ (λW hW=>J.put ((hF W hW).gd hg p3).1.1.1 ((hF W hW).gd hg p3).1.2 ((hF W hW).gd hg p3).1.1.2 (af.val (i:=.fp u2) (BX e2 e5 e3 k2 k3))) λa' W r' cm' hA=>hQ a' W r' cm' (by rw[fg,mG hg] at hA;exact hA));unfold execOp;simp only[hop,e1];simp only[Instr.fieldAt,Sem.run_bind,run_underlying f1,Result.andThen_ok,f2,Instr.sureAddr,Sem.run_pure,fieldPlace,f4,fP hn,if_neg (Nat.succ_ne_zero n),f3,Addr.add_mid]
       ·cases hd
      ·rename_i U l' kk ft hx hf;split at hd
       ·rename_i n hn;cases hq:bE l' kk with
        | none=>simp[hq] at hd
        | some z =>
         obtain⟨u1,u2⟩:=z;simp only[hq,Option.map_some,Option.some.injEq,Prod.mk.injEq] at hd;obtain⟨rfl,rfl,rfl,rfl⟩:=hd;obtain⟨fs,fd,f1,f2,f3,f4⟩:=tQ hf;have hgp:∀W,F W->m6 V W r sg.m.length U l' (a.eval x):=λW hW=>by
          obtain⟨v,e,hv⟩:=gU ((hF W hW).gd hg p3).1.2 hx;cases e;exact hv
         obtain⟨g,j,_,_,e1,_⟩:=hgp W0 h0;refine .pure (.pointer (some ⟨g,j+kk,none⟩)) (.inl ⟨hw,λw _=>?_⟩) (ih h2 p2 ⟨W0,h0⟩ (λW hW=>J.put ((hF W hW).gd hg p3).1.1.1 ((hF W hW).gd hg p3).1.2 ((hF W hW).gd hg p3).1.1.2 (af.val (i:=.gp U u2) ⟨_,rfl,(by have:=hgp W hW;rw[e1] at this;exact this.cut hq)⟩)) λa' W r' cm' hA=>hQ a' W r' cm' (by rw[fg,mG hg] at hA;exact hA));unfold execOp;simp only[hop,e1];simp only[Instr.fieldAt,Sem.run_bind,run_underlying f1,Result.andThen_ok,f2,Instr.sureAddr,Sem.run_pure,fieldPlace,f4,fP hn,if_neg (Nat.succ_ne_zero n),f3,Addr.add_mid]
       ·cases hd
      ·cases hd
     ·cases ho
end
end
end Go.Proofs.YtghemgdfmldoeaaGreat
