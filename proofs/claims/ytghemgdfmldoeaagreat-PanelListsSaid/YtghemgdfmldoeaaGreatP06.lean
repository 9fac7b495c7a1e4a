import Derived.Test.YtghemgdfmldoeaaGreatP05
set_option linter.unusedVariables false
set_option linter.unusedSimpArgs false
namespace Go.Proofs.YtghemgdfmldoeaaGreat
open Go.RowKit
section
theorem Tr.get_set{x:AV}:∀ {t:Tr} {i j:Nat},(t.set i x).get j=if i=j then (t.get j).map (λ_=>x) else t.get j
 | .e,i,j=>by simp[Tr.set,Tr.get]
 | .n v l r,i,j=>by
  have hl:=@Tr.get_set x l;have hr:=@Tr.get_set x r;cases i with
  | zero =>
   cases j with
   | zero=>rfl
   | succ j=>rw[if_neg (by omega)];rfl
  | succ i =>
   have hm:∀k:Nat,Nat.mod k 2=0\/Nat.mod k 2=0+1:=λk=>by have:k%2<2:=Nat.mod_lt _ (by decide);show k%2=0\/k%2=0+1;omega
   cases j with
   | zero=>rw[if_neg (by omega)];unfold Tr.set;simp only;rcases hm i with h|h<;>rw[h]<;>rfl
   | succ j =>
    have e:∀k:Nat,k%2=Nat.mod k 2/\k/2=Nat.div k 2:=λ_=>⟨rfl,rfl⟩
    unfold Tr.set;simp only;rcases hm i with h|h<;>rcases hm j with g|g<;>rw[h]<;>simp only[Tr.get,g]
    ·rw [hl];by_cases hij:i=j
     ·subst hij;rw[if_pos rfl,if_pos rfl]
     ·rw[if_neg (λq=>hij (by have:=e i;have:=e j;omega)),if_neg (by omega)]
    ·rw[if_neg (λq=>by obtain rfl:i=j:=Nat.succ.inj q;rw[h] at g;cases g)]
    ·rw[if_neg (λq=>by obtain rfl:i=j:=Nat.succ.inj q;rw[h] at g;cases g)]
    ·rw [hr];by_cases hij:i=j
     ·subst hij;rw[if_pos rfl,if_pos rfl]
     ·rw[if_neg (λq=>hij (by have:=e i;have:=e j;omega)),if_neg (by omega)]
theorem Tr.full_get{v:AV}:∀ {k i:Nat},(Tr.full k).get i=some v->v=.und
 | 0,_,h=>by cases h|k+1,i,h=>by
  unfold Tr.full Tr.get at h;split at h
  ·cases h;rfl
  ·split at h
   ·exact Tr.full_get h
   ·exact Tr.full_get h
theorem Tr.fill_get{v:AV}:∀ {l:List AV} {t:Tr} {i j:Nat},(t.fill i l).get j=some v->(i<=j/\l[j-i]? = some v)\/(t.get j=some v/\(j<i\/i+l.length<=j))
 | [],t,i,j,h=>.inr ⟨h,by simp;omega⟩|u::l,t,i,j,h=>by
  rcases Tr.fill_get (l:=l) (t:=t.set i u) (i:=i+1) (j:=j) h with⟨h1,h2⟩|⟨h1,h2⟩
  ·refine .inl ⟨by omega, ?_⟩;rw[show j-i=(j-(i+1))+1 by omega];simpa using h2
  ·rw [Tr.get_set] at h1;split at h1
   ·rename_i hij;subst hij;refine .inl ⟨Nat.le_refl _,?_⟩;cases hq:t.get i with|none=>simp[hq] at h1|some w=>simp only[hq,Option.map_some] at h1;simpa using h1
   ·exact .inr ⟨h1,by simp only[List.length_cons];omega⟩
theorem Tm.get_lt{t:Tm}{i:Nat}{v:AV}(h:t.get i=some v):i<t.n/\t.r.get i=some v:=by
 unfold Tm.get at h;split at h
 ·rename_i hb;exact⟨by simpa[Nat.blt_eq] using hb,h⟩
 ·cases h
theorem Tm.get_set{t:Tm}{i j:Nat}{x v:AV}(h:(t.set i x).get j=some v):(i=j/\v=x/\j<t.n)\/(i≠j/\t.get j=some v):=by
 obtain⟨h1,h2⟩:=Tm.get_lt h;have h1:j<t.n:=h1;have h2:(t.r.set i x).get j=some v:=h2;rw[Tr.get_set] at h2;split at h2
 ·rename_i hij;cases hq:t.r.get j with|none=>simp[hq] at h2|some w=>simp only[hq,Option.map_some,Option.some.injEq] at h2;exact .inl ⟨hij,h2.symm,h1⟩
 ·rename_i hij;refine .inr ⟨hij,?_⟩;unfold Tm.get;rw[show Nat.blt j t.n=true by simpa[Nat.blt_eq] using h1];exact h2
def RT(V W:World)(r:Nat->Nat)(k:Nat)(t:Tm)(a:Act):Prop:=a.tmps.size=t.n/\∀i v,t.get i=some v->bT V W r k v (a.tmps.getD i undef)
structure RM (V:World) (r:Nat->Nat) (cm:Nat->List Value) (m:List (Option Mb)) (W:World):Prop where
 ext:ac V W
 blk:∀b x,mb m b=some x->W.heap[r b]? = some (.cells (cm b).toArray x.T)/\fS V W r m.length x.l (cm b)
 lo:∀b x,mb m b=some x->V.heap.size<=r b
 inj:∀b c x y,mb m b=some x->mb m c=some y->r b=r c->b=c
 bd:∀b,b<m.length->r b<W.heap.size
theorem cf{m:List (Option Mb)}{b:Nat}{x:Mb}:mb m b=some x <-> m[b]? = some (some x):=by
 unfold mb;constructor
 ·intro h;split at h<;>cases h;assumption
 ·intro h;rw[h]
theorem cZ{m:List (Option Mb)}{b:Nat}{x:Mb}(h:mb m b=some x):b<m.length:=(List.getElem?_eq_some_iff.1 (cf.1 h)).1
theorem Bo{c:Callee}{f:Operand}(h:vg c=some (.inl f)):c=.value f:=by
 unfold vg at h;split at h<;>cases h;rfl
theorem FT{c:Callee}{b:Builtin}(h:vg c=some (.inr b)):c=.builtin b:=by
 unfold vg at h;split at h<;>cases h;rfl
def aw:List Prop->Prop
 | []=>True|p::l=>p/\aw l
theorem aw.app:∀ {l m:List Prop},aw (l++m)->aw l/\aw m
 | [],_,h=>⟨trivial,h⟩|_::_,_,h=>⟨⟨h.1,(aw.app h.2).1⟩,(aw.app h.2).2⟩
theorem jx.up{V W:World}{r:Nat->Nat}{k:Nat}{i:It}{cs:List Value}(h:jx V i cs):af V W r k (toO i) cs:=by
 cases i with|ro z n f=>obtain⟨v,e,h⟩:=h;exact⟨v,e,h.imp (Below.refl _ _) λ_ _ h=>h.up (Below.refl _ _)⟩|_=>first|exact h|exact h.elim
theorem aE.up{V W:World}{r:Nat->Nat}{k:Nat}:∀ {l:List It} {cs:List Value},aE V l cs->aA V W r k (l.map toO) cs
 | [],_,e=>e|_::_,_,⟨c,d,e,h1,h2⟩=>⟨c,d,e,h1.up,aE.up h2⟩
theorem jx.n{V:World}{i:It}{cs:List Value}(h:jx V i cs):cs.length=i.n:=by
 have:=(jx.up (W:=V) (r:=λ_=>0) (k:=0) h).cells.1;rw[this];cases i<;>rfl
theorem rJ{V:World}:∀ {l:List It} {n:Nat} {a b:List It} {cs:List Value},bE l n=some (a,b)->aE V l cs->aE V a (cs.take n)/\aE V b (cs.drop n)/\n<=cs.length
 | [],0,_,_,_,h,e=>by unfold bE at h;cases h;cases e;exact⟨rfl,rfl,Nat.le_refl _⟩|[],n+1,_,_,_,h,_=>by unfold bE at h;cases h|i::l,0,_,_,cs,h,e=>by unfold bE at h;cases h;exact⟨rfl,e,Nat.zero_le _⟩|i::l,n+1,a,b,cs,h,⟨c,d,e,h1,h2⟩=>by
  unfold bE at h;split at h
  ·rename_i hle;split at h
   ·rename_i x y hc;cases h;obtain⟨k1,k2,k3⟩:=rJ hc h2;have hl:=h1.n;subst e;have e1:List.take (n+1) (c++d)=c++d.take (n+1-i.n):=by rw[List.take_append,List.take_of_length_le (by omega),hl]
    have e2:List.drop (n+1) (c++d)=d.drop (n+1-i.n):=by rw[List.drop_append,List.drop_eq_nil_of_le (by omega),hl];rfl
    rw[e1,e2];exact⟨⟨c,_,rfl,h1,k1⟩,k2,by rw[List.length_append];omega⟩
   ·cases h
  ·cases h
section
variable {P:Program} {V W:World} {r:Nat->Nat} {k:Nat} {s:St} {a:Act}
theorem au.scal{i:It}{x:Value}(h:au V W r k ⟨false,[i]⟩ x):af V W r k i [x]:=by
 obtain⟨cs,⟨c,d,e,h1,h2⟩,h3,h4⟩:=h;cases h2;rw[List.append_nil] at e;subst e;have h4:=h4 rfl;match cs,h4 with|[y],_=>rw[h3];exact h1
theorem af.val{i:It}{x:Value}(h:af V W r k i [x]):au V W r k ⟨false,[i]⟩ x:=⟨[x],⟨[x],[],rfl,h,rfl⟩,rfl,λ_=>rfl⟩
theorem Ox(hT:RT V W r k s.t a){x:Operand}{v:AV}(h:evA s x=some v):bT V W r k v (a.eval x):=by
 unfold evA at h;split at h
 ·exact hT.2 _ _ h
 ·split at h
  ·rename_i cs;cases hq:mV cs.toList with|none=>simp[hq] at h|some l =>
    simp only[hq,Option.map_some,Option.some.injEq] at h;subst h;exact⟨cs.toList,pK hq,rfl,nofun⟩
  ·cases h
  ·rename_i u _ _ _;cases hq:tc u with|none=>simp[hq] at h|some l =>
    simp only[hq,Option.map_some,Option.some.injEq] at h;subst h;exact (Un hq).val
 ·cases h
 ·cases h;exact af.val (i:=.v _) ⟨rfl,rfl⟩
theorem vA(hT:RT V W r k s.t a){x:Operand}{v:V1}(h:evV s x=some v):au V W r k v (a.eval x):=by
 unfold evV at h;cases hq:evA s x with|none=>simp[hq] at h|some y =>
  rw[hq] at h;cases y with|one y=>cases h;exact Ox hT hq|_=>cases h
theorem gU(hT:RT V W r k s.t a){x:Operand}{i:It}(h:evI s x=some i):af V W r k i [a.eval x]:=by
 unfold evI at h;cases hq:evV s x with|none=>simp[hq] at h|some y =>
  obtain⟨g,l⟩:=y;have:=vA hT hq;rw[hq] at h;simp only[Option.bind_some] at h;split at h
  ·cases h;exact this.scal
  ·cases h
theorem mC(hT:RT V W r k s.t a):∀ {xs:List Operand} {l:List V1},qm s xs=some l->aV V W r k l (xs.map a.eval)
 | [],_,h=>by cases h;rfl|x::xs,l,h=>by
  unfold qm at h;split at h
  ·cases h;exact⟨_,_,rfl,vA hT (by assumption),mC hT (by assumption)⟩
  ·cases h
theorem fP{t:TypeId}{n:Nat}(h:bV P t=some n)(w:World):(sizeOf t).run P w=.ok n w:=by
 unfold bV at h;cases hq:P.info? t with|none=>simp[hq] at h|some i =>
  simp only[hq,Option.map_some,Option.some.injEq] at h;simp[sizeOf,typeInfo,hq,h]
theorem LW{t:TypeId}{g:Bool}(h:jU P t=some g):∃d,P.underlying t=some d/\d.isRow=g:=by
 unfold jU at h;cases hq:P.underlying t with|none=>simp[hq] at h|some d =>
  refine⟨d,rfl,?_⟩;simp only[hq,Option.map_some,Option.some.injEq] at h;rw[<- h];cases d<;>rfl
theorem Kr{t:TypeId}{g:Bool}(h:jU P t=some g)(w:World):(isAgg t).run P w=.ok g w:=by
 obtain⟨d,h1,h2⟩:=LW h;unfold isAgg;rw[Sem.run_bind,run_underlying h1 w];subst h2;cases d<;>rfl
theorem tQ{t:TypeId}{f o:Nat}{ft:TypeId}(h:BV P t f=some (o,ft)):∃fs fd,P.underlying t=some (.struct fs)/\fs[f]? = some fd/\fd.offset=o/\fd.type=ft:=by
 unfold BV at h;split at h
 ·rename_i fs hu;cases hq:fs[f]? with|none=>simp[hq] at h|some fd =>
   simp only[hq,Option.map_some,Option.some.injEq,Prod.mk.injEq] at h;exact⟨fs,fd,hu,hq,h.1,h.2⟩
 ·cases h
theorem a6s{l x:List It}{o n:Nat}{cs:List Value}(h:wW l o n=some x)(hr:aA V W r k l cs):aA V W r k x ((cs.drop o).take n)/\o+n<=cs.length:=by
 unfold wW at h;split at h
 ·rename_i y hy;cases h;exact Ue hy hr
 ·exact Ue h (QN hr)
theorem wn{t:TypeId}{l:List It}{o:Nat}{v:V1}{cs:List Value}(h:kg P t l o=some v)(hr:aA V W r k l cs) :
  ∃n,bV P t=some n/\jU P t=some v.g/\aA V W r k v.l ((cs.drop o).take n)/\o+n<=cs.length/\(v.g=false->n=1):=by
 unfold kg at h;split at h
 ·rename_i n g h1 h2;split at h;rotate_left
  ·cases h
  rename_i hc;cases hq:wW l o n with|none=>simp[hq] at h|some x =>
   simp only[hq,Option.map_some,Option.some.injEq] at h;subst h;obtain⟨k1,k2⟩:=a6s hq hr;exact⟨n,h1,h2,k1,k2,λe=>by simpa[show g=false from e] using hc⟩
 ·cases h
theorem CY{V:World}{x:Nm}{cs:List Value}(h:∃n p l c,cs=[Value.bool n,.slice p l c]/\NR V n p l c x):aE V [.v (.bool x.neg),.ln x.d.length] cs:=by
 obtain⟨n,p,l,c,rfl,h1,h2,h3⟩:=h;exact⟨[_],[_],rfl,⟨by rw[h1],rfl⟩,[_],[],rfl,⟨p,c,by rw[h2],Nat.le_trans h3.le h3.max⟩,rfl⟩
theorem a2P{V:World}{i:It}{cs:List Value}(h:jx V i cs):aE V (I1 i) cs:=by
 have one:aE V [i] cs:=⟨cs,[],by simp,h,rfl⟩;cases i with
 | d D =>
  cases D with
  | num x=>exact CY h
  | zi z B=>exact CY h.1
  | ed n f=>exact one
 | o D =>
  cases D with
  | num x=>exact CY h
  | zi z B=>exact CY h.1
  | ed n f=>exact one
 | _=>exact one
theorem L8{V:World}:∀ {l m:List It} {c d:List Value},aE V l c->aE V m d->aE V (l++m) (c++d)
 | [],_,_,_,e,h=>by cases e;exact h|i::l,m,_,d,⟨a,b,e,h1,h2⟩,h=>⟨a,b++d,by rw[e,List.append_assoc],h1,L8 h2 h⟩
theorem QO{V:World}:∀ {l:List It} {cs:List Value},aE V l cs->aE V (I2 l) cs
 | [],_,e=>e|i::l,_,⟨c,d,e,h1,h2⟩=>by
  rw[e];exact L8 (a2P h1) (QO h2)
theorem Uf{V:World}{l x:List It}{o n:Nat}{cs:List Value}(hq:wV l o n=some x)(hr:aE V l cs):aE V x ((cs.drop o).take n)/\o+n<=cs.length:=by
 unfold wV at hq;cases h3:bE l o with|none=>simp[h3] at hq|some q =>
  obtain⟨a,b⟩:=q;cases h4:bE b n with|none=>simp[h3,h4] at hq|some q =>
   obtain⟨c,d⟩:=q;simp only[h3,h4,Option.bind_some,Option.map_some,Option.some.injEq] at hq;subst hq;obtain⟨k1,k2,k3⟩:=rJ h3 hr;obtain⟨k4,k5,k6⟩:=rJ h4 k2;exact⟨k4,by simp at k6;omega⟩
theorem a20{t:TypeId}{l:List It}{o:Nat}{v:V1}{cs:List Value}(h:kg P t l o=some v)(hr:aE V l cs) :
  ∃n,bV P t=some n/\jU P t=some v.g/\aE V v.l ((cs.drop o).take n)/\o+n<=cs.length/\(v.g=false->n=1):=by
 unfold kg at h;split at h
 ·rename_i n g h1 h2;split at h;rotate_left
  ·cases h
  rename_i hc;cases hq:wW l o n with|none=>simp[hq] at h|some x =>
   simp only[hq,Option.map_some,Option.some.injEq] at h;subst h;unfold wW at hq;split at hq
   ·rename_i y hy;cases hq;obtain⟨k1,k2⟩:=Uf hy hr;exact⟨n,h1,h2,k1,k2,λe=>by simpa[show g=false from e] using hc⟩
   ·obtain ⟨k1, k2⟩ := Uf hq (QO hr);exact⟨n,h1,h2,k1,k2,λe=>by simpa[show g=false from e] using hc⟩
 ·cases h
theorem I6{t:TypeId}{l:List It}{o:Nat}{v:V1}{cs:List Value}(h:kg P t l o=some v)(hr:fS V W r k l cs) :
  ∃n,bV P t=some n/\jU P t=some v.g/\aA V W r k v.l ((cs.drop o).take n)/\o+n<=cs.length/\(v.g=false->n=1):=by
 obtain⟨c,d,rfl,h1,h2⟩:=hr;obtain⟨n,k1,k2,k3,k4,k5⟩:=wn h h1;refine⟨n,k1,k2,?_,by rw[List.length_append];omega,k5⟩;rw[List.drop_append_of_le_length (by omega),List.take_append_of_le_length (by simp;omega)];exact k3
theorem pG{t:TypeId}{n g o:Nat}{b:Bool}{T:TypeId}{fr:Nat×Nat}{cs:List Value}(hg:W.heap[g]? = some (.cells cs.toArray T fr))(h1:bV P t=some n)(h2:jU P t=some b)(h3:o+n<=cs.length)(h4:b=false->n=1) :
  (loadVar t ⟨g,o,none⟩).run P W=.ok (dj b ((cs.drop o).take n)) W:=by
 cases b with|true =>
  obtain⟨d,hu,hd⟩:=LW h2;have hl:((cs.drop o).take n).length=n:=by simp;omega
  exact run_loadVar_mid W g o t ((cs.drop o).take n) d (λj v hv=>by
   rw[cell_of_row _ _ _ _ _ _ hg];rw[List.getElem?_take] at hv;split at hv
   ·simpa using hv
   ·cases hv) hu hd (by rw[hl];exact h1)|false =>
  obtain rfl:=h4 rfl;have hlt:o<cs.length:=by omega
  simp only[loadVar,Sem.run_bind,Kr h2,Result.andThen_ok,Bool.false_eq_true,if_false,run_load];rw[cell_of_row _ _ _ _ _ _ hg];have e:(List.take 1 (cs.drop o))=[cs[o]]:=by rw[List.drop_eq_getElem_cons hlt];rfl
  simp[hlt,dj,e]
theorem D9{t:TypeId}{n o:Nat}{b:Bool}{cs:List Value}(h1:bV P t=some n)(h2:jU P t=some b)(h3:o+n<=cs.length)(h4:b=false->n=1) :
  (part t cs.toArray o).run P W=.ok (dj b ((cs.drop o).take n)) W:=by
 cases b with|true =>
  simp only[part,Sem.run_bind,Kr h2,Result.andThen_ok,if_true,fP h1,Sem.run_pure];congr 2;simp[List.extract_eq_take_drop]|false =>
  obtain rfl:=h4 rfl;have hlt:o<cs.length:=by omega
  simp only[part,Sem.run_bind,Kr h2,Result.andThen_ok,Bool.false_eq_true,if_false];have e:(List.take 1 (cs.drop o))=[cs[o]]:=by rw[List.drop_eq_getElem_cons hlt];rfl
  simp[hlt,dj,e]
end
end
section
section
variable {P:Program} {V:World} {r:Nat->Nat} {k:Nat} {s:St} {a:Act} {F S:World->Prop}
structure HT (V:World) (r:Nat->Nat) (k:Nat) (s:St) (a:Act) (F:World->Prop):Prop where
 ex:∃W,F W
 rt:∀W,F W->RT V W r k s.t a
theorem Xe{g:Bool}{cs ds:List Value}(h:dj g cs=dj g ds)(hc:g=false->cs.length=1)(hd:g=false->ds.length=1):cs=ds:=by
 cases g with|true=>unfold dj at h;simpa using h|false =>
  match cs,ds,hc rfl,hd rfl with|[x],[y],_,_=>simpa[dj] using h
theorem HT.evV(h:HT V r k s a F){x:Operand}{v:V1}(he:evV s x=some v):∃cs,a.eval x=dj v.g cs/\(v.g=false->cs.length=1)/\∀W,F W->aA V W r k v.l cs:=by
 obtain⟨W0,h0⟩:=h.ex;obtain⟨cs,h1,h2,h3⟩:=vA (h.rt W0 h0) he;refine⟨cs,h2,h3,λW hW=>?_⟩;obtain⟨ds,k1,k2,k3⟩:=vA (h.rt W hW) he;rw[Xe (h2.symm.trans k2) h3 k3];exact k1
theorem HT.evI(h:HT V r k s a F){x:Operand}{i:It}(he:evI s x=some i):∀W,F W->af V W r k i [a.eval x]:=λW hW=>gU (h.rt W hW) he
theorem HT.ptr(h:HT V r k s a F){x:Operand}{b o:Nat}(he:Go.Proofs.YtghemgdfmldoeaaGreat.evI s x=some (.p b o)):b<k/\a.eval x=.pointer (some ⟨r b,o,none⟩):=by
 obtain⟨W0,h0⟩:=h.ex;have:=h.evI he W0 h0;exact⟨this.1,by simpa using this.2⟩
theorem HT.int(h:HT V r k s a F){x:Operand}{z:Int}{B:Nat}(he:Go.Proofs.YtghemgdfmldoeaaGreat.evI s x=some (.i z B)):a.eval x=.int .i64 z/\z.natAbs<=B/\I64 z:=by
 obtain⟨W0,h0⟩:=h.ex;have:=h.evI he W0 h0;exact⟨by simpa using this.1,this.2⟩
theorem HT.kint(h:HT V r k s a F){x:Operand}{z:Int}(he:Go.Proofs.YtghemgdfmldoeaaGreat.evI s x=some (.k z)):a.eval x=.int .i64 z/\I64 z:=by
 obtain⟨W0,h0⟩:=h.ex;have:=h.evI he W0 h0;exact⟨by simpa using this.1,this.2⟩
theorem HT.val(h:HT V r k s a F){x:Operand}{v:Value}(he:Go.Proofs.YtghemgdfmldoeaaGreat.evI s x=some (.v v)):a.eval x=v:=by
 obtain⟨W0,h0⟩:=h.ex;have:=h.evI he W0 h0;simpa using this.1
theorem HT.bln(h:HT V r k s a F){x:Operand}{v:Bool}(he:Go.Proofs.YtghemgdfmldoeaaGreat.evI s x=some (.b v)):a.eval x=.bool v:=by
 obtain⟨W0,h0⟩:=h.ex;have:=h.evI he W0 h0;simpa using (show [a.eval x]=[Value.bool v] from this)
def Pu(P:Program)(S:World->Prop)(o:Oper)(a:Act)(x:Value):Prop:=∀w,S w->(execOp a.eval o).run P w=.ok (.value x) w
theorem OW(off:Nat):∀(vs:List Value) (j:Nat) (cs:Array Value),off+j+vs.length<=cs.size->((vs.zipIdx j).foldl (λcs (x:Value×Nat)=>cs.setIfInBounds (off+x.2) x.1) cs).toList=cs.toList.take (off+j)++(vs++cs.toList.drop (off+j+vs.length))
 | [],j,cs,_=>by simp|v::vs,j,cs,h=>by
  simp only[List.length_cons] at h;rw[List.zipIdx_cons,List.foldl_cons,OW off vs (j+1) _ (by simp;omega)];have e1:(cs.setIfInBounds (off+j) v).toList=cs.toList.set (off+j) v:=by simp
  rw[e1,List.drop_set_of_lt (by omega),List.length_cons,show off+(j+1)+vs.length=off+j+(vs.length+1) by omega];have e2:(cs.toList.set (off+j) v).take (off+(j+1))=cs.toList.take (off+j)++[v]:=by
   rw[<- Nat.add_assoc,List.take_set,List.take_add_one,List.set_append];have hl:(cs.toList.take (off+j)).length=off+j:=by simp;omega
   rw[if_neg (by omega),hl,Nat.sub_self];have : cs.toList[off + j]? = some (cs.toList[off + j]'(by simp; omega)) := List.getElem?_eq_getElem _;rw[this];rfl
  rw[e2,List.append_assoc];rfl
theorem ZO{pl:Nat->Option (Nat×Nat)}{f o n:Nat}{cs vs:List Value}{x:Value}{rest:List (Nat×Value)}(h:pl f=some (o,n))(hx:x.cells=vs.toArray)(hn:vs.length=n)(ho:o+n<=cs.length) :
  Instr.fill pl cs.toArray ((f,x)::rest)=Instr.fill pl (cs.take o++(vs++cs.drop (o+vs.length))).toArray rest:=by
 rw[Instr.fill];simp only[h,hx];rw[if_neg (by simp;omega)];congr 1;apply Array.toList_inj.1;have:=OW o vs 0 cs.toArray (by simp;omega);simp only[Nat.add_zero] at this;rw[<- this];simp
theorem cells_one{x:Value}(h:x.oneCell'=true):x.cells=#[x]:=by
 cases x<;>first|rfl|cases h
theorem ya{g:Bool}{cs:List Value}(h:g=false->cs.length=1)(h1:∀v∈cs,v.oneCell'=true):(dj g cs).cells=cs.toArray:=by
 cases g with|true=>rfl|false =>
  match cs,h rfl with|[x],_=>exact cells_one (h1 x (by simp))
theorem HT.evPs(h:HT V r k s a F){pl:Nat->Option (Nat×Nat)}:∀ {ps:List (Nat×Operand)} {l:List (Nat×V1)} {c c':List It} {cs:List Value},evPs s ps=some l->fills pl c l=some c'->(∀W,F W->aA V W r k c cs) ->
  ∃ds,Instr.fill pl cs.toArray (ps.map λx=>(x.1,a.eval x.2))=some ds.toArray/\∀W,F W->aA V W r k c' ds
 | [],l,c,c',cs,h1,h2,h3=>by
  cases h1;unfold fills at h2;cases h2;exact⟨cs,rfl,h3⟩
 | (f,x)::ps,l,c,c',cs,h1,h2,h3=>by
  unfold Go.Proofs.YtghemgdfmldoeaaGreat.evPs at h1;split at h1
  ·rename_i v r' hv hr;cases h1;unfold fills at h2;split at h2
   ·rename_i o n hp;split at h2
    ·rename_i c1 hc;split at h2
     ·rename_i hn;obtain⟨vs,e1,e2,e3⟩:=h.evV hv;obtain⟨W0,h0⟩:=h.ex;obtain⟨l1,l2⟩:=(e3 W0 h0).cells;have hn:vs.length=n:=by rw[l1];simpa using hn
      have hb:=(Ju hc (h3 W0 h0) (e3 W0 h0) hn).2;obtain⟨ds,k1,k2⟩:=HT.evPs h hr h2 (λW hW=>(Ju hc (h3 W hW) (e3 W hW) hn).1);refine⟨ds,?_,k2⟩;rw[List.map_cons,ZO hp (x:=a.eval x) (by rw[e1];exact ya e2 (λv hv=>(l2 v hv).2)) hn (by omega)];exact k1
     ·cases h2
    ·cases h2
   ·cases h2
  ·cases h1
theorem uU{t:TypeId}{z:List It}(h:oh P t=some z):∃i v,P.info? t=some i/\i.zero=some v/\mV v.cells.toList=some z:=by
 unfold oh at h;cases hi:P.info? t with
 | none=>simp[hi] at h
 | some i =>
  cases hz:i.zero with
  | none=>simp[hi,hz] at h
  | some v =>
   simp only[hi,hz,Option.bind_some] at h;exact⟨i,v,rfl,hz,h⟩
theorem V4{t:TypeId}{pl:Nat->Option (Nat×Nat)}{i:TypeInfo}{z:Value}{parts:List (Nat×Value)}(h:Jd P t=some pl)(hi:P.info? t=some i)(hz:i.zero=some z):P.built t parts=Instr.fill pl z.cells parts:=by
 unfold Jd at h;unfold Program.built;split at h
 ·rename_i n e hu;cases he:P.info? e with|none=>simp[he] at h|some ie =>
   simp only[he,Option.map_some,Option.some.injEq] at h;subst h;simp[hi,hu,hz,he]
 ·rename_i fs hu;cases hm:fs.toList.mapM (λf=>(P.info? f.type).map λi=>(f.offset,i.size)) with|none=>simp[hm] at h|some places =>
   simp only[hm,Option.map_some,Option.some.injEq] at h;subst h;simp[hi,hu,hz,hm]
 ·cases h
end
end
section
def Sc.v:Sc->Value
 | .i z=>.int .i64 z|.b x=>.bool x|.s x=>.string x
def kq(P:Program)(t:TypeId)(n:List Nat):Prop :=
 P.eqGuardType P.depth t=false/\∀xs ys:List Sc,xs.map Sc.kind=n->ys.map Sc.kind=n->∀w,(Op.equal t (.agg (xs.map Sc.v).toArray) (.agg (ys.map Sc.v).toArray)).run P w=.ok (dk xs ys) w
theorem a7i(z:Int):(IntKind.i64.wrap z).natAbs<=lim/\I64 (IntKind.i64.wrap z):=by
 unfold IntKind.wrap lim I64;simp only[show IntKind.i64.bits=64 from rfl,show IntKind.i64.signed=true from rfl,Bool.true_and];have h1:=Int.emod_nonneg z (show (2 ^ 64:Int)≠0 by decide);have h2:=Int.emod_lt_of_pos z (show (0:Int)<2 ^ 64 by decide);rw[show (2 ^ 64:Int)=18446744073709551616 from rfl] at *;rw[show (2 ^ (64-1):Int)=9223372036854775808 from rfl];simp only[ge_iff_le,decide_eq_true_eq];split<;>omega
section
variable {P:Program} {V:World} {r:Nat->Nat} {k:Nat} {s:St} {a:Act} {F S:World->Prop} {o:Oper} {W:World}
theorem Ak{z:Int}{B:Nat}(h:z.natAbs<=B):af V W r k (wr z B) [.int .i64 (IntKind.i64.wrap z)]:=by
 unfold wr;split
 ·rename_i hB;unfold lim at hB;rw[wrap_in (x:=z) (by unfold I64;omega)];exact⟨rfl,h,by unfold I64;omega⟩
 ·exact⟨rfl,a7i z⟩
theorem MB{i:It}{z:Int×Nat}{cs:List Value}(h:asI i=some z)(hr:af V W r k i cs):cs=[.int .i64 z.1]:=by
 unfold asI at h;split at h<;>cases h
 ·exact hr.1
 ·exact hr.1
theorem oG{i:It}{z:Int}{B:Nat}{u:Value}(h:asI i=some (z,B))(hr:af V W r k i [u]):u=.int .i64 z/\z.natAbs<=B/\I64 z:=by
 unfold asI at h;split at h<;>cases h
 ·exact⟨by simpa using hr.1,hr.2⟩
 ·exact⟨by simpa using hr.1,Nat.le_refl _,hr.2⟩
theorem vO{z:Int}{i:It}(h:kn z=some i):i=.k z/\z.natAbs<lim:=by
 unfold kn at h;split at h<;>cases h;exact⟨rfl,by assumption⟩
theorem lH{z:Int}(h:z.natAbs<lim):I64 z:=by unfold lim at h;unfold I64;omega
theorem a5J{i:It}{z:Sc}{cs:List Value}(h:Kt i=some z)(hr:af V W r k i cs):cs=[z.v]:=by
 unfold Kt at h;split at h
 ·cases h;exact hr.1
 ·cases h;exact hr.1
 ·cases h;exact hr
 ·cases ha : asI _ with|none=>rw[ha] at h;cases h|some q =>
   rw[ha] at h;cases h;exact MB ha hr
theorem Ku:∀ {l:List It} {xs:List Sc} {cs:List Value},zV l=some xs->aA V W r k l cs->cs=xs.map Sc.v
 | [],_,_,h,e=>by cases h;cases e;rfl|i::l,_,_,h,⟨c,d,e,h1,h2⟩=>by
  unfold zV at h;split at h
  ·rename_i z r hz hr;cases h;rw[e,a5J hz h1,Ku hr h2];rfl
  ·cases h
theorem Pu.of{x:Value}(h:∀w,(execOp a.eval o).run P w=.ok (.value x) w):Pu P S o a x:=λw _=>h w
theorem Tq{t:TypeId}(hu:P.underlying t=some .bool)(x y:Bool)(w:World):(Op.equal t (.bool x) (.bool y)).run P w=.ok (x==y) w:=by
 rw[Op.equal,show Op.maxDepth=9999+1 from rfl,Op.equalIn,Sem.run_bind,run_underlying hu w];rfl
theorem Tt{t:TypeId}{u v:Value}{e:Bool}{w:World}(x y:Operand)(hg:(eqGuard .eql t x y u v).run P w=.ok () w)(h:(Op.equal t u v).run P w=.ok e w)(hb:binOp .eql t u v=(do pure (.bool (<- Op.equal t u v)))) :
  ((do eqGuard .eql t x y u v;binOp .eql t u v):Sem Value).run P w=.ok (.bool e) w:=by
 rw[Sem.run_bind,hg,Result.andThen_ok,hb,Sem.run_bind,h];rfl
theorem Tv{t:TypeId}{u v:Value}{e:Bool}{w:World}(x y:Operand)(hg:(eqGuard .neq t x y u v).run P w=.ok () w)(h:(Op.equal t u v).run P w=.ok e w)(hb:binOp .neq t u v=(do pure (.bool (!(<- Op.equal t u v))))) :
  ((do eqGuard .neq t x y u v;binOp .neq t u v):Sem Value).run P w=.ok (.bool (!e)) w:=by
 rw[Sem.run_bind,hg,Result.andThen_ok,hb,Sem.run_bind,h];rfl
theorem UW{op:BinOp}{x y:Int}{A B:Nat}{i:It}{ps:List Prop}(h:FB op x A y B=some (i,ps))(hA:x.natAbs<=A/\I64 x)(hB:y.natAbs<=B/\I64 y)(hp:aw ps)(t:TypeId) :
  ∃v,(∀w,(binOp op t (.int .i64 x) (.int .i64 y)).run P w=.ok v w)/\∀W,af V W r k i [v]:=by
 unfold FB at h;split at h<;>(try (cases h;done))<;>cases h
 ·exact⟨_,λw=>rfl,λW=>Ak (by omega)⟩
 ·exact⟨_,λw=>rfl,λW=>Ak (by omega)⟩
 ·exact⟨_,λw=>rfl,λW=>Ak (by rw[Int.natAbs_mul];exact Nat.mul_le_mul hA.1 hB.1)⟩
 ·refine ⟨_, λw => by simp only [binOp, Op.intDiv, ne_eq, not_true, if_false, if_neg hp.1]; rfl, λW => Ak ?_⟩;rw[Int.natAbs_tdiv];exact Nat.le_trans (Nat.div_le_self _ _) hA.1
 ·refine ⟨_, λw => by simp only [binOp, Op.intDiv, ne_eq, not_true, if_false, if_neg hp.1]; rfl, λW => ⟨rfl, ?_, ?_⟩⟩
  ·rw [Int.natAbs_tmod];have hy:0<y.natAbs:=Int.natAbs_pos.2 hp.1;exact Nat.le_min.2 ⟨Nat.le_trans (Nat.mod_le _ _) hA.1,Nat.le_trans (Nat.le_of_lt (Nat.mod_lt _ hy)) hB.1⟩
  ·have h1 : (x.tmod y).natAbs <= x.natAbs := by rw [Int.natAbs_tmod]; exact Nat.mod_le _ _
   have h2:=hA.2;rcases Int.le_total 0 x with h3|h3
   ·have := Int.tmod_nonneg y h3;unfold I64 at *;omega
   ·have := Int.tmod_nonneg y (show 0 <= -x by omega);rw[Int.neg_tmod] at this;unfold I64 at *;omega
 all_goals exact⟨_,λw=>rfl,λW=>⟨rfl,rfl⟩⟩
theorem UX{op:BinOp}{x y:Int}{i:It}(h:AZ op x y=some i)(t:TypeId):∃v,(∀w,(binOp op t (.int .i64 x) (.int .i64 y)).run P w=.ok v w)/\∀W,af V W r k i [v]:=by
 unfold AZ at h;split at h<;>(try (cases h;done))
 ·obtain ⟨rfl, h2⟩ := vO h;exact⟨_,λw=>rfl,λW=>⟨by rw[wrap_in (lH h2)],lH h2⟩⟩
 ·obtain ⟨rfl, h2⟩ := vO h;exact⟨_,λw=>rfl,λW=>⟨by rw[wrap_in (lH h2)],lH h2⟩⟩
 ·obtain ⟨rfl, h2⟩ := vO h;exact⟨_,λw=>rfl,λW=>⟨by rw[wrap_in (lH h2)],lH h2⟩⟩
 ·split at h
  ·cases h
  ·rename_i hy;obtain⟨rfl,h2⟩:=vO h;exact⟨_,λw=>by simp only[binOp,Op.intDiv,ne_eq,not_true,if_false,if_neg hy];rfl,λW=>⟨by rw[wrap_in (lH h2)],lH h2⟩⟩
 ·split at h
  ·cases h
  ·rename_i hy;obtain⟨rfl,h2⟩:=vO h;exact⟨_,λw=>by simp only[binOp,Op.intDiv,ne_eq,not_true,if_false,if_neg hy];rfl,λW=>⟨rfl,lH h2⟩⟩
 all_goals
  cases h;exact⟨_,λw=>rfl,λW=>rfl⟩
theorem Tu{op:BinOp}{t:TypeId}{u v z:Value}{w:World}(x y:Operand)(hg:(eqGuard op t x y u v).run P w=.ok () w)(h:(binOp op t u v).run P w=.ok z w) :
  ((do eqGuard op t x y u v;binOp op t u v):Sem Value).run P w=.ok z w:=by
 rw[Sem.run_bind,hg,Result.andThen_ok,h]
theorem O2{op:BinOp}{t:TypeId}(x y:Operand)(p q:Int)(w:World):(eqGuard op t x y (.int .i64 p) (.int .i64 q)).run P w=.ok () w:=by
 simp only[eqGuard];split<;>rfl
theorem UY{op:BinOp}{t:TypeId}{i j m:It}{ps:List Prop}{u v:Value}(hd:FC P op t i j=some (m,ps))(hp:aw ps)(x y:Operand)(h1:∃W,af V W r k i [u]/\af V W r k j [v]) :
  ∃z,(∀w,((do eqGuard op t x y u v;binOp op t u v):Sem Value).run P w=.ok z w)/\∀W,af V W r k m [z]:=by
 obtain⟨W0,h1,h2⟩:=h1;unfold FC at hd;split at hd
 ·rename_i n m';cases hq:AZ op n m' with|none=>simp[hq] at hd|some z =>
   simp only[hq,Option.map_some,Option.some.injEq,Prod.mk.injEq] at hd;obtain⟨rfl,rfl⟩:=hd;obtain rfl:u=_:=by simpa using h1.1
   obtain rfl:v=_:=by simpa using h2.1
   obtain⟨z,k1,k2⟩:=UX (P:=P) (r:=r) (k:=k) hq t;exact⟨z,λw=>Tu x y (O2 x y _ _ w) (k1 w),k2⟩
 ·obtain rfl : u = _ := by simpa using h1.1
  obtain rfl:v=_:=by simpa using h2.1
  split at hd<;>(try (cases hd;done))<;>cases hd
  ·rename_i hu;exact⟨_,λw=>Tt x y rfl (Tq hu _ _ w) rfl,λW=>⟨rfl,rfl⟩⟩
  ·rename_i hu;exact⟨_,λw=>Tv x y rfl (Tq hu _ _ w) rfl,λW=>⟨rfl,rfl⟩⟩
 ·split at hd
  ·rename_i xz A yz B hx hy;obtain⟨rfl,c2⟩:=oG hx h1;obtain⟨rfl,c4⟩:=oG hy h2;obtain⟨z,k1,k2⟩:=UW (P:=P) (r:=r) (k:=k) hd c2 c4 hp t;exact⟨z,λw=>Tu x y (O2 x y _ _ w) (k1 w),k2⟩
  ·cases hd
theorem UV{E:List (TypeId×List Nat)}(hE:∀t n,E.lookup t=some n->kq P t n){op:BinOp}{t:TypeId}{u v:V1}{i:It}{ps:List Prop}(h:HT V r k s a F){x y:Operand}(hx:evV s x=some u)(hy:evV s y=some v)
  (hd:AY P E op t u v=some (i,ps)) (hp:aw ps):∃z,(∀w,((do eqGuard op t x y (a.eval x) (a.eval y);binOp op t (a.eval x) (a.eval y)):Sem Value).run P w=.ok z w)/\∀W,F W->af V W r k i [z]:=by
 obtain⟨cs,e1,e2,e3⟩:=h.evV hx;obtain⟨ds,f1,f2,f3⟩:=h.evV hy;obtain⟨W0,h0⟩:=h.ex;have e3':=e3 W0 h0;have f3':=f3 W0 h0;obtain⟨g,l⟩:=u;obtain⟨g',m⟩:=v;unfold AY at hd;simp only at hd e1 f1 e2 f2 e3' f3';split at hd
 ·split at hd
  ·have u1 := au.scal (⟨cs, e3', e1, e2⟩ : au V W0 r k ⟨false, [_]⟩ (a.eval x));have u2:=au.scal (⟨ds,f3',f1,f2⟩:au V W0 r k ⟨false,[_]⟩ (a.eval y));obtain⟨z,k1,k2⟩:=UY (P:=P) hd hp x y ⟨W0,u1,u2⟩;exact⟨z,k1,λW _=>k2 W⟩
  ·cases hd
 ·split at hd
  ·rename_i n hn;obtain⟨q1,q2⟩:=hE t n hn;have hgd:∀(cs ds:Array Value) w,(eqGuard op t x y (.agg cs) (.agg ds)).run P w=.ok () w:=by
    intro cs ds w;cases op<;>simp[eqGuard,Sem.run_bind,program,Sem.run,q1]
   have fin:∀e,vw n l m=some e->∀w,(Op.equal t (dj true cs) (dj true ds)).run P w=.ok e w:=by
    intro e he;unfold vw at he;split at he
    ·rename_i xs ys h1 h2;split at he
     ·rename_i hc;cases he;simp only[Bool.and_eq_true,beq_iff_eq] at hc;rw[Ku h1 e3',Ku h2 f3'];exact q2 xs ys hc.1 hc.2
     ·cases he
    ·cases he
   rw[e1,f1];split at hd
   ·cases he : vw n l m with|none=>simp[he] at hd|some e =>
     simp only[he,Option.map_some,Option.some.injEq,Prod.mk.injEq] at hd;obtain⟨rfl,rfl⟩:=hd;exact⟨.bool e,λw=>Tt x y (hgd cs.toArray ds.toArray w) (fin e he w) rfl,λW _=>⟨rfl,rfl⟩⟩
   ·cases he : vw n l m with|none=>simp[he] at hd|some e =>
     simp only[he,Option.map_some,Option.some.injEq,Prod.mk.injEq] at hd;obtain⟨rfl,rfl⟩:=hd;exact⟨.bool (!e),λw=>Tv x y (hgd cs.toArray ds.toArray w) (fin e he w) rfl,λW _=>⟨rfl,rfl⟩⟩
   ·cases hd
  ·cases hd
 ·cases hd
end
end
end Go.Proofs.YtghemgdfmldoeaaGreat
