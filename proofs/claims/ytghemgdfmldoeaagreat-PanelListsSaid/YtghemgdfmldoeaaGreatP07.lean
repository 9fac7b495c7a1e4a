import Derived.Test.YtghemgdfmldoeaaGreatP06
set_option linter.unusedVariables false
set_option linter.unusedSimpArgs false
namespace Go.Proofs.YtghemgdfmldoeaaGreat
open Go.RowKit
section
section
variable {P:Program} {V:World} {r:Nat->Nat} {k:Nat} {s s':St} {a:Act} {F S:World->Prop} {o:Oper} {W:World} {cm:Nat->List Value} {E:Env} {call:gw} {q q':List Bool} {v:AV} {ob:Ob}
theorem dH{x:Value}{m:Sem Value}(he:execOp a.eval o=do pure (.value (<- m)))(h:∀w,S w->m.run P w=.ok x w):Pu P S o a x:=λw hw=>by
 rw[he,Sem.run_bind,h w hw];rfl
theorem HT.evA(h:HT V r k s a F){x:Operand}{v:AV}(he:evA s x=some v):∀W,F W->bT V W r k v (a.eval x):=λW hW=>Ox (h.rt W hW) he
theorem aV.at:∀ {l:List V1} {xs:List Value} {i:Nat} {v:V1},aV V W r k l xs->l[i]? = some v->∃x,xs[i]? = some x/\au V W r k v x
 | [],_,_,_,_,h=>by simp at h|u::l,_,0,v,⟨x,ys,e,h1,h2⟩,h=>by
  simp only[List.getElem?_cons_zero,Option.some.injEq] at h;subst h e;exact⟨x,rfl,h1⟩|u::l,_,i+1,v,⟨x,ys,e,h1,h2⟩,h=>by
  subst e;obtain⟨y,h3,h4⟩:=aV.at (i:=i) h2 (by simpa using h);exact⟨y,by simpa using h3,h4⟩
theorem rX(n:Nat):goInt n=.int .i64 n:=rfl
theorem af.ints{L:List Int}{x:Value}(h:af V W r k (.ds L) [x]):jQ V L x:=by
 obtain⟨v,e,h⟩:=h;cases e;exact h
theorem xW:∀ {l:List It} {xs:List (Int×Nat)} {cs:List Value},jV l=some xs->aA V W r k l cs->cs=xs.map (λx=>Value.int .i64 x.1)/\∀x∈xs,x.1.natAbs<=x.2/\I64 x.1
 | [],_,_,h,e=>by cases h;cases e;exact⟨rfl,nofun⟩|i::l,_,_,h,⟨c,d,e,h1,h2⟩=>by
  unfold jV at h;split at h
  ·rename_i z r hz hr;cases h;obtain⟨k1,k2⟩:=xW hr h2;have k3:=MB (z:=z) hz h1;subst k3;obtain⟨_,k4⟩:=oG (z:=z.1) (B:=z.2) hz h1;subst e;rw[k1];exact⟨rfl,λx hx=>by rcases List.mem_cons.1 hx with rfl|hx;exact k4;exact k2 x hx⟩
  ·cases h
theorem OX:∀(l:List Nat) (a:Nat),a<=l.foldl max a/\∀x∈l,x<=l.foldl max a
 | [],a=>⟨Nat.le_refl _,nofun⟩|b::l,a=>by
  obtain⟨h1,h2⟩:=OX l (max a b);rw[List.foldl_cons];refine⟨by omega,λx hx=>?_⟩;rcases List.mem_cons.1 hx with rfl|hx
  ·omega
  ·exact h2 x hx
theorem zL{α:Type}{f:α->It}{g:α->Value}:∀ {l:List α},(∀a∈l,af V W r k (f a) [g a])->aA V W r k (l.map f) (l.map g)
 | [],_=>rfl|a::l,h=>⟨[g a],l.map g,rfl,h a (List.mem_cons_self ..),zL λb hb=>h b (List.mem_cons_of_mem _ hb)⟩
theorem a5N{l l':List It}{z:Int}{n len:Nat}{cs:List Value}(h:Ec l z n len=some l')(hr:fS V W r k l cs)(hz:0<=z/\z<len):aA V W r k l' ((cs.drop (z.toNat*n)).take n)/\z.toNat*n+n<=cs.length:=by
 unfold Ec at h;cases hx:jV l with|none=>simp[hx] at h|some xs =>
  simp only[hx,Option.bind_some] at h;split at h<;>cases h;rename_i hlen;obtain⟨c,d,e,h1,_⟩:=hr;obtain⟨k1,k2⟩:=xW hx h1;subst e k1;have hz2:z.toNat+1<=len:=by omega
  have hm:(z.toNat+1)*n<=xs.length:=Nat.le_trans (Nat.mul_le_mul_right n hz2) hlen;rw[Nat.succ_mul] at hm;refine⟨?_,by rw[List.length_append,List.length_map];omega⟩;have key:∀j,j<n->Dm xs z n len j=((xs[z.toNat*n+j]?).getD (0,0)).1:=by
   intro j _;unfold Dm;rw[List.getD_eq_getElem?_getD,List.getElem?_map,List.getElem?_range (by omega)];rfl
  have e2:((xs.map (λx=>Value.int .i64 x.1)++d).drop (z.toNat*n)).take n=(List.range n).map λj=>Value.int .i64 (Dm xs z n len j):=by
   apply List.ext_getElem?;intro j;rw[List.getElem?_take,List.getElem?_map];split
   ·rename_i hj;have hj2:z.toNat*n+j<xs.length:=by omega
    rw[List.getElem?_drop,List.getElem?_append_left (by rw[List.length_map];exact hj2),List.getElem?_map,List.getElem?_range hj,Option.map_some,key j hj,List.getElem?_eq_getElem hj2];rfl
   ·rename_i hj;rw[List.getElem?_eq_none (by simpa using hj)];rfl
  rw[e2];refine zL λj hj=>?_
  have hj:=List.mem_range.1 hj;have hj2:z.toNat*n+j<xs.length:=by omega
  have hmem:xs[z.toNat*n+j]∈xs:=List.getElem_mem hj2;obtain⟨g1,g2⟩:=k2 _ hmem;rw[key j hj,List.getElem?_eq_getElem hj2];exact⟨rfl,Nat.le_trans g1 ((OX _ 0).2 _ (List.mem_map.2 ⟨_,hmem,rfl⟩)),g2⟩
theorem Py{t:TypeId}{l:List It}{z:Int}{n len:Nat}{v:V1}{cs:List Value}(h:B9 P t l z n len=some v)(hr:fS V W r k l cs)(hz:0<=z/\z<len):bV P t=some n/\jU P t=some v.g/\aA V W r k v.l ((cs.drop (z.toNat*n)).take n)/\z.toNat*n+n<=cs.length/\(v.g=false->n=1):=by
 unfold B9 at h;split at h
 ·rename_i n' g hn hg;split at h
  ·rename_i hc;cases hq:Ec l z n len with|none=>simp[hq] at h|some y =>
    simp only[hq,Option.map_some,Option.some.injEq] at h;subst h;obtain⟨k1,k2⟩:=a5N hq hr hz;refine⟨by rw[hn,hc.1],hg,k1,k2,λe=>?_⟩;have:=hc.2;simp only at e;rw[e] at this;simpa using this
  ·cases h
 ·cases h
theorem eb.sl{V W:World}{r:Nat->Nat}{k:Nat}{T:TypeId}{z n:Nat}{f:Nat->List It}{v:Value}:eb V W r k T z n f v->∃p c,v=.slice p n c/\n<=maxLen
 | .inl ⟨e,hn⟩=>by subst hn;exact⟨_,_,e,Nat.zero_le _⟩|.inr ⟨_,_,_,e,_,_,h1,h2,_⟩=>⟨_,_,e,Nat.le_trans h1 h2⟩
theorem NK{V:World}:∀ {l:List It} {n:Nat} {a b:List It} {cs:List Value},bE l n=some (a,b)->cE V l cs->cE V a (cs.take n)/\cE V b (cs.drop n)/\n<=cs.length
 | [],0,_,_,_,h,e=>by unfold bE at h;cases h;cases e;exact⟨rfl,rfl,Nat.le_refl _⟩|[],n+1,_,_,_,h,_=>by unfold bE at h;cases h|i::l,0,_,_,cs,h,e=>by unfold bE at h;cases h;exact⟨rfl,e,Nat.zero_le _⟩|i::l,n+1,a,b,cs,h,⟨c,d,e,h1,h2⟩=>by
  unfold bE at h;split at h
  ·rename_i hle;split at h
   ·rename_i x y hc;cases h;obtain⟨k1,k2,k3⟩:=NK hc h2;have hl:=(h1.to (V:=V) (r:=λ_=>0) (k:=0)).2.cells.1;subst e;have e1:List.take (n+1) (c++d)=c++d.take (n+1-i.n):=by rw[List.take_append,List.take_of_length_le (by omega),hl]
    have e2:List.drop (n+1) (c++d)=d.drop (n+1-i.n):=by rw[List.drop_append,List.drop_eq_nil_of_le (by omega),hl];rfl
    rw[e1,e2];exact⟨⟨c,_,rfl,h1,k1⟩,k2,by rw[List.length_append];omega⟩
   ·cases h
  ·cases h
theorem HT.gp(h:HT V r k s a F){x:Operand}{T:TypeId}{l:List It}(he:Go.Proofs.YtghemgdfmldoeaaGreat.evI s x=some (.gp T l)):∀W,F W->m6 V W r k T l (a.eval x):=λW hW=>by
 obtain⟨v,e,hv⟩:=h.evI he W hW;cases e;exact hv
theorem m6.cut{V W:World}{r:Nat->Nat}{k n:Nat}{T:TypeId}{l a b:List It}{g j:Nat}(hq:bE l n=some (a,b)):m6 V W r k T l (.pointer (some ⟨g,j,none⟩))->m6 V W r k T b (.pointer (some ⟨g,j+n,none⟩))
 | ⟨_,_,xs,fr,e,e6,e2,e5,c,d,e3,e4⟩=>by
  cases e;obtain⟨k1,k2,k3⟩:=NK hq e4;refine⟨g,j+n,xs,fr,rfl,e6,e2,?_,c.drop n,d,?_,k2⟩
  ·have := congrArg List.length e3;rw[List.length_drop,List.length_append] at this;simp only[Array.length_toList] at this;omega
  ·rw[<- List.drop_drop,e3,List.drop_append_of_le_length k3]
theorem HT.ol(h:HT V r k s a F){x:Operand}{T:TypeId}{z n:Nat}{f:Nat->List It}(he:Go.Proofs.YtghemgdfmldoeaaGreat.evI s x=some (.ol T z n f)):∀W,F W->eb V W r k T z n f (a.eval x):=λW hW=>by
 obtain⟨v,e,hv⟩:=h.evI he W hW;cases e;exact hv
theorem HT.asI(h:HT V r k s a F){x:Operand}{j:It}{z:Int}{B:Nat}(he:Go.Proofs.YtghemgdfmldoeaaGreat.evI s x=some j)(hj:Go.Proofs.YtghemgdfmldoeaaGreat.asI j=some (z,B)):a.eval x=.int .i64 z:=by
 obtain⟨W0,h0⟩:=h.ex;exact (oG hj (h.evI he W0 h0)).1
theorem Ie{V:World}:∀ {l:List (Int×Nat)},(∀x∈l,x.1.natAbs<=x.2/\I64 x.1)->cE V (uc l) (l.map λx=>Value.int .i64 x.1)
 | [],_=>rfl|_::_,h=>⟨[_],_,rfl,⟨rfl,h _ (List.mem_cons_self ..)⟩,Ie λx hx=>h x (List.mem_cons_of_mem _ hx)⟩
theorem UZ(h:HT V r k s a F){b:Builtin}{xs:List Operand}{l:List V1}{i:It}{ps:List Prop}{ts:Array TypeId}(hl:qm s xs=some l)(hd:sC P b ts.toList l=some (i,ps))(t:TypeId)(cs:Array Bool) :
  ∃z,(∀w,(builtin b ts t cs (xs.map a.eval).toArray).run P w=.ok (.value z) w)/\∀W,F W->af V W r k i [z]:=by
 obtain⟨W0,h0⟩:=h.ex;have hr:=mC (h.rt W0 h0) hl;unfold sC at hd;split at hd<;>(try (cases hd;done))
 ·split at hd <;> (try (cases hd; done));rename_i p q xz A yz B hx hy;obtain⟨x,_,e1,h1,y,_,e2,h2,e3⟩:=hr;subst e3 e2;obtain⟨rfl,c2⟩:=oG hx h1.scal;obtain⟨rfl,c4⟩:=oG hy h2.scal;rw[e1];split at hd<;>cases hd
  ·exact⟨_,λw=>by simp[builtin,a5s],λW _=>⟨rfl,by omega,by have:=c2.2;have:=c4.2;unfold I64 at *;omega⟩⟩
  ·exact⟨_,λw=>by simp[builtin,a5u],λW _=>⟨rfl,by omega,by have:=c2.2;have:=c4.2;unfold I64 at *;omega⟩⟩
 ·split at hd <;> (try (cases hd; done));rename_i p q r' l' _ xz A yz B zz C uz D hx hy hz hu;cases hd;obtain⟨x,_,e1,h1,y,_,e2,h2,z,_,e3,h3,u,_,e4,h4,e5⟩:=hr;subst e5 e4 e3 e2;obtain⟨rfl,c1⟩:=oG hx h1.scal;obtain⟨rfl,c2⟩:=oG hy h2.scal;obtain⟨rfl,c3⟩:=oG hz h3.scal;obtain⟨rfl,c4⟩:=oG hu h4.scal;rw[e1];exact⟨_,λw=>by simp[builtin,a5t],λW _=>⟨rfl,by omega,by have:=c1.2;have:=c2.2;have:=c3.2;have:=c4.2;unfold I64 at *;omega⟩⟩
 ·split at hd <;> (try (cases hd; done));rename_i ty hts;obtain⟨x,_,e1,h1,e3⟩:=hr;cases e3;rw[e1];have ht0:ts[0]? = some ty:=by rw[<- Array.getElem?_toList,hts];rfl
  split at hd<;>(try (cases hd;done))
  ·rename_i e b' n z hu;split at hd<;>cases hd;rename_i hlt;obtain⟨_,c,xs',T,e4,_⟩:=h1.scal;obtain rfl:x=_:=by simpa using e4
   refine⟨.int .i64 n,λw=>?_,λW _=>⟨rfl,lH (by omega)⟩⟩;simp[builtin,Builtin.len_,ht0,run_underlying hu,rX]
  ·rename_i e o' l' n z hu;split at hd<;>cases hd;rename_i hlt;obtain⟨g,q,xs',T,e4,_⟩:=h1.scal;obtain rfl:x=_:=by simpa using e4
   refine⟨.int .i64 n,λw=>?_,λW _=>⟨rfl,lH (by omega)⟩⟩;simp[builtin,Builtin.len_,ht0,run_underlying hu,rX]
  ·rename_i e L hu;cases hd;obtain⟨p,len,c,rfl,e4,_⟩:=h1.scal.ints;have hb:=e4.2.1;rw[<- e4.1];refine⟨.int .i64 len,λw=>?_,λW _=>⟨rfl,by unfold lim;omega,by unfold I64;omega⟩⟩;simp[builtin,Builtin.len_,ht0,run_underlying hu,rX]
  ·rename_i e n hu;cases hd;obtain⟨p,c,e4,hb⟩:=h1.scal;obtain rfl:x=_:=by simpa using e4
   refine⟨.int .i64 n,λw=>?_,λW _=>⟨rfl,by unfold lim;omega,by unfold I64;omega⟩⟩;simp[builtin,Builtin.len_,ht0,run_underlying hu,rX]
  ·rename_i e z n f hu;cases hd;obtain⟨v,e4,p,c,e5,hb,hm,_⟩:=h1.scal;obtain rfl:x=_:=by simpa using e4
   subst e5;unfold maxLen at hm;refine⟨.int .i64 n,λw=>?_,λW _=>⟨rfl,by unfold lim;omega,by unfold I64;omega⟩⟩;simp[builtin,Builtin.len_,ht0,run_underlying hu,rX]
  ·rename_i e T z n f hu;cases hd;obtain⟨v,e4,h5⟩:=h1.scal;obtain rfl:x=_:=by simpa using e4
   obtain⟨p,c,rfl,hm⟩:=h5.sl;unfold maxLen at hm;refine⟨.int .i64 n,λw=>?_,λW _=>⟨rfl,by unfold lim;omega,by unfold I64;omega⟩⟩;simp[builtin,Builtin.len_,ht0,run_underlying hu,rX]
  ·rename_i e n f hu;cases hd;obtain⟨v,e4,p,c,e5,hb,hm,_⟩:=h1.scal;obtain rfl:x=_:=by simpa using e4
   subst e5;unfold maxLen at hm;refine⟨.int .i64 n,λw=>?_,λW _=>⟨rfl,by unfold lim;omega,by unfold I64;omega⟩⟩;simp[builtin,Builtin.len_,ht0,run_underlying hu,rX]
  ·rename_i e n f hu;cases hd;obtain⟨v,e4,p,c,e5,hb,hm,_⟩:=h1.scal;obtain rfl:x=_:=by simpa using e4
   subst e5;unfold maxLen at hm;refine⟨.int .i64 n,λw=>?_,λW _=>⟨rfl,by unfold lim;omega,by unfold I64;omega⟩⟩;simp[builtin,Builtin.len_,ht0,run_underlying hu,rX]
  ·rename_i e hu;cases hd;obtain rfl:x=_:=by simpa using h1.scal.1
   refine⟨.int .i64 0,λw=>?_,λW _=>⟨rfl,by unfold I64;omega⟩⟩;simp[builtin,Builtin.len_,ht0,run_underlying hu,goInt]
theorem HT.fp(h:HT V r k s a F){x:Operand}{l:List It}(he:Go.Proofs.YtghemgdfmldoeaaGreat.evI s x=some (.fp l)):∃g o xs,∃T:TypeId×(Nat×Nat),a.eval x=.pointer (some ⟨g,o,none⟩)/\V.heap[g]? = some (.cells xs T.1 T.2)/\o<=xs.size/\∃c d,xs.toList.drop o=c++d/\aE V l c:=by
 obtain⟨W0,h0⟩:=h.ex;obtain⟨g,o,xs,T,e,h1,h2⟩:=h.evI he W0 h0;exact⟨g,o,xs,T,by simpa using e,h1,h2⟩
theorem BX{W:World}{g o n:Nat}{xs:Array Value}{T:TypeId×(Nat×Nat)}{l:List It}{c d:List Value}(h1:V.heap[g]? = some (.cells xs T.1 T.2))(h2:o<=xs.size)(h3:xs.toList.drop o=c++d)(h4:aE V l (c.drop n))(h5:n<=c.length):af V W r k (.fp l) [.pointer (some ⟨g,o+n,none⟩)]:=by
 refine⟨g,o+n,xs,T,rfl,h1,?_,c.drop n,d,?_,h4⟩
 ·have := congrArg List.length h3;rw[List.length_drop,List.length_append] at this;simp only[Array.length_toList] at this;omega
 ·rw[<- List.drop_drop,h3,List.drop_append_of_le_length h5]
theorem Rh(h:HT V r k s a F):∀ {xs:List Operand} {l:List (Nat×Nat)},Dx s xs=some l->(∀p∈l,p.1<k)/\xs.map a.eval=l.map λp=>Value.pointer (some ⟨r p.1,p.2,none⟩)
 | [],_,e=>by cases e;exact⟨nofun,rfl⟩|x::xs,l,e=>by
  unfold Dx at e;split at e
  ·rename_i b o r' hx hr;cases e;obtain⟨k1,k2⟩:=Rh h hr;obtain⟨k3,k4⟩:=h.ptr hx;refine⟨λp hp=>?_,by rw[List.map_cons,k4,k2];rfl⟩;rcases List.mem_cons.1 hp with rfl|hp
   ·exact k3
   ·exact k1 p hp
  ·cases e
theorem a7o{t:TypeId}{z:List It}(h:EF P t=some z):∃i cs,P.info? t=some i/\i.zero=some (.agg cs)/\mV cs.toList=some z:=by
 unfold EF at h;cases hi:P.info? t with|none=>simp[hi] at h|some i =>
  cases hz:i.zero with|none=>simp[hi,hz] at h|some v =>
   simp only[hi,hz,Option.bind_some] at h;split at h
   ·exact⟨i,_,rfl,hz,h⟩
   ·cases h
theorem AG(hE:∀t n,E.eq.lookup t=some n->kq P t n)(hG:s.al=0->∃w0,F w0/\(∀w,S w->ac w0 w)/\∀w,F w->ac w0 w)(h:HT V r s.m.length s a F)(hm:∀b m,mb s.m b=some m->∀W,F W->fS V W r s.m.length m.l (cm b))(hV:∀w,S w->ac V w)(hk:av o=0)
  (hd:oC P E call o s q=some (v,s',ob,q')) (hp:aw ob.ps) (hS:∀b m,b∈ob.ld->mb s.m b=some m->∀w,S w->w.heap[r b]? = some (.cells (cm b).toArray m.T)) :
  s'=s/\ob.st=[]/\∃x,Pu P S o a x/\∀W,F W->bT V W r s.m.length v x:=by
 obtain⟨W0,h0⟩:=h.ex;unfold oC at hd;split at hd
 ·
  rename_i x ho;cases hq:Go.Proofs.YtghemgdfmldoeaaGreat.evA s x with|none=>simp[hq] at hd|some u =>
   simp only[hq,Option.map_some,Option.some.injEq,Prod.mk.injEq] at hd;obtain⟨rfl,rfl,rfl,rfl⟩:=hd;exact⟨rfl,rfl,_,λw _=>by unfold execOp;rw[ho];rfl,h.evA hq⟩
 ·rename_i x ho;cases hq:Go.Proofs.YtghemgdfmldoeaaGreat.evA s x with|none=>simp[hq] at hd|some u =>
   simp only[hq,Option.map_some,Option.some.injEq,Prod.mk.injEq] at hd;obtain⟨rfl,rfl,rfl,rfl⟩:=hd;exact⟨rfl,rfl,_,λw _=>by unfold execOp;rw[ho];rfl,h.evA hq⟩
 ·
  rename_i c x y ho;have fin:∀(b:Bool) (z:Operand) (u:AV),a.eval c=.bool b->(if b then a.eval x else a.eval y)=a.eval z->Go.Proofs.YtghemgdfmldoeaaGreat.evA s z=some u->∃x,Pu P S o a x/\∀W,F W->bT V W r s.m.length u x:=by
   intro b z u h1 h2 h3;refine⟨a.eval z,λw _=>?_,h.evA h3⟩;unfold execOp;simp only[ho,h1,asBool,Sem.run_bind,Sem.run_pure,Result.andThen_ok,<- h2]
  split at hd
  ·rename_i hc;cases hq:Go.Proofs.YtghemgdfmldoeaaGreat.evA s x with|none=>simp[hq] at hd|some u =>
    simp only[hq,Option.map_some,Option.some.injEq,Prod.mk.injEq] at hd;obtain⟨rfl,rfl,rfl,rfl⟩:=hd;exact⟨rfl,rfl,fin true x _ (h.bln hc) rfl hq⟩
  ·rename_i hc;cases hq:Go.Proofs.YtghemgdfmldoeaaGreat.evA s y with|none=>simp[hq] at hd|some u =>
    simp only[hq,Option.map_some,Option.some.injEq,Prod.mk.injEq] at hd;obtain⟨rfl,rfl,rfl,rfl⟩:=hd;exact⟨rfl,rfl,fin false y _ (h.bln hc) rfl hq⟩
  ·rename_i b hc;split at hd
   ·cases hq : Go.Proofs.YtghemgdfmldoeaaGreat.evA s x with|none=>simp[hq] at hd|some u =>
     simp only[hq,Option.map_some,Option.some.injEq,Prod.mk.injEq] at hd;obtain⟨rfl,rfl,rfl,rfl⟩:=hd;exact⟨rfl,rfl,fin true x _ (by rw[h.val hc,hp.1]) rfl hq⟩
   ·cases hq : Go.Proofs.YtghemgdfmldoeaaGreat.evA s y with|none=>simp[hq] at hd|some u =>
     simp only[hq,Option.map_some,Option.some.injEq,Prod.mk.injEq] at hd;obtain⟨rfl,rfl,rfl,rfl⟩:=hd;exact⟨rfl,rfl,fin false y _ (by rw[h.val hc,hp.1]) rfl hq⟩
   ·cases hd
  ·cases hd
 ·rename_i ho;simp[av,ho] at hk
 ·rename_i ho;simp[av,ho] at hk
 ·
  rename_i t ps ho;split at hd
  ·rename_i z l pl hz hl hpl;cases hf:fills pl z l with|none=>simp[hf] at hd|some c =>
    simp only[hf,Option.map_some,Option.some.injEq,Prod.mk.injEq] at hd;obtain⟨rfl,rfl,rfl,rfl⟩:=hd;obtain⟨i,zv,i1,i2,i3⟩:=uU hz;obtain⟨ds,k1,k2⟩:=h.evPs hl hf (cs:=zv.cells.toList) (λW _=>pK i3);refine⟨rfl,rfl,.agg ds.toArray,dH (m:=Instr.build t (ps.map λ(i,x)=>(i,a.eval x))) (by unfold execOp;rw[ho]) (λw _=>?_),λW hW=>⟨ds,k2 W hW,rfl,nofun⟩⟩;refine run_build w t _ _ ?_;rw[V4 hpl i1 i2];have:(ps.map λ(i,x)=>(i,a.eval x)).toList=ps.toList.map λx=>(x.1,a.eval x.2):=by simp
    rw[this];exact k1
  ·cases hd
 ·
  rename_i t x ho;split at hd
  ·rename_i b j hx;split at hd
   ·rename_i m hb;cases hq:kg P t m.l j with|none=>simp[hq] at hd|some u =>
     simp only[hq,Option.map_some,Option.some.injEq,Prod.mk.injEq] at hd;obtain⟨rfl,rfl,rfl,rfl⟩:=hd;obtain⟨n,p1,p2,p3,p4,p5⟩:=I6 hq (hm b m hb W0 h0);refine⟨rfl,rfl,dj u.g (((cm b).drop j).take n),dH (m:=Instr.loadAt t (a.eval x)) (by unfold execOp;rw[ho]) (λw hw=>?_),λW hW=>?_⟩
     ·rw [(h.ptr hx).2];simp only[Instr.loadAt,Instr.sureAddr,Sem.run_bind,Sem.run_pure,Result.andThen_ok];exact pG (hS b m (by simp) hb w hw) p1 p2 p4 p5
     ·obtain ⟨n', q1, q2, q3, q4, q5⟩ := I6 hq (hm b m hb W hW);obtain rfl:n'=n:=by rw[p1] at q1;exact (Option.some.inj q1).symm
      exact⟨_,q3,rfl,λe=>by have:=q5 e;simp;omega⟩
   ·cases hd
  ·rename_i l hx;cases hq:kg P t l 0 with|none=>simp[hq] at hd|some u =>
    simp only[hq,Option.map_some,Option.some.injEq,Prod.mk.injEq] at hd;obtain⟨rfl,rfl,rfl,rfl⟩:=hd;obtain⟨g,j,xs,T,e1,e2,e5,c,d,e3,e4⟩:=h.fp hx;obtain⟨n,p1,p2,p3,p4,p5⟩:=a20 hq e4;refine⟨rfl,rfl,dj u.g ((c.drop 0).take n),dH (m:=Instr.loadAt t (a.eval x)) (by unfold execOp;rw[ho]) (λw hw=>?_),λW hW=>⟨_,p3.up,rfl,λe=>by have:=p5 e;simp;omega⟩⟩;rw[e1];simp only[Instr.loadAt,Instr.sureAddr,Sem.run_bind,Sem.run_pure,Result.andThen_ok];have hlen:j+n<=xs.toList.length:=by
     have:=congrArg List.length e3;rw[List.length_drop,List.length_append] at this;simp only[Array.length_toList] at *;omega
    have:=pG (P:=P) (W:=w) (cs:=xs.toList) (aH (by simpa using e2) (hV w hw)) p1 p2 hlen p5;rw[this,e3,List.drop_zero,List.take_append_of_le_length (by omega)]
  ·rename_i T l hx;split at hd
   ·rename_i hal;obtain⟨w0,hw0,hS0,hF0⟩:=hG hal;cases hq:kg P t l 0 with|none=>simp[hq] at hd|some u =>
     simp only[hq,Option.map_some,Option.some.injEq,Prod.mk.injEq] at hd;obtain⟨rfl,rfl,rfl,rfl⟩:=hd;obtain⟨g,j,xs,fr,e1,_,e2,e5,c,d,e3,e4⟩:=h.gp hx w0 hw0;obtain⟨n,p1,p2,p3,p4,p5⟩:=wn (V:=V) (r:=r) (k:=s.m.length) hq e4.toL;refine⟨rfl,rfl,dj u.g ((c.drop 0).take n),dH (m:=Instr.loadAt t (a.eval x)) (by unfold execOp;rw[ho]) (λw hw=>?_),λW hW=>?_⟩
     ·have hx0 := hS0 w hw;rw[e1];simp only[Instr.loadAt,Instr.sureAddr,Sem.run_bind,Sem.run_pure,Result.andThen_ok];have hlen:j+n<=xs.toList.length:=by
       have:=congrArg List.length e3;rw[List.length_drop,List.length_append] at this;simp only[Array.length_toList] at *;omega
      have:=pG (P:=P) (W:=w) (cs:=xs.toList) (aH (by simpa using e2) hx0) p1 p2 hlen p5;rw[this,e3,List.drop_zero,List.take_append_of_le_length (by omega)]
     ·exact⟨_,p3.imp (af.ext (hF0 W hW)),rfl,λe=>by have:=p5 e;simp;omega⟩
   ·cases hd
  ·rename_i b z n len hx;split at hd
   ·rename_i m hb;cases hq:B9 P t m.l z n len with|none=>simp[hq] at hd|some u =>
     simp only[hq,Option.map_some,Option.some.injEq,Prod.mk.injEq] at hd;obtain⟨rfl,rfl,rfl,rfl⟩:=hd;obtain⟨x1,x2⟩:=h.evI hx W0 h0;have x2:a.eval x=.pointer (some ⟨r b,z.toNat*n,none⟩):=by simpa using x2
     obtain⟨p1,p2,p3,p4,p5⟩:=Py hq (hm b m hb W0 h0) x1.2;refine⟨rfl,rfl,dj u.g (((cm b).drop (z.toNat*n)).take n),dH (m:=Instr.loadAt t (a.eval x)) (by unfold execOp;rw[ho]) (λw hw=>?_),λW hW=>?_⟩
     ·rw [x2];simp only[Instr.loadAt,Instr.sureAddr,Sem.run_bind,Sem.run_pure,Result.andThen_ok];exact pG (hS b m (by simp) hb w hw) p1 p2 p4 p5
     ·obtain ⟨_, _, q3, q4, q5⟩ := Py hq (hm b m hb W hW) x1.2;exact⟨_,q3,rfl,λe=>by have:=q5 e;simp;omega⟩
   ·cases hd
  ·cases hd
 ·rename_i ho;simp[av,ho] at hk
 ·
  rename_i t x f ho;split at hd
  ·rename_i b j kk ft hx hf;split at hd
   ·rename_i n hn;simp only[Option.some.injEq,Prod.mk.injEq] at hd;obtain⟨rfl,rfl,rfl,rfl⟩:=hd;obtain⟨fs,fd,f1,f2,f3,f4⟩:=tQ hf;refine⟨rfl,rfl,.pointer (some ⟨r b,j+kk,none⟩),dH (m:=Instr.fieldAt t (a.eval x) f) (by unfold execOp;rw[ho]) (λw _=>?_),λW hW=>af.val (i:=.p b (j+kk)) ⟨(h.ptr hx).1,rfl⟩⟩;rw[(h.ptr hx).2];simp only[Instr.fieldAt,Sem.run_bind,run_underlying f1,Result.andThen_ok,f2,Instr.sureAddr,Sem.run_pure,fieldPlace,f4,fP hn,if_neg (Nat.succ_ne_zero n),f3,Addr.add_mid]
   ·cases hd
  ·rename_i l kk ft hx hf;split at hd
   ·rename_i n hn;cases hq:bE l kk with|none=>simp[hq] at hd|some z =>
     obtain⟨u1,u2⟩:=z;simp only[hq,Option.map_some,Option.some.injEq,Prod.mk.injEq] at hd;obtain⟨rfl,rfl,rfl,rfl⟩:=hd;obtain⟨fs,fd,f1,f2,f3,f4⟩:=tQ hf;obtain⟨g,j,xs,T,e1,e2,e5,c,d,e3,e4⟩:=h.fp hx;obtain⟨k1,k2,k3⟩:=rJ hq e4;refine⟨rfl,rfl,.pointer (some ⟨g,j+kk,none⟩),dH (m:=Instr.fieldAt t (a.eval x) f) (by unfold execOp;rw[ho]) (λw _=>?_),λW hW=>af.val (i:=.fp u2) (BX e2 e5 e3 k2 k3)⟩;rw[e1];simp only[Instr.fieldAt,Sem.run_bind,run_underlying f1,Result.andThen_ok,f2,Instr.sureAddr,Sem.run_pure,fieldPlace,f4,fP hn,if_neg (Nat.succ_ne_zero n),f3,Addr.add_mid]
   ·cases hd
  ·rename_i T l kk ft hx hf;split at hd
   ·rename_i n hn;cases hq:bE l kk with|none=>simp[hq] at hd|some z =>
     obtain⟨u1,u2⟩:=z;simp only[hq,Option.map_some,Option.some.injEq,Prod.mk.injEq] at hd;obtain⟨rfl,rfl,rfl,rfl⟩:=hd;obtain⟨fs,fd,f1,f2,f3,f4⟩:=tQ hf;obtain⟨g,j,_,_,e1,_⟩:=h.gp hx W0 h0;refine⟨rfl,rfl,.pointer (some ⟨g,j+kk,none⟩),dH (m:=Instr.fieldAt t (a.eval x) f) (by unfold execOp;rw[ho]) (λw _=>?_),λW hW=>af.val (i:=.gp T u2) ⟨_,rfl,?_⟩⟩
     ·rw [e1];simp only[Instr.fieldAt,Sem.run_bind,run_underlying f1,Result.andThen_ok,f2,Instr.sureAddr,Sem.run_pure,fieldPlace,f4,fP hn,if_neg (Nat.succ_ne_zero n),f3,Addr.add_mid]
     ·have := h.gp hx W hW;rw[e1] at this;exact this.cut hq
   ·cases hd
  ·cases hd
 ·
  rename_i t x f ho;split at hd
  ·rename_i u kk ft hx hf;split at hd
   ·rename_i hg;cases hq:kg P ft u.l kk with|none=>simp[hq] at hd|some y =>
     simp only[hq,Option.map_some,Option.some.injEq,Prod.mk.injEq] at hd;obtain⟨rfl,rfl,rfl,rfl⟩:=hd;obtain⟨cs,e1,e2,e3⟩:=h.evV hx;obtain⟨fs,fd,f1,f2,f3,f4⟩:=tQ hf;obtain⟨n,p1,p2,p3,p4,p5⟩:=wn hq (e3 W0 h0);refine⟨rfl,rfl,dj y.g ((cs.drop kk).take n),dH (m:=Instr.field t (a.eval x) f) (by unfold execOp;rw[ho]) (λw _=>?_),λW hW=>?_⟩
     ·rw [e1, hg];simp only[Instr.field,Sem.run_bind,run_underlying f1,Result.andThen_ok,f2,dj,if_true,asAgg,Sem.run_pure,f4,f3];exact D9 p1 p2 p4 p5
     ·obtain ⟨n', q1, q2, q3, q4, q5⟩ := wn hq (e3 W hW);obtain rfl:n'=n:=by rw[p1] at q1;exact (Option.some.inj q1).symm
      exact⟨_,q3,rfl,λe=>by have:=q5 e;simp;omega⟩
   ·cases hd
  ·cases hd
 ·
  rename_i t x ix ho;split at hd
  ·rename_i len e b j i hu hx hi;split at hd
   ·rename_i n hn;split at hd
    ·rename_i hb;simp only[Option.some.injEq,Prod.mk.injEq] at hd;obtain⟨rfl,rfl,rfl,rfl⟩:=hd;refine⟨rfl,rfl,.pointer (some ⟨r b,j+i.toNat*n,none⟩),dH (m:=Instr.indexAt t (a.eval x) (a.eval ix)) (by unfold execOp;rw[ho]) (λw _=>?_),λW hW=>af.val (i:=.p b _) ⟨(h.ptr hx).1,rfl⟩⟩;rw[(h.ptr hx).2,(h.kint hi).1];simp[Instr.indexAt,asIntOf,run_underlying hu,Instr.sureAddr,hb,fP hn,Addr.add_mid]
    ·cases hd
   ·cases hd
  ·rename_i len e l i hu hx hi;split at hd
   ·rename_i n hn;split at hd
    ·rename_i hb;cases hq:bE l (i.toNat*n) with|none=>simp[hq] at hd|some z =>
      obtain⟨u1,u2⟩:=z;simp only[hq,Option.map_some,Option.some.injEq,Prod.mk.injEq] at hd;obtain⟨rfl,rfl,rfl,rfl⟩:=hd;obtain⟨g,j,xs,T,e1,e2,e5,c,d,e3,e4⟩:=h.fp hx;obtain⟨k1,k2,k3⟩:=rJ hq e4;refine⟨rfl,rfl,.pointer (some ⟨g,j+i.toNat*n,none⟩),dH (m:=Instr.indexAt t (a.eval x) (a.eval ix)) (by unfold execOp;rw[ho]) (λw _=>?_),λW hW=>af.val (i:=.fp u2) (BX e2 e5 e3 k2 k3)⟩;rw[e1,(h.kint hi).1];simp[Instr.indexAt,asIntOf,run_underlying hu,Instr.sureAddr,hb,fP hn,Addr.add_mid]
    ·cases hd
   ·cases hd
  ·rename_i e b len z i hu hx hi;split at hd
   ·rename_i hb;simp only[Option.some.injEq,Prod.mk.injEq] at hd;obtain⟨rfl,rfl,rfl,rfl⟩:=hd;obtain⟨q0,c,xs,T,q1,q2,q3,q4,q5⟩:=h.evI hx W0 h0;have q1:a.eval x=.slice (some ⟨r b,0,none⟩) len c:=by simpa using q1
    refine⟨rfl,rfl,.pointer (some ⟨r b,i.toNat*z,none⟩),dH (m:=Instr.indexAt t (a.eval x) (a.eval ix)) (by unfold execOp;rw[ho]) (λw _=>?_),λW hW=>af.val (i:=.p b _) ⟨q0,rfl⟩⟩;rw[q1,(h.kint hi).1];simp[Instr.indexAt,asIntOf,run_underlying hu,hb.2,fP hb.1,Addr.add_mid]
   ·cases hd
  ·rename_i e b len z i B hu hx hi;split at hd
   ·rename_i hb;simp only[Option.some.injEq,Prod.mk.injEq] at hd;obtain⟨rfl,rfl,rfl,rfl⟩:=hd;obtain⟨q0,c,xs,T,q1,q2,q3,q4,q5⟩:=h.evI hx W0 h0;have q1:a.eval x=.slice (some ⟨r b,0,none⟩) len c:=by simpa using q1
    have hp1:0<=i/\i<len:=hp.1;refine⟨rfl,rfl,.pointer (some ⟨r b,i.toNat*z,none⟩),dH (m:=Instr.indexAt t (a.eval x) (a.eval ix)) (by unfold execOp;rw[ho]) (λw _=>?_),λW hW=>af.val (i:=.px b _ _ _) ⟨⟨q0,hp1⟩,rfl⟩⟩;rw[q1,(h.int hi).1];simp[Instr.indexAt,asIntOf,run_underlying hu,hp1,fP hb,Addr.add_mid]
   ·cases hd
  ·rename_i e j l len z i hu hx hi;split at hd
   ·rename_i hb;cases hq:bE l (i.toNat*z) with|none=>simp[hq] at hd|some zz =>
     obtain⟨u1,u2⟩:=zz;simp only[hq,Option.map_some,Option.some.injEq,Prod.mk.injEq] at hd;obtain⟨rfl,rfl,rfl,rfl⟩:=hd;obtain⟨g,q,xs,T,q1,q2,q3,q4,q5,c,d,q6,q7,q8⟩:=h.evI hx W0 h0;have q1:a.eval x=.slice (some ⟨g,j,none⟩) len q:=by simpa using q1
     obtain⟨k1,k2,k3⟩:=rJ hq q7;refine⟨rfl,rfl,.pointer (some ⟨g,j+i.toNat*z,none⟩),dH (m:=Instr.indexAt t (a.eval x) (a.eval ix)) (by unfold execOp;rw[ho]) (λw _=>?_),λW hW=>af.val (i:=.fp u2) (BX q2 q5 q6 k2 k3)⟩;rw[q1,(h.kint hi).1];simp[Instr.indexAt,asIntOf,run_underlying hu,hb.2,fP hb.1,Addr.add_mid]
   ·cases hd
  ·rename_i e z n f i hu hx hi;split at hd
   ·rename_i hb;simp only[Option.some.injEq,Prod.mk.injEq] at hd;obtain⟨rfl,rfl,rfl,rfl⟩:=hd;have hp1:0<=i/\i<n:=hp.1;obtain⟨v,q0,p,c,q1,q2,q3,q4⟩:=h.evI hx W0 h0;obtain⟨g,j,xs,T,k1,k2,k3,cs,d,k4,k5⟩:=q4 i.toNat (by omega);have q1:a.eval x=.slice (some ⟨g,j,none⟩) n c:=by rw[<- k1,<- q1];simpa using q0
    refine⟨rfl,rfl,.pointer (some ⟨g,j+i.toNat*z,none⟩),dH (m:=Instr.indexAt t (a.eval x) (a.eval ix)) (by unfold execOp;rw[ho]) (λw _=>?_),λW hW=>af.val (i:=.fp _) ⟨g,_,xs,T,rfl,k2,k3,cs,d,k4,k5⟩⟩;rw[q1,(h.kint hi).1];simp[Instr.indexAt,asIntOf,run_underlying hu,hp1,fP hb,Addr.add_mid]
   ·cases hd
  ·rename_i e z n f i B hu hx hi;split at hd
   ·rename_i hb;simp only[Option.some.injEq,Prod.mk.injEq] at hd;obtain⟨rfl,rfl,rfl,rfl⟩:=hd;have hp1:0<=i/\i<n:=hp.1;obtain⟨v,q0,p,c,q1,q2,q3,q4⟩:=h.evI hx W0 h0;obtain⟨g,j,xs,T,k1,k2,k3,cs,d,k4,k5⟩:=q4 i.toNat (by omega);have q1:a.eval x=.slice (some ⟨g,j,none⟩) n c:=by rw[<- k1,<- q1];simpa using q0
    refine⟨rfl,rfl,.pointer (some ⟨g,j+i.toNat*z,none⟩),dH (m:=Instr.indexAt t (a.eval x) (a.eval ix)) (by unfold execOp;rw[ho]) (λw _=>?_),λW hW=>af.val (i:=.fp _) ⟨g,_,xs,T,rfl,k2,k3,cs,d,k4,k5⟩⟩;rw[q1,(h.int hi).1];simp[Instr.indexAt,asIntOf,run_underlying hu,hp1,fP hb,Addr.add_mid]
   ·cases hd
  ·rename_i e T z n f j hu hx hi;split at hd
   ·rename_i i B hj;split at hd
    ·rename_i hb;simp only[Option.some.injEq,Prod.mk.injEq] at hd;obtain⟨rfl,rfl,rfl,rfl⟩:=hd;have hp1:0<=i/\i<n:=hp.1;rcases h.ol hx W0 h0 with⟨_,q0⟩|⟨g,c,_,q1,_⟩
     ·omega
     refine⟨rfl,rfl,.pointer (some ⟨g,0+i.toNat*z,none⟩),dH (m:=Instr.indexAt t (a.eval x) (a.eval ix)) (by unfold execOp;rw[ho]) (λw _=>?_),λW hW=>af.val (i:=.gp T _) ⟨_,rfl,?_⟩⟩
     ·rw [q1, h.asI hi hj];simp[Instr.indexAt,asIntOf,run_underlying hu,hp1,fP hb,Addr.add_mid]
     ·rcases h.ol hx W hW with ⟨_, q0⟩ | ⟨g', c', xs, q1', q2, q3, q4, q5, q6, q7, q8⟩
      ·omega
      rw[q1] at q1';cases q1';obtain⟨cs,d,k1,k2,k3⟩:=q8 i.toNat (by omega);refine⟨g,0+i.toNat*z,xs,(0,0),rfl,.inr q2,q3,?_,cs,d,by rw[Nat.zero_add];exact k1,k3⟩;have:i.toNat*z<=c*z:=Nat.mul_le_mul_right _ (by omega);omega
    ·cases hd
   ·cases hd
  ·rename_i e n f j hu hx hi;split at hd
   ·rename_i i B hj;split at hd
    ·rename_i hb;simp only[Option.some.injEq,Prod.mk.injEq] at hd;obtain⟨rfl,rfl,rfl,rfl⟩:=hd;have hp1:0<=i/\i<n:=hp.1;obtain⟨v,q0,p,c,q1,q2,q3,q4⟩:=h.evI hx W0 h0;obtain⟨g,o,_,_,k1,_⟩:=q4 i.toNat (by omega);have q1:a.eval x=.slice (some ⟨g,o,none⟩) n c:=by rw[<- k1,<- q1];simpa using q0
     refine⟨rfl,rfl,.pointer (some ⟨g,o+i.toNat*7,none⟩),dH (m:=Instr.indexAt t (a.eval x) (a.eval ix)) (by unfold execOp;rw[ho]) (λw _=>?_),λW hW=>af.val (i:=.gp tE _) ⟨_,rfl,?_⟩⟩
     ·rw [q1, h.asI hi hj];simp[Instr.indexAt,asIntOf,run_underlying hu,hp1,fP hb,Addr.add_mid]
     ·obtain ⟨v', q0', p', c', q1', q2', q3', q4'⟩ := h.evI hx W hW;obtain⟨g',o',xs,fr,k1',k2,k3,⟨d,k4⟩,k5⟩:=q4' i.toNat (by omega);have q6:a.eval x=.slice (some ⟨g',o',none⟩) n c':=by rw[<- k1',<- q1'];simpa using q0'
      rw[q1] at q6;cases q6;exact⟨g,_,xs,fr,rfl,.inl rfl,k2,k3,_,d,k4,Ie k5⟩
    ·cases hd
   ·cases hd
  ·rename_i e n f j hu hx hi;split at hd
   ·rename_i i B hj;split at hd
    ·rename_i hb;simp only[Option.some.injEq,Prod.mk.injEq] at hd;obtain⟨rfl,rfl,rfl,rfl⟩:=hd;have hp1:0<=i/\i<n:=hp.1;obtain⟨v,q0,p,c,q1,q2,q3,q4⟩:=h.evI hx W0 h0;obtain⟨g,o,xs,fr,k1,k2,k3,⟨d,k4⟩,k5⟩:=q4 i.toNat (by omega);have q1:a.eval x=.slice (some ⟨g,o,none⟩) n c:=by rw[<- k1,<- q1];simpa using q0
     refine⟨rfl,rfl,.pointer (some ⟨g,o+i.toNat*7,none⟩),dH (m:=Instr.indexAt t (a.eval x) (a.eval ix)) (by unfold execOp;rw[ho]) (λw _=>?_),λW hW=>af.val (i:=.fp _) ⟨g,_,xs,(tE,fr),rfl,k2,k3,_,d,k4,(Ie k5).toG.up (Below.refl _ _)⟩⟩;rw[q1,h.asI hi hj];simp[Instr.indexAt,asIntOf,run_underlying hu,hp1,fP hb,Addr.add_mid]
    ·cases hd
   ·cases hd
  ·cases hd
 ·
  rename_i t x ix ho;split at hd
  ·rename_i len e u i hu hx hi;split at hd
   ·rename_i n hn;split at hd
    ·rename_i hb;simp only[Bool.and_eq_true,decide_eq_true_eq] at hb;cases hq:kg P e u.l (i.toNat*n) with|none=>simp[hq] at hd|some y =>
      simp only[hq,Option.map_some,Option.some.injEq,Prod.mk.injEq] at hd;obtain⟨rfl,rfl,rfl,rfl⟩:=hd;obtain⟨cs,e1,e2,e3⟩:=h.evV hx;obtain⟨n',p1,p2,p3,p4,p5⟩:=wn hq (e3 W0 h0);refine⟨rfl,rfl,dj y.g ((cs.drop (i.toNat*n)).take n'),dH (m:=Instr.index t (a.eval x) (a.eval ix)) (by unfold execOp;rw[ho]) (λw _=>?_),λW hW=>?_⟩
      ·rw [e1, hb.1, (h.kint hi).1];have hp:=D9 (P:=P) (W:=w) p1 p2 p4 p5;simp[Instr.index,asIntOf,run_underlying hu,hb.2,fP hn,dj] at hp ⊢;exact hp
      ·obtain ⟨n2, q1, q2, q3, q4, q5⟩ := wn hq (e3 W hW);obtain rfl:n2=n':=by rw[p1] at q1;exact (Option.some.inj q1).symm
       exact⟨_,q3,rfl,λe=>by have:=q5 e;simp;omega⟩
    ·cases hd
   ·cases hd
  ·cases hd
 ·
  rename_i x j ho;split at hd
  ·rename_i l hx;cases hq:l[j]? with|none=>simp[hq] at hd|some y =>
    simp only[hq,Option.map_some,Option.some.injEq,Prod.mk.injEq] at hd;obtain⟨rfl,rfl,rfl,rfl⟩:=hd;obtain⟨xs,e1,e2⟩:=h.evA hx W0 h0;obtain⟨u,u1,u2⟩:=e2.at hq;refine⟨rfl,rfl,u,dH (m:=Instr.extract (a.eval x) j) (by unfold execOp;rw[ho]) (λw _=>?_),λW hW=>?_⟩
    ·rw [e1];simp only[Instr.extract,List.getElem?_toArray,u1,Sem.run_pure]
    ·obtain ⟨ys, g1, g2⟩ := h.evA hx W hW;obtain⟨u',u3,u4⟩:=g2.at hq;rw[e1] at g1;simp only[Value.tuple.injEq] at g1;have:xs=ys:=by simpa using g1
     subst this;rw[u1] at u3;cases u3;exact u4
  ·cases hd
 ·
  rename_i op t x y _ ho;split at hd
  ·rename_i u w hx hy;cases hq:AY P E.eq op t u w with|none=>simp[hq] at hd|some z =>
    obtain⟨i,ps⟩:=z;simp only[hq,Option.map_some,Option.some.injEq,Prod.mk.injEq] at hd;obtain⟨rfl,rfl,rfl,rfl⟩:=hd;obtain⟨z,k1,k2⟩:=UV hE h hx hy hq hp;exact⟨rfl,rfl,z,dH (m:=do eqGuard op t x y (a.eval x) (a.eval y);binOp op t (a.eval x) (a.eval y)) (by unfold execOp;rw[ho]) (λw _=>k1 w),λW hW=>(k2 W hW).val⟩
  ·cases hd
 ·
  rename_i op t x ho;split at hd
  ·rename_i b hx;simp only[Option.some.injEq,Prod.mk.injEq] at hd;obtain⟨rfl,rfl,rfl,rfl⟩:=hd;exact⟨rfl,rfl,.bool (!b),dH (m:=Op.unary .not (a.eval x)) (by unfold execOp;rw[ho]) (λw _=>by rw[h.val hx];rfl),λW hW=>af.val (i:=.v _) ⟨rfl,rfl⟩⟩
  ·rename_i b hx;simp only[Option.some.injEq,Prod.mk.injEq] at hd;obtain⟨rfl,rfl,rfl,rfl⟩:=hd;exact⟨rfl,rfl,.bool (!b),dH (m:=Op.unary .not (a.eval x)) (by unfold execOp;rw[ho]) (λw _=>by rw[h.bln hx];rfl),λW hW=>af.val (i:=.b _) rfl⟩
  ·rename_i n hx;cases hq:kn (0-n) with|none=>rw[hq] at hd;cases hd|some i =>
    simp only[hq,Option.map_some,Option.some.injEq,Prod.mk.injEq] at hd;obtain⟨rfl,rfl,rfl,rfl⟩:=hd;obtain⟨rfl,h2⟩:=vO hq;refine⟨rfl,rfl,.int .i64 (IntKind.i64.wrap (0-n)),dH (m:=Op.unary .neg (a.eval x)) (by unfold execOp;rw[ho]) (λw _=>by rw[(h.kint hx).1];rfl),λW hW=>af.val (i:=.k _) ⟨by rw[wrap_in (lH h2)],lH h2⟩⟩
  ·rename_i z B hx;simp only[Option.some.injEq,Prod.mk.injEq] at hd;obtain⟨rfl,rfl,rfl,rfl⟩:=hd;exact⟨rfl,rfl,.int .i64 (IntKind.i64.wrap (0-z)),dH (m:=Op.unary .neg (a.eval x)) (by unfold execOp;rw[ho]) (λw _=>by rw[(h.int hx).1];rfl),λW hW=>af.val (Ak (by have:=(h.int hx).2.1;omega))⟩
  ·cases hd
 ·
  rename_i t t' x ho;split at hd
  ·rename_i z hu hu' hx;simp only[Option.some.injEq,Prod.mk.injEq] at hd;obtain⟨rfl,rfl,rfl,rfl⟩:=hd;have hz:0<=z/\z<=255:=hp.1;have hi:I64 z:=by unfold I64;omega
   refine⟨rfl,rfl,.int .i64 (IntKind.i64.wrap z),dH (m:=Go.convert t t' (a.eval x)) (by unfold execOp;rw[ho]) (λw _=>?_),λW hW=>af.val (i:=.i z 255) ⟨by rw[wrap_in hi],by omega,hi⟩⟩;rw[h.val hx];simp[Go.convert,run_underlying hu,run_underlying hu',Conv.intToInt]
  ·cases hd
 ·
  rename_i fn first cap ho;split at hd
  ·rename_i f l hl;split at hd
   ·rename_i hb;simp only[Option.some.injEq,Prod.mk.injEq] at hd;obtain⟨rfl,rfl,rfl,rfl⟩:=hd;simp only[Bool.and_eq_true,beq_iff_eq] at hb;obtain⟨k1,k2⟩:=Rh h hl;refine⟨rfl,rfl,.func (.func f) #[] (l.map λp=>Value.pointer (some ⟨r p.1,p.2,none⟩)).toArray,dH (m:=Instr.makeFunc (.func f) (first.map a.eval) (cap.map a.eval)) (by unfold execOp;rw[ho]) (λw _=>?_),λW hW=>af.val (i:=.fn f l) ⟨k1,rfl⟩⟩;have e1:first.map a.eval=#[]:=by rw[Array.eq_empty_of_size_eq_zero hb.1];simp
    have e2:cap.map a.eval=(l.map λp=>Value.pointer (some ⟨r p.1,p.2,none⟩)).toArray:=by rw[<- k2,List.map_toArray]
    rw[e1,e2];rfl
   ·cases hd
  ·cases hd
 ·rename_i ho;simp[av,ho] at hk
 ·
  rename_i c ho;split at hd
  ·rename_i hc;simp[av,ho,Bo hc] at hk
  ·rename_i b hc;replace hc:=FT hc;split at hd
   ·rename_i l hl;split at hd
    ·simp[av,ho,hc] at hk
    ·rename_i hb;cases hq:sC P b c.argTypes.toList l with|none=>simp[hq] at hd|some z =>
      obtain⟨i,ps⟩:=z;simp only[hq,Option.map_some,Option.some.injEq,Prod.mk.injEq] at hd;obtain⟨rfl,rfl,rfl,rfl⟩:=hd;obtain⟨z,k1,k2⟩:=UZ (P:=P) h hl hq o.type (c.args.map λ| .const _=>true|_=>false);refine⟨rfl,rfl,z,λw _=>?_,λW hW=>(k2 W hW).val⟩;have:=k1 w;unfold execOp;simp only[ho,resolve,hc,Sem.run_bind,Sem.run_pure,Result.andThen_ok,invoke];have e:c.args.map a.eval=(c.args.toList.map a.eval).toArray:=by rw[<- List.map_toArray]
      rw[e];exact this
   ·cases hd
  ·split at hd
   ·rename_i hc;simp[av,ho,hc] at hk
   ·cases hd
 ·
  rename_i T x ho;split at hd
  ·rename_i fs l hu hl;cases hq:jV l with|none=>simp[hq] at hd|some xs =>
    simp only[hq,Option.map_some,Option.some.injEq,Prod.mk.injEq] at hd;obtain⟨rfl,rfl,rfl,rfl⟩:=hd;obtain⟨vs,e1,_,e3⟩:=h.evV hl;obtain⟨k1,k2⟩:=xW hq (e3 W0 h0);refine⟨rfl,rfl,.iface T (.agg (xs.map λx:Int×Nat=>Value.int .i64 x.1).toArray),dH (m:=Instr.makeInterface T (a.eval x)) (by unfold execOp;rw[ho]) (λw _=>?_),λW hW=>af.val (i:=.fc T xs) ⟨_,rfl,rfl,k2⟩⟩;rw[e1,k1];simp[Instr.makeInterface,run_underlying hu,dj]
  ·cases hd
 ·
  rename_i x xT T ok ho;split at hd
  ·rename_i fs T' l hu hx;have hv:∀W,F W->om T' l (a.eval x):=λW hW=>by
    obtain⟨v,e,hv⟩:=h.evI hx W hW;cases e;exact hv
   obtain⟨g1,g2⟩:=hv W0 h0;have hR:∀W:World,au V W r s.m.length ⟨true,uc l⟩ (.agg (l.map λx:Int×Nat=>Value.int .i64 x.1).toArray):=λW=>⟨_,zL (λx hx=>⟨rfl,g2 x hx⟩),rfl,nofun⟩
   split at hd
   ·rename_i hT;subst hT;split at hd
    ·rename_i hok;simp only[Option.some.injEq,Prod.mk.injEq] at hd;obtain⟨rfl,rfl,rfl,rfl⟩:=hd;refine⟨rfl,rfl,.tuple #[.agg (l.map λx:Int×Nat=>Value.int .i64 x.1).toArray,.bool true],dH (m:=Instr.typeAssert (a.eval x) xT T' ok) (by unfold execOp;rw[ho]) (λw _=>?_),λW hW=>⟨[_,_],rfl,_,_,rfl,hR W,_,_,rfl,af.val (i:=.b true) rfl,rfl⟩⟩;rw[g1,hok];simp[Instr.typeAssert,run_underlying hu]
    ·rename_i hok;simp only[Option.some.injEq,Prod.mk.injEq] at hd;obtain⟨rfl,rfl,rfl,rfl⟩:=hd;refine⟨rfl,rfl,.agg (l.map λx:Int×Nat=>Value.int .i64 x.1).toArray,dH (m:=Instr.typeAssert (a.eval x) xT T' ok) (by unfold execOp;rw[ho]) (λw _=>?_),λW hW=>hR W⟩;rw[g1];simp[Instr.typeAssert,run_underlying hu,hok]
   ·rename_i hT;split at hd
    ·rename_i hok;cases hz:EF P T with|none=>simp[hz] at hd|some z =>
      simp only[hz,Option.map_some,Option.some.injEq,Prod.mk.injEq] at hd;obtain⟨rfl,rfl,rfl,rfl⟩:=hd;obtain⟨i,cs,i1,i2,i3⟩:=a7o hz;refine⟨rfl,rfl,.tuple #[.agg cs,.bool false],dH (m:=Instr.typeAssert (a.eval x) xT T ok) (by unfold execOp;rw[ho]) (λw _=>?_),λW hW=>⟨[_,_],rfl,_,_,rfl,⟨_,pK i3,by simp[dj],nofun⟩,_,_,rfl,af.val (i:=.b false) rfl,rfl⟩⟩;rw[g1,hok];simp[Instr.typeAssert,run_underlying hu,hT,zeroValue,typeInfo,i1,i2]
    ·cases hd
  ·cases hd
 ·
  rename_i t x lo hi mx ho;split at hd
  ·rename_i e j l n z i hu hx hlo;split at hd
   ·rename_i hb;obtain⟨⟨hb1,hb2⟩,hb3⟩:=hb;cases hq:bE l (i.toNat*z) with|none=>simp[hq] at hd|some zz =>
     obtain⟨u1,u2⟩:=zz;simp only[hq,Option.map_some,Option.some.injEq,Prod.mk.injEq] at hd;obtain⟨rfl,rfl,rfl,rfl⟩:=hd;cases lo with|none=>cases hlo|some lo =>
      have hlo:Go.Proofs.YtghemgdfmldoeaaGreat.evI s lo=some (.k i):=hlo;obtain⟨g,q,xs,T,q1,q2,q3,q4,q5,c,d,q6,q7,q8⟩:=h.evI hx W0 h0;have q1:a.eval x=.slice (some ⟨g,j,none⟩) n q:=by simpa using q1
      obtain⟨k1,k2,k3⟩:=rJ hq q7;have hn:i.toNat<n:=by omega
      refine⟨rfl,rfl,.slice (some ⟨g,j+i.toNat*z,none⟩) (n-i.toNat) (q-i.toNat),dH (m:=Instr.sliceAt t (a.eval x) (some (a.eval lo)) none none) (by unfold execOp;rw[ho];rfl) (λw _=>?_),λW hW=>af.val (i:=.fs _ u2 _ z) ⟨g,q-i.toNat,xs,T,rfl,q2,by omega,by omega,?_,c.drop (i.toNat*z),d,?_,k2,?_⟩⟩
      ·rw [q1, (h.kint hlo).1];simp only[Instr.sliceAt,Sem.run_bind,run_underlying hu,Result.andThen_ok,Instr.slice,Instr.sliceBounds,Instr.sliceBound,asIntOf,Sem.run_pure];rw[if_pos (by omega)];simp only[Sem.run_pure,Result.andThen_ok,fP hb3];rw[if_neg (by omega)];simp[Addr.add_mid]
      ·have := congrArg List.length q6;rw[List.length_drop,List.length_append,Array.length_toList] at this;omega
      ·rw[<- List.drop_drop,q6,List.drop_append_of_le_length k3]
      ·rw[List.length_drop,q8,Nat.sub_mul]
   ·cases hd
  ·rename_i e z n f i hu hx hlo;split at hd
   ·rename_i hb3;simp only[Option.some.injEq,Prod.mk.injEq] at hd;obtain⟨rfl,rfl,rfl,rfl⟩:=hd;cases lo with|none=>cases hlo|some lo =>
     have hlo:Go.Proofs.YtghemgdfmldoeaaGreat.evI s lo=some (.k i):=hlo;have hp1:0<=i/\i<=n:=hp.1;obtain⟨v,q0,p,c,q1,q2,q3,q4⟩:=h.evI hx W0 h0;have q1:a.eval x=.slice p n c:=by rw[<- q1];simpa using q0
     refine⟨rfl,rfl,.slice (if c=i.toNat then p else p.map (·.add (i.toNat*z))) (n-i.toNat) (c-i.toNat),dH (m:=Instr.sliceAt t (a.eval x) (some (a.eval lo)) none none) (by unfold execOp;rw[ho];rfl) (λw _=>?_),λW hW=>af.val (i:=.ro z _ _) ⟨_,rfl,_,_,rfl,by omega,by omega,λj hj=>?_⟩⟩
     ·rw [q1, (h.kint hlo).1];simp only[Instr.sliceAt,Sem.run_bind,run_underlying hu,Result.andThen_ok,Instr.slice,Instr.sliceBounds,Instr.sliceBound,asIntOf,Sem.run_pure];rw[if_pos (by omega)];simp only[Sem.run_pure,Result.andThen_ok,fP hb3];done
     ·obtain ⟨g, o, xs, T, k1, k2, k3, cs, d, k4, k5⟩ := q4 (i.toNat + j) (by omega);rw[if_neg (by omega),k1];rw[Nat.add_mul,<- Nat.add_assoc] at k3 k4;exact⟨g,o+i.toNat*z,xs,T,by simp[Addr.add_mid],k2,k3,cs,d,k4,k5⟩
   ·cases hd
  ·rename_i e z n f i B hu hx hlo;split at hd
   ·rename_i hb3;simp only[Option.some.injEq,Prod.mk.injEq] at hd;obtain⟨rfl,rfl,rfl,rfl⟩:=hd;cases lo with|none=>cases hlo|some lo =>
     have hlo:Go.Proofs.YtghemgdfmldoeaaGreat.evI s lo=some (.i i B):=hlo;have hp1:0<=i/\i<=n:=hp.1;obtain⟨v,q0,p,c,q1,q2,q3,q4⟩:=h.evI hx W0 h0;have q1:a.eval x=.slice p n c:=by rw[<- q1];simpa using q0
     refine⟨rfl,rfl,.slice (if c=i.toNat then p else p.map (·.add (i.toNat*z))) (n-i.toNat) (c-i.toNat),dH (m:=Instr.sliceAt t (a.eval x) (some (a.eval lo)) none none) (by unfold execOp;rw[ho];rfl) (λw _=>?_),λW hW=>af.val (i:=.ro z _ _) ⟨_,rfl,_,_,rfl,by omega,by omega,λj hj=>?_⟩⟩
     ·rw [q1, (h.int hlo).1];simp only[Instr.sliceAt,Sem.run_bind,run_underlying hu,Result.andThen_ok,Instr.slice,Instr.sliceBounds,Instr.sliceBound,asIntOf,Sem.run_pure];rw[if_pos (by omega)];simp only[Sem.run_pure,Result.andThen_ok,fP hb3];done
     ·obtain ⟨g, o, xs, T, k1, k2, k3, cs, d, k4, k5⟩ := q4 (i.toNat + j) (by omega);rw[if_neg (by omega),k1];rw[Nat.add_mul,<- Nat.add_assoc] at k3 k4;exact⟨g,o+i.toNat*z,xs,T,by simp[Addr.add_mid],k2,k3,cs,d,k4,k5⟩
   ·cases hd
  ·rename_i e z n f hh hu hx _;split at hd
   ·rename_i _ i B hhi _;split at hd
    ·rename_i hb3;simp only[Option.some.injEq,Prod.mk.injEq] at hd;obtain⟨rfl,rfl,rfl,rfl⟩:=hd;have hp1:0<=i/\i<=n:=hp.1;cases hev:Go.Proofs.YtghemgdfmldoeaaGreat.evI s hh with|none=>rw[hev] at hhi;cases hhi|some jj =>
      rw[hev] at hhi;have hval:=h.asI hev hhi;obtain⟨v,q0,p,c,q1,q2,q3,q4⟩:=h.evI hx W0 h0;have q1:a.eval x=.slice p n c:=by rw[<- q1];simpa using q0
      refine⟨rfl,rfl,.slice (if c=0 then p else p.map (·.add (0*z))) i.toNat c,dH (m:=Instr.sliceAt t (a.eval x) none (some (a.eval hh)) none) (by unfold execOp;rw[ho];rfl) (λw _=>?_),λW hW=>af.val (i:=.ro z _ _) ⟨_,rfl,_,_,rfl,by omega,by omega,λj hj=>by
       obtain⟨g,o,xs,T,k1,k2⟩:=q4 j (by omega);rw[if_neg (by omega),k1];exact⟨g,o,xs,T,by simp[Addr.add_mid],k2⟩⟩⟩
      rw[q1,hval];simp only[Instr.sliceAt,Sem.run_bind,run_underlying hu,Result.andThen_ok,Instr.slice,Instr.sliceBounds,Instr.sliceBound,asIntOf,Sem.run_pure];rw[if_pos (by omega)];simp only[Sem.run_pure,Result.andThen_ok,fP hb3];rw[Nat.sub_zero,Nat.sub_zero]
    ·cases hd
   ·cases hd
  ·cases hd
 ·cases hd
end
end
end Go.Proofs.YtghemgdfmldoeaaGreat
