import Derived.Test.YtghemgdfmldoeaaGreatP08
import Derived.Great.BuildSlice
set_option linter.unusedVariables false
set_option linter.unusedSimpArgs false
namespace Go.Proofs.YtghemgdfmldoeaaGreat
open Go.RowKit
section
section
variable {P:Program} {V:World} {r r':Nat->Nat} {k k':Nat} {s s1:St} {a:Act} {F S:World->Prop} {o:Oper} {W W' w:World} {cm cm':Nat->List Value} {m:List (Option Mb)} {q q':List Bool} {v:AV} {ob:Ob}
theorem RX{zs:List It}{c:List Value}:∀n:Nat,aA V W r k zs c->aA V W r k (List.replicate n zs).flatten (List.replicate n c).flatten
 | 0,_=>rfl|n+1,h=>by
  rw[List.replicate_succ,List.replicate_succ,List.flatten_cons,List.flatten_cons];exact h.app (RX n h)
theorem Ru(z:Array Value)(hz:0<z.size):∀n:Nat,((Array.range (n*z.size)).map (z[·%z.size]!)).toList=(List.replicate n z.toList).flatten
 | 0=>by simp|n+1=>by
  rw[List.replicate_succ',List.flatten_append,<- Ru z hz n];apply List.ext_getElem?;intro i;simp only[Array.toList_map,Array.toList_range,List.getElem?_map,List.getElem?_append,List.length_map,List.length_range,List.flatten_cons,List.flatten_nil,List.append_nil];by_cases h1:i<n*z.size
  ·rw[if_pos h1,List.getElem?_range (by rw[Nat.succ_mul];omega),List.getElem?_range h1]
  ·rw [if_neg h1];by_cases h2:i<(n+1)*z.size
   ·rw [List.getElem?_range h2];rw[Nat.succ_mul] at h2;have h3:i-n*z.size<z.size:=by omega
    have h4:i%z.size=i-n*z.size:=by
     have:i=(i-n*z.size)+z.size*n:=by rw[Nat.mul_comm z.size n];omega
     rw[this,Nat.add_mul_mod_self_left,Nat.mod_eq_of_lt h3,Nat.mul_comm z.size n,Nat.add_sub_cancel]
    have h5:z[i-n*z.size]! = z[i-n*z.size]:=getElem!_pos z _ h3;simp only[Option.map_some,h4,h5];simp[h3]
   ·rw [List.getElem?_eq_none (by simpa using h2)];rw[Nat.succ_mul] at h2;simp;omega
theorem ZJ{m:Sem Value}{x:Value}{w W:World}(he:execOp a.eval o=do pure (.value (<- m)))(h:m.run P w=.ok x W):(execOp a.eval o).run P w=.ok (.value x) W:=by
 rw[he,Sem.run_bind,h];rfl
theorem OT{pl:Nat->Option (Nat×Nat)}:∀ {ps:List (Nat×Value)} {cs ds:List Value},Instr.fill pl cs.toArray ps=some ds.toArray->ds.length=cs.length
 | [],cs,ds,h=>by rw[Instr.fill] at h;simp at h;rw[h]|(f,v)::ps,cs,ds,h=>by
  rw[Instr.fill] at h;split at h
  ·cases h
  ·rename_i o n _;split at h
   ·cases h
   ·have key:∀(l:List (Value×Nat)) (c:Array Value),(l.foldl (λcs (x:Value×Nat)=>cs.setIfInBounds (o+x.2) x.1) c).size=c.size:=by
     intro l;induction l with|nil=>intro c;rfl|cons x l ih=>intro c;rw[List.foldl_cons,ih];simp
    have h2:∀c:Array Value,(v.cells.zipIdx.foldl (λcs (x:Value×Nat)=>cs.setIfInBounds (o+x.2) x.1) c)=(v.cells.zipIdx.foldl (λcs (x:Value×Nat)=>cs.setIfInBounds (o+x.2) x.1) c).toList.toArray:=λc=>by simp
    rw[h2] at h;rw[OT h,Array.length_toList,<- Array.foldl_toList,key];simp
theorem Ar(h:HT V r k s a F){t e:TypeId}{len z:Nat}{ps:Array (Nat×Operand)}{l:List (Nat×V1)}{zs c:List It}(ho:o.op=.buildSlice t len ps)(hu:P.underlying t=some (.slice e))(hl:evPs s ps.toList=some l)(hz:bV P e=some z)(hzs:oh P e=some zs)
  (hb:(0<len*z/\len*z<=16777216/\len<=1000)/\(zs.map It.n).sum=z) (hf:fills (λi=>some (i*z,z)) (List.replicate len zs).flatten l=some c) :
  ∃cs:List Value,(∀w,(execOp a.eval o).run P w=.ok (.value (.slice (some ⟨w.heap.size,0,none⟩) len len)) (w.alloc (.cells cs.toArray e)))/\(∀W,F W->aA V W r k c cs)/\cs.length=len*z:=by
 obtain⟨ie,zv,i1,i2,i3⟩:=uU hzs;have hsz:ie.size=z:=by unfold bV at hz;rw[i1] at hz;simpa using hz
 obtain⟨W0,h0⟩:=h.ex;have hzl:zv.cells.size=z:=by
  have:=(pK (V:=V) (W:=W0) (r:=r) (k:=k) i3).cells.1;rw[hb.2] at this;simpa using this
 have hz0:0<z:=Nat.pos_of_mul_pos_left hb.1.1 |> λh=>by
  rcases Nat.eq_zero_or_pos z with e|e
  ·rw[e] at hb;omega
  ·exact e
 obtain⟨ds,k1,k2⟩:=h.evPs hl hf (cs:=(List.replicate len zv.cells.toList).flatten) (λW _=>RX len (pK i3));refine⟨ds,λw=>?_,k2,?_⟩;rotate_left
 ·rw [OT k1];simp[hzl]
 have e1:(Array.range (len*ie.size)).map (zv.cells[·%zv.cells.size]!)=((List.replicate len zv.cells.toList).flatten).toArray:=by
  apply Array.toList_inj.1;rw[hsz,<- hzl,Ru zv.cells (by omega) len]
 have:=run_buildSlice (P:=P) w t e len (ps.map λ(i,x)=>(i,a.eval x)) ds.toArray ie zv hu i1 i2 (by rw[hsz];omega) (by rw[hsz];omega) (by
  rw[e1,hsz];have e2:(ps.map λ(i,x)=>(i,a.eval x)).toList=ps.toList.map λx=>(x.1,a.eval x.2):=by simp
  rw[e2];exact k1)
 exact ZJ (by unfold execOp;rw[ho]) this
theorem yZ{l:List It}(h:j8 l=true):∀i∈l,i.isE=false:=λi hi=>by simpa using List.all_eq_true.1 h i hi
theorem yK{B:Nat}{E:TypeId}{size n c:Nat}{p:Option Addr}{xs:List Value}(hp:PO w B E size p n c xs)(hg:w.grownBy W' (cQ p)){D:Dat}(hE:D.isE=false\/E≠tE){cs:List Value}(h:D.R w cs):D.R W' cs:=by
 cases D with|ed n f =>
  obtain⟨v,e,h⟩:=h;refine⟨v,e,h.to λg xs' fr k=>?_⟩;rw[hg.block g (Array.getElem?_eq_some_iff.1 k).1 λe2=>?_]
  ·exact k
  ·rcases hp.2 with ⟨rfl, _⟩ | ⟨g2, cur, rfl, _, h5, _⟩
   ·cases e2
   ·simp only [cQ, Option.map_some, Option.some.injEq] at e2;subst e2;rw[h5] at k;simp only[Option.some.injEq,Obj.cells.injEq] at k;rcases hE with hi|hi
    ·cases hi
    ·exact hi k.2.1|num x=>obtain⟨n,q,l,c,e,h⟩:=h;exact⟨n,q,l,c,e,h.grow hp hg⟩|zi x B=>obtain⟨⟨n,q,l,c,e,h⟩,hb⟩:=h;exact⟨⟨n,q,l,c,e,h.grow hp hg⟩,hb⟩
theorem O5{B:Nat}{E:TypeId}{size n c:Nat}{p:Option Addr}{xs:List Value}(hp:PO w B E size p n c xs)(hg:w.grownBy W' (cQ p))(hE:E≠tE)(hb:∀g,cQ p=some g->∃b,b<k/\r b=g):Fr V w r k W' r k :=
 ⟨λg h1 _ hm=>hg.block g h1 λe=>by obtain⟨b,h2,h3⟩:=hb g e.symm;exact hm b h2 h3,λ_ _ _ h=>h,λ_ _ h=>yK hp hg (.inr hE) h,λg xs' fr h=>by
  have h2:(Dat.ed 0 λ_=>[]).R w [.slice none 0 0]:=⟨_,rfl,none,0,rfl,Nat.le_refl _,Nat.zero_le _,λi hi=>absurd hi (Nat.not_lt_zero _)⟩;rw[hg.block g (Array.getElem?_eq_some_iff.1 h).1 λe2=>?_]
  ·exact h
  ·rcases hp.2 with ⟨rfl, _⟩ | ⟨g2, cur, rfl, _, h5, _⟩
   ·cases e2
   ·simp only [cQ, Option.map_some, Option.some.injEq] at e2;subst e2;rw[h5] at h;simp only[Option.some.injEq,Obj.cells.injEq] at h;exact hE h.2.1⟩
theorem Z9{B:Nat}{E:TypeId}{size n c:Nat}{p:Option Addr}{xs:List Value}(hp:PO w B E size p n c xs)(hg:w.grownBy W' (cQ p))(hb:∀g,cQ p=some g->∃b,b<k/\r b=g)(hs:∀g0 cur T,p=some ⟨g0,0,none⟩->w.heap[g0]? = some (.cells cur T)->∃cur',W'.heap[g0]? = some (.cells cur' T)/\cur'.size=cur.size)
  (i:It) (hi:i.isE=false\/E≠tE) (cs:List Value):af V w r k i cs->af V W' r k i cs:=by
 cases i with|d D=>exact λh=>yK hp hg hi h|sl b n z =>
  refine λ⟨h0,c,ys,T,h1,h2,h3,h4⟩=>?_
  by_cases e:cQ p=some (r b)
  ·have hpe:p=some ⟨r b,0,none⟩:=by
    rcases hp.2 with⟨rfl,_⟩|⟨g,cur,rfl,_⟩
    ·cases e
    ·simp only[cQ,Option.map_some,Option.some.injEq] at e;rw[e]
   obtain⟨cur',k1,k2⟩:=hs (r b) ys T hpe h2;exact⟨h0,c,cur',T,h1,k1,by rw[h3,k2],h4⟩
  ·exact⟨h0,c,ys,T,h1,by rw[hg.block _ (Array.getElem?_eq_some_iff.1 h2).1 (λh=>e h.symm)];exact h2,h3,h4⟩|ol T z n f=>exact λ⟨v,e,h⟩=>⟨v,e,h.fr (O5 hp hg (hi.resolve_left λh=>nomatch h) hb)⟩|gp T l=>exact λ⟨v,e,h⟩=>⟨v,e,h.fr (O5 hp hg (hi.resolve_left λh=>nomatch h) hb)⟩|_=>exact id
theorem RM.grown{e:TypeId}{p:Option Addr}(h:RM V r cm m w)(hE:e≠tE\/∀b y,mb m b=some y->j8 y.l=true)(hx:ac V W')(hne:∀b x,mb m b=some x->some (r b)≠cQ p)(hg:w.grownBy W' (cQ p))(hI:∀i,(i.isE=false\/e≠tE)->∀cs,af V w r m.length i cs->af V W' r m.length i cs):RM V r cm m W' :=
 ⟨hx,λb x hb=>⟨by rw[hg.block _ (Array.getElem?_eq_some_iff.1 (h.blk b x hb).1).1 (hne b x hb)];exact (h.blk b x hb).1,(h.blk b x hb).2.impM λi hi=>hI i (hE.symm.imp (λh=>yZ (h b x hb) i hi) id)⟩,h.lo,h.inj,λb hb=>Nat.lt_of_lt_of_le (h.bd b hb) hg.size⟩
theorem F8:∀ {l a b:List It} {n:Nat},bE l n=some (a,b)->∀i∈a,i∈l
 | [],_,_,0,h,i,hi=>by unfold bE at h;cases h;cases hi|[],_,_,_+1,h,_,_=>by unfold bE at h;cases h|_::_,_,_,0,h,i,hi=>by unfold bE at h;cases h;cases hi|j::l,a,b,n+1,h,i,hi=>by
  unfold bE at h;split at h
  ·split at h
   ·rename_i hc;cases h;rcases List.mem_cons.1 hi with rfl|hi
    ·exact List.mem_cons_self ..
    ·exact List.mem_cons_of_mem _ (F8 hc i hi)
   ·cases h
  ·cases h
theorem Lj{t:TypeId}{x:It}{b' m z':Nat}{u1 u2:Value}(hM:RM V r cm s.m w)(h1:af V w r s.m.length x [u1])(h2:af V w r s.m.length (.sl b' m z') [u2])(hd:Fa P s t x b' m z' q=some (v,s1,ob,q'))(ty:TypeId) :
  q'=q/\s1.al=kX s.al/\ob.ld=[]/\s1.t=s.t/\∃n z y m1,v=cH (.sl s.m.length n z)/\s1.m=m1++[some y]/\m1.length=s.m.length /\
   (∀b x,mb m1 b=some x->mb s.m b=some x)/\(∀b,b∉ob.st->m1[b]? = s.m[b]?) /\
   ∃g c cs W',(Builtin.append_ #[t,t] ty #[u1,u2]).run P w=.ok (.slice (some ⟨g,0,none⟩) n c) W'/\w.heap.size<=W'.heap.size/\RM V (up r s.m.length g) (cz cm s.m.length cs) s1.m W' /\
    af V W' (up r s.m.length g) s1.m.length (.sl s.m.length n z) [.slice (some ⟨g,0,none⟩) n c] /\
    (∀a,RT V w r s.m.length s.t a->RT V W' (up r s.m.length g) s1.m.length s.t a):=by
 unfold Fa at hd;split at hd;rotate_left
 ·cases hd
 rename_i e y hu hy;split at hd;rotate_left
 ·cases hd
 rename_i i zs new rest hi hz hc;split at hd;rotate_left
 ·cases hd
 rename_i hb;obtain⟨⟨b1,b6⟩,b2,b3,b4,b5,b7⟩:=hb;have eT:=CU b7;have eM:=IX b7;obtain⟨i',zv,j1,j2,j3⟩:=uU hz;rw[hi] at j1;cases j1;obtain⟨y1,y2⟩:=hM.blk b' y hy;obtain⟨n1,n2,n3⟩:=NM hc y2;obtain⟨_,q2,xs2,T2,e2,_⟩:=h2;obtain rfl:u2=.slice (some ⟨r b',0,none⟩) m q2:=by simpa using e2
 have hz0:=(pK (V:=V) (W:=w) (r:=r) (k:=s.m.length) j3).cells;have hzc:zv.cells.size=z':=by have:=hz0.1;rw[b6] at this;simpa using this
 have news:=n1.cells;have hnl:((cm b').take (m*z')).length=m*z':=by rw[List.length_take];omega
 have hnews:∀j u,((cm b').take (m*z'))[j]? = some u->w.cell? ((⟨r b',0,none⟩:Addr).add j)=some u:=by
  intro j u hj;rw[Addr.add_mid,Nat.zero_add,cell_of_row _ _ _ _ _ _ y1];rw[List.getElem?_take] at hj;split at hj
  ·simpa using hj
  ·cases hj
 have step:∀(p:Option Addr) (n c:Nat) (old:List It) (xs0:List Value) (m1:List (Option Mb)),PO w V.heap.size e z' p n c xs0->aA V w r s.m.length old xs0->n+m<=1000->RM V r cm m1 w->m1.length=s.m.length->(∀b x,mb m1 b=some x->some (r b)≠cQ p)->(∀g,cQ p=some g->V.heap.size<=g)->(∀g,cQ p=some g->∃b,b<s.m.length/\r b=g)->(∀b x,mb m1 b=some x->mb s.m b=some x)->(e≠tE\/j8 old=true) ->
   ∃g c2 cs W',(Builtin.append_ #[t,t] ty #[.slice p n c,.slice (some ⟨r b',0,none⟩) m q2]).run P w=.ok (.slice (some ⟨g,0,none⟩) (n+m) c2) W'/\w.heap.size<=W'.heap.size/\RM V (up r s.m.length g) (cz cm s.m.length cs) (m1++[some ⟨e,old++new⟩]) W' /\
    af V W' (up r s.m.length g) (m1++[some (⟨e,old++new⟩:Mb)]).length (.sl s.m.length (n+m) z') [.slice (some ⟨g,0,none⟩) (n+m) c2] /\
    (∀a,RT V w r s.m.length s.t a->RT V W' (up r s.m.length g) (m1++[some (⟨e,old++new⟩:Mb)]).length s.t a):=by
  intro p n c old xs0 m1 hPO hold hn hM1 hlen hne hlo hown hsub hoE;obtain⟨g,c2,W',k1,k2,k3,k4,k5⟩:=VI (P:=P) w (t:=t) (ty:=ty) hu hi j2 b1 rfl hzc b2 (λv hv=>(hz0.2 v hv).1) hPO ⟨r b',0,none⟩ m q2 _ hnl hnews (λv hv=>(news.2 v hv).2) (λv hv=>(news.2 v hv).1) b3 hn b4 hM.ext.size;have hI:∀i,(i.isE=false\/e≠tE)->∀cs,af V w r s.m.length i cs->af V W' (up r s.m.length g) (s.m.length+1) i cs:=λi hi cs h=>Z9 hPO k3 (λg' e=>by obtain⟨b,h1,h2⟩:=hown g' e;exact⟨b,Nat.lt_succ_of_lt h1,by rw[ge h1];exact h2⟩) k5 i hi cs (af.grow (Nat.le_succ _) (λb hb=>ge hb) i (.inr λb h1 h2=>by
   rw[show b=s.m.length by omega,lk];rcases k4 with h4|h4
   ·obtain ⟨b0, h5, h6⟩ := hown g h4.symm;exact .inr ⟨b0,h5,h6.symm⟩
   ·exact .inl h4) cs h)
  have hnE:e≠tE\/j8 new=true:=eM.imp id λh=>List.all_eq_true.2 λi hi=>List.all_eq_true.1 (h b' y hy) i (F8 hc i hi)
  have hx:ac V W':=OM (B:=0) hM.ext k3 hlo;obtain⟨l1,hk⟩:=k2;rcases hk with⟨hk,_⟩|⟨g',cur,hk,l2,l3,l4,l5,l6,l7,l8⟩
  ·cases hk
  cases hk;have hlen2:(m1++[some (⟨e,old++new⟩:Mb)]).length=s.m.length+1:=by rw[List.length_append,hlen];rfl
  refine⟨g,c2,cur.toList,W',k1,k3.size,?_,?_,λa h=>?_⟩
  ·rw [<- hlen];refine hM1.new (c:=cur.toList) hx k3.size (λb x hb=>k3.block _ (Array.getElem?_eq_some_iff.1 (hM1.blk b x hb).1).1 (hne b x hb)) (λb x hb i hi=>by rw[hlen];exact hI i (eM.symm.imp (λh=>yZ (h b x (hsub b x hb)) i hi) id)) (by simpa using l3) ?_ l2 (λb x hb e=>?_)
   ·refine ⟨xs0 ++ (cm b').take (m * z'), cur.toList.drop ((n + m) * z'), ?_, ?_, λv hv => l8 v (List.mem_of_mem_drop hv)⟩
    ·rw[<- l7,List.take_append_drop]
    ·rw [hlen];exact (hold.impM λi hi=>hI i (hoE.symm.imp (λh=>yZ h i hi) id)).app (n1.impM λi hi=>hI i (hnE.symm.imp (λh=>yZ h i hi) id))
   ·have h3 := hne b x hb;rcases k4 with h4|h4
    ·rw[<- h4,e] at h3;exact h3 rfl
    ·have := (Array.getElem?_eq_some_iff.1 (hM1.blk b x hb).1).1;omega
  ·rw [hlen2];refine⟨Nat.lt_succ_self _,c2,cur,_,by rw[lk],by rw[lk];exact l3,l6.symm,l4,l5⟩
  ·rw [hlen2];exact⟨h.1,λi v hv=>(h.2 i v hv).impM λj hj=>hI j (eT.symm.imp (λq=>yZ (q i v hv) j hj) id)⟩
 split at hd
 ·
  simp only[Option.some.injEq,Prod.mk.injEq] at hd;obtain⟨rfl,rfl,rfl,rfl⟩:=hd;obtain rfl:u1=.slice none 0 0:=by simpa using h1.1
  obtain⟨g,c2,cs,W',s1,s2,s3,s4,s5⟩:=step none 0 0 [] [] s.m (PO.nil _ _ _ _) rfl (by omega) hM rfl (λb x _ h=>by cases h) (λg h=>by cases h) (λg h=>by cases h) (λ_ _ h=>h) (.inr rfl);simp only[Nat.zero_add,List.nil_append] at s1 s2 s3 s4 s5;exact⟨rfl,rfl,rfl,rfl,m,z',_,s.m,rfl,rfl,rfl,λ_ _ h=>h,λ_ _=>rfl,g,c2,cs,W',s1,s2,s3,s4,s5⟩
 ·
  rename_i b n z;split at hd;rotate_left
  ·cases hd
  rename_i wb hwb;split at hd;rotate_left
  ·cases hd
  rename_i old _ hold;split at hd;rotate_left
  ·cases hd
  rename_i hcond;obtain⟨c1,c2,c3,c4⟩:=hcond;subst c1;simp only[Option.some.injEq,Prod.mk.injEq] at hd;obtain⟨rfl,rfl,rfl,rfl⟩:=hd;obtain⟨_,qq,ys,T,d1,d2,d3,d4,d5⟩:=h1;obtain rfl:u1=.slice (some ⟨r b,0,none⟩) n qq:=by simpa using d1
  obtain⟨w1,w2⟩:=hM.blk b wb hwb;obtain⟨o1,o2,o3⟩:=NM hold w2;rw[w1] at d2;cases d2;have hPO:PO w V.heap.size e z (some ⟨r b,0,none⟩) n qq ((cm b).take (n*z)):=by
   refine⟨by rw[List.length_take];omega,.inr ⟨r b,(cm b).toArray,rfl,hM.lo b wb hwb,by rw[w1,c3],d4,d5,d3.symm,rfl,by simpa using w2.nd⟩⟩
  obtain⟨g,c2,cs,W',s1,s2,s3,s4,s5⟩:=step (some ⟨r b,0,none⟩) n qq old _ (s.m.set b none) hPO o1 c2 hM.drop (List.length_set ..) (λb2 x hb2 h=>by
   rw[cf,List.getElem?_set] at hb2;split at hb2
   ·first|(cases hb2;done)|(split at hb2<;>cases hb2)
   ·rename_i hne;simp only[cQ,Option.map_some,Option.some.injEq] at h;exact hne (hM.inj b2 b x wb (cf.2 hb2) hwb h).symm) (λg h=>by simp only[cQ,Option.map_some,Option.some.injEq] at h;rw[<- h];exact hM.lo b wb hwb) (λg h=>by simp only[cQ,Option.map_some,Option.some.injEq] at h;exact⟨b,cZ hwb,h⟩) (λb2 x hb2=>by
   rw[cf,List.getElem?_set] at hb2;split at hb2
   ·first|(cases hb2;done)|(split at hb2<;>cases hb2)
   ·exact cf.2 hb2) (eM.imp id λh=>List.all_eq_true.2 λi hi=>List.all_eq_true.1 (h b wb hwb) i (F8 hold i hi))
  refine⟨rfl,rfl,rfl,rfl,n+m,z,_,s.m.set b none,rfl,rfl,List.length_set ..,λb2 x hb2=>?_,λb2 hb2=>?_,g,c2,cs,W',s1,s2,s3,s4,s5⟩
  ·rw [cf, List.getElem?_set] at hb2;split at hb2
   ·first|(cases hb2;done)|(split at hb2<;>cases hb2)
   ·exact cf.2 hb2
  ·rw[List.getElem?_set,if_neg (λe=>hb2 (by simp[e]))]
 ·cases hd
theorem Lh{t:TypeId}{x:It}{u:Value}(h1:∃W,af V W r k x [u])(hd:xJ P t x=some v)(ty:TypeId):v=cH x/\∀w,(Builtin.append_ #[t,t] ty #[u,.slice none 0 0]).run P w=.ok u w:=by
 obtain⟨W,h1⟩:=h1;unfold xJ at hd;split at hd<;>(try (cases hd;done));rename_i e hu;split at hd
 ·rename_i i b n z hi;split at hd<;>cases hd;obtain⟨_,c,xs,T,k1,k2,k3,k4,k5⟩:=h1;obtain rfl:u=_:=by simpa using k1
  exact⟨rfl,λw=>by simp[Builtin.append_,run_underlying hu,sizeOf,typeInfo,hi,Builtin.lenOf,k4,Builtin.firstCells,loadCells,loadCellsFrom,storeCells]⟩
 ·rename_i i hi;cases hd;obtain rfl:u=_:=by simpa using h1.1
  exact⟨rfl,λw=>by simp[Builtin.append_,run_underlying hu,sizeOf,typeInfo,hi,Builtin.lenOf,Builtin.firstCells,loadCells,loadCellsFrom,storeCells]⟩
 ·cases hd
theorem a1U(hx:ac V W){i:It}{cs:List Value}(hi:i.np=true)(h:af V W r k i cs):rD W (dB i) cs:=by
 cases i with|i z B=>exact⟨h.1,by have:=h.2.2;unfold I64 at this;unfold lim;omega,h.2.2⟩|k n=>exact⟨h.1,by have:=h.2;unfold I64 at this;unfold lim;omega,h.2⟩|v x=>exact h|b k=>exact⟨h,rfl⟩|d D=>exact h|o D=>exact Dat.ext hx h|fc T l=>exact h|_=>cases hi
theorem Qu(hx:ac V W):∀ {l:List It} {cs:List Value},l.all It.np=true->aA V W r k l cs->cE W (l.map dB) cs
 | [],_,_,e=>e|i::l,_,hl,⟨c,d,e,h1,h2⟩=>by
  simp only[List.all_cons,Bool.and_eq_true] at hl;exact⟨c,d,e,a1U hx hl.1 h1,Qu hx hl.2 h2⟩
theorem FW(hx:ac V W){z:Nat}:∀ {n:Nat} {c:List It} {rs:List (List It)} {cs:List Value},chunk z n c=some rs->aA V W r k c cs->∀i,i<n->∃a d,cs.drop (i*z)=a++d/\a.length=z/\cE W ((rs.getD i []).map dB) a
 | 0,_,_,_,_,_,i,hi=>absurd hi (Nat.not_lt_zero _)|n+1,c,rs,cs,h,hr,i,hi=>by
  unfold chunk at h;split at h
  ·rename_i a b hc;split at h
   ·rename_i hnp;cases h2:chunk z n b with|none=>simp[h2] at h|some r' =>
     simp only[h2,Option.map_some,Option.some.injEq] at h;subst h;obtain⟨k1,k2,k3⟩:=qf hc hr;cases i with|zero=>exact⟨cs.take z,cs.drop z,by simp,by simp;omega,by simpa using Qu hx hnp k1⟩|succ i =>
      obtain⟨a',d,e1,e2,e3⟩:=FW hx h2 k2 i (by omega);refine⟨a',d,?_,e2,by simpa using e3⟩;rw[<- e1,List.drop_drop,Nat.succ_mul,Nat.add_comm]
   ·cases h
  ·cases h
theorem cE.cells:∀ {l:List It} {cs:List Value},cE W l cs->∀v∈cs,nd v/\v.oneCell'=true:=λh=>(h.toL (V:=W) (r:=λ_=>0) (k:=0)).cells.2
theorem Qv:∀ {l:List It} {xs:List (Int×Nat)} {cs:List Value},jV l=some xs->cE W (l.map dB) cs->cs=(xs.map λu=>(u.1,lim)).map (λx=>Value.int .i64 x.1)/\∀x∈xs.map (λu=>(u.1,lim)),x.1.natAbs<=x.2/\I64 x.1
 | [],_,_,h,e=>by cases h;cases e;exact⟨rfl,nofun⟩|i::l,_,_,h,⟨c,d,e,h1,h2⟩=>by
  unfold jV at h;split at h
  ·rename_i z r hz hr;cases h;obtain⟨k1,k2⟩:=Qv hr h2;have k3:c=[.int .i64 z.1]/\z.1.natAbs<=lim/\I64 z.1:=by
    unfold asI at hz;split at hz<;>cases hz
    ·exact h1
    ·exact h1
   obtain⟨rfl,k3⟩:=k3;subst e;rw[k1];exact⟨rfl,λx hx=>by rcases List.mem_cons.1 hx with rfl|hx;exact k3;exact k2 x hx⟩
  ·cases h
theorem Og:∀ {rs:List (List It)} {ys:List (List (Int×Nat))},yw rs=some ys->∀i,∃xs,jV (rs.getD i [])=some xs/\ys.getD i []=xs.map λu=>(u.1,lim)
 | [],_,h,i=>by cases h;exact⟨[],rfl,rfl⟩|l::r,ys,h,i=>by
  unfold yw at h;split at h<;>cases h;rename_i x y h1 h2;cases i with|zero=>exact⟨x,h1,rfl⟩|succ i=>exact Og h2 i
theorem PK{g len z:Nat}{e:TypeId}{c:List It}{rs:List (List It)}{cs:List Value}{j:It}(hx:ac V W)(hc:chunk z len c=some rs)(hj:yS e z len rs=some j)(hr:aA V W r k c cs)(hl:cs.length=len*z)(hm:len<=1000)(hg:W.heap[g]? = some (.cells cs.toArray e))(hV:V.heap.size<=g)(hn:∀b,b<k->r b≠g) :
  af V W r k j [.slice (some ⟨g,0,none⟩) len len]:=by
 unfold yS at hj;split at hj
 ·rename_i he;subst he;split at hj
  ·rename_i hz;subst hz;cases hy:yw rs with|none=>simp[hy] at hj|some ys =>
    simp only[hy,Option.map_some,Option.some.injEq] at hj;subst hj;refine⟨_,rfl,_,len,rfl,Nat.le_refl _,by unfold maxLen;omega,λi hi=>?_⟩;obtain⟨a,d,k1,k2,k3⟩:=FW hx hc hr i hi;obtain⟨xs,q1,q2⟩:=Og hy i;obtain⟨q3,q4⟩:=Qv q1 k3;refine⟨g,0,cs.toArray,(0,0),rfl,hg,by simp only[List.size_toArray];omega,⟨d,?_⟩,by show ∀x∈ys.getD i [],_;rw[q2];exact q4⟩;show cs.toArray.toList.drop (0+i*7)=(ys.getD i []).map _++d;rw[q2,<- q3,Nat.zero_add];exact k1
  ·cases hj
 ·cases hj;exact⟨_,rfl,.inr ⟨g,len,cs.toArray,rfl,⟨hV,hn⟩,hg,Nat.le_refl _,by unfold maxLen;omega,by simp[hl],λv hv=>(hr.cells.2 v (by simpa using hv)).1,λi hi=>by
   obtain⟨a,d,k1,k2,k3⟩:=FW hx hc hr i hi;exact⟨a,d,by simpa using k1,k2,k3⟩⟩⟩
theorem L9{P:Program}(W:World){t ty E:TypeId}{i:TypeInfo}(ht:P.underlying t=some (.slice E))(hi:P.info? E=some i){p q:Option Addr}{n c c':Nat}(hnc:n<=c) :
  (Builtin.append_ #[t,t] ty #[.slice p n c,.slice q 0 c']).run P W=.ok (.slice p n c) W:=by
 cases p<;>cases q<;>simp[Builtin.append_,run_underlying ht,sizeOf,typeInfo,hi,Builtin.lenOf,hnc,Builtin.firstCells,loadCells,loadCellsFrom,storeCells]
theorem eb.po{T:TypeId}{z n:Nat}{f:Nat->List It}{v:Value}(h:eb V W r k T z n f v):∃p c xs,v=.slice p n c/\PO W V.heap.size T z p n c xs/\n<=c/\(∀g,cQ p=some g->∀b,b<k->r b≠g)/\∀i,i<n->∃cs d,xs.drop (i*z)=cs++d/\cs.length=z/\cE W (f i) cs:=by
 rcases h with⟨e,hn⟩|⟨g,c,xs,e,⟨h1,h2⟩,h3,h4,h5,h6,h7,h8⟩
 ·subst hn;exact⟨none,0,[],e,PO.nil _ _ _ _,Nat.le_refl _,(λg h=>by cases h),λi hi=>absurd hi (Nat.not_lt_zero _)⟩
 ·have hle : n * z <= xs.size := by rw [h6]; exact Nat.mul_le_mul_right _ h4
  refine⟨some ⟨g,0,none⟩,c,xs.toList.take (n*z),e,⟨by rw[List.length_take,Array.length_toList];omega,.inr ⟨g,xs,rfl,h1,h3,h4,h5,h6,rfl,h7⟩⟩,h4,(λg' h b hb=>by simp only[cQ,Option.map_some,Option.some.injEq] at h;rw[<- h];exact h2 b hb),λi hi=>?_⟩;obtain⟨cs,d,k1,k2,k3⟩:=h8 i hi;have hz:(i+1)*z<=n*z:=Nat.mul_le_mul_right _ hi;rw[Nat.succ_mul] at hz;refine⟨cs,d.take (n*z-i*z-z),?_,k2,k3⟩;rw[List.drop_take,k1,List.take_append,List.take_of_length_le (by omega),k2]
def si(T:TypeId)(z n:Nat):It->Prop
 | .ol U y m _=>U=T->y=z/\m<=n|.gp U _=>U≠T|_=>True
theorem a5a{l l' a d:List Value}{i n z:Nat}(hi:i<n)(h:l'.take (n*z)=l.take (n*z))(e:l.drop (i*z)=a++d)(ha:a.length=z):∃d',l'.drop (i*z)=a++d':=by
 have hz:(i+1)*z<=n*z:=Nat.mul_le_mul_right _ hi;rw[Nat.succ_mul] at hz;refine⟨d.take (n*z-i*z-z)++(l'.drop (n*z)).drop (i*z-(l'.take (n*z)).length),?_⟩;have h1:l'.drop (i*z)=(l'.take (n*z)++l'.drop (n*z)).drop (i*z):=by rw[List.take_append_drop]
 rw[h1,List.drop_append,h,List.drop_take,e,List.take_append,List.take_of_length_le (by omega),ha,List.append_assoc]
theorem drop_take{l t:List Value}{N k:Nat}(h:l.take N=t):∃d,l.drop k=t.drop k++d :=
 ⟨_,by rw[<- List.drop_append,<- h,List.take_append_drop]⟩
theorem VJ{T:TypeId}{z n c:Nat}{p:Option Addr}{xs:List Value}(hT:T≠tE)(hp:PO w V.heap.size T z p n c xs)(hg:w.grownBy W' (cQ p))(hb:∀g,cQ p=some g->∀b,b<k->r b≠g)
  (hs:∀g0 cur,p=some ⟨g0,0,none⟩->w.heap[g0]? = some (.cells cur T)->∃cur',W'.heap[g0]? = some (.cells cur' T)/\cur'.size=cur.size/\cur'.toList.take (n*z)=cur.toList.take (n*z)/\∀v∈cur'.toList,nd v)
  (i:It) (hi:cQ p=none\/si T z n i) (cs:List Value):af V w r k i cs->af V W' r k i cs:=by
 have dat:∀(D:Dat) cs,D.R w cs->D.R W' cs:=λD cs h=>yK hp hg (.inr hT) h
 cases i with|d D=>exact dat D cs|sl b m y=>exact λ⟨h0,c,ys,U,h1,h2,h3⟩=>⟨h0,c,ys,U,h1,by rw[hg.block _ (Array.getElem?_eq_some_iff.1 h2).1 λe=>hb _ e.symm b h0 rfl];exact h2,h3⟩|ol U y m f =>
  refine λ⟨v,e,h⟩=>⟨v,e,?_⟩
  rcases h with h|⟨g,c2,ys,e2,h1,h2,h3,h4,h5,h6,h7⟩
  ·exact .inl h
  ·by_cases hgp : some g = cQ p
   ·have hpe:p=some ⟨g,0,none⟩:=by
     rcases hp.2 with⟨rfl,_⟩|⟨g',cur,rfl,_⟩
     ·cases hgp
     ·simp only[cQ,Option.map_some,Option.some.injEq] at hgp;rw[hgp]
    rcases hp.2 with⟨h0,_⟩|⟨g',cur,h0,_,k1,_⟩
    ·rw[hpe] at h0;cases h0
    rw[hpe] at h0;cases h0;rw[h2] at k1;simp only[Option.some.injEq,Obj.cells.injEq] at k1;obtain⟨rfl,rfl,_⟩:=k1;have hi:si U z n (.ol U y m f):=hi.resolve_left λh=>by rw[h] at hgp;cases hgp
    obtain⟨rfl,hmn⟩:=hi rfl;obtain⟨cur',q1,q2,q3,q4⟩:=hs g ys hpe h2;refine .inr ⟨g,c2,cur',e2,h1,q1,h3,h4,by rw[q2];exact h5,q4,λi hi=>?_⟩;obtain⟨a,d,j1,j2,j3⟩:=h7 i hi;obtain⟨d',j4⟩:=a5a (Nat.lt_of_lt_of_le hi hmn) q3 j1 j2;exact⟨a,d',j4,j2,j3.mono dat⟩
   ·exact .inr ⟨g,c2,ys,e2,h1,by rw[hg.block _ (Array.getElem?_eq_some_iff.1 h2).1 hgp];exact h2,h3,h4,h5,h6,λi hi=>by
     obtain⟨a,d,j1,j2,j3⟩:=h7 i hi;exact⟨a,d,j1,j2,j3.mono dat⟩⟩|gp U l =>
  refine λ⟨v,e,g,o,ys,fr,e2,h1,h2,h3,a,d,h4,h5⟩=>⟨v,e,g,o,ys,fr,e2,h1,?_,h3,a,d,h4,h5.mono dat⟩
  rw[hg.block g (Array.getElem?_eq_some_iff.1 h2).1 λe=>?_]
  ·exact h2
  ·rcases hp.2 with ⟨rfl, _⟩ | ⟨g', cur, rfl, _, k1, _⟩
   ·cases e
   ·simp only [cQ, Option.map_some, Option.some.injEq] at e;subst e;rw[h2] at k1;simp only[Option.some.injEq,Obj.cells.injEq] at k1;rcases hi with hi|hi
    ·cases hi
    ·exact hi k1.2.1|_=>exact id
theorem PD{T:TypeId}{z n:Nat}:∀ {l:List It} {ps:List Prop},yQ T z n l=some ps->aw ps->∀i∈l,si T z n i
 | [],_,_,_,_,hi=>by cases hi|j::l,ps,h,hp,i,hi=>by
  unfold yQ at h;cases hq:yQ T z n l with|none=>rw[hq] at h;cases j<;>cases h|some rr =>
   rw[hq] at h;have key:si T z n j/\aw rr:=by
    cases j with|ol U y m f =>
     simp only at h;split at h
     ·split at h
      ·rename_i e1 e2;cases h;exact⟨λ_=>⟨e2,hp.1⟩,hp.2⟩
      ·cases h
     ·rename_i e1;cases h;exact⟨λe=>absurd e e1,hp⟩|gp U l =>
     simp only at h;split at h
     ·cases h
     ·rename_i e1;cases h;exact⟨e1,hp⟩|_=>cases h;exact⟨trivial,hp⟩
   rcases List.mem_cons.1 hi with rfl|hi
   ·exact key.1
   ·exact PD hq key.2 i hi
theorem Io{T:TypeId}{z n:Nat}:∀ {m:List (Option Mb)} {ps:List Prop},ue T z n m=some ps->aw ps->∀b y,mb m b=some y->∀i∈y.l,si T z n i
 | [],_,_,_,b,y,hb=>by rw[cf] at hb;simp at hb
 | none::m,ps,h,hp,b,y,hb=>by
  have h:ue T z n m=some ps:=h;cases b with
  | zero=>rw[cf] at hb;simp at hb
  | succ b=>exact Io h hp b y (by rw[cf] at hb ⊢;simpa using hb)
 | some x::m,ps,h,hp,b,y,hb=>by
  unfold ue at h;split at h<;>cases h;rename_i q1 q2;obtain⟨p1,p2⟩:=aw.app hp;cases b with
  | zero =>
   rw[cf] at hb;simp only[List.getElem?_cons_zero,Option.some.injEq] at hb;subst hb;exact PD q1 p1
  | succ b=>exact Io q2 p2 b y (by rw[cf] at hb ⊢;simpa using hb)
theorem Tr.mapD_get{f:AV->AV}{v:AV}:∀ {k:Nat} {t:Tr} {i:Nat},i+1<2 ^ k->(t.mapD f k).get i=some v->∃u,t.get i=some u/\v=f u
 | 0,_,_,hi,_=>by simp at hi
 | _+1,.e,_,_,h=>by cases h
 | k+1,.n u l r,0,hi,h=>by cases h;exact⟨u,rfl,rfl⟩
 | k+1,.n u l r,j+1,hi,h=>by
  rw[Nat.pow_succ] at hi;have e:Nat.div j 2=j/2:=rfl;have hm:Nat.mod j 2=0\/Nat.mod j 2=0+1:=by have:j%2<2:=Nat.mod_lt _ (by decide);show j%2=0\/j%2=0+1;omega
  simp only[Tr.mapD,Tr.get] at h ⊢;rcases hm with g|g<;>rw[g] at h ⊢<;>simp only[e] at h ⊢<;>exact Tr.mapD_get (by omega) h
theorem a0I{T:TypeId}{i:Nat}{v:AV}(h:(sj T s).t.get i=some v):v=.any\/s.t.get i=some v/\v.its.any (vK T)=false:=by
 obtain⟨h1,h2⟩:=Tm.get_lt h;have h1:i<s.t.n:=h1;obtain⟨u,h3,h4⟩:=Tr.mapD_get (Gl h1) h2;unfold Pn at h4;split at h4
 ·exact .inl h4
 ·rename_i hn;subst h4;refine .inr ⟨?_,by simpa using hn⟩;unfold Tm.get;rw[show Nat.blt i s.t.n=true by simpa[Nat.blt_eq] using h1];exact h3
theorem RT.kill{T:TypeId}(h:RT V w r k s.t a)(hI:∀i,vK T i=false->∀cs,af V w r k i cs->af V W' r k i cs):RT V W' r k (sj T s).t a :=
 ⟨h.1,λi v hv=>by
  rcases a0I hv with rfl|⟨h1,h2⟩
  ·trivial
  ·exact (h.2 i v h1).impM λj hj=>hI j (by
    have:=List.any_eq_false.1 h2 j hj;simpa using this)⟩
theorem a0B{T:TypeId}{z n:Nat}{i:It}(h:vK T i=false):si T z n i:=by
 cases i with|ol U y m f=>exact λe=>by subst e;simp[vK] at h|gp U l=>exact λe=>by subst e;simp[vK] at h|_=>trivial
theorem Ll{t T:TypeId}{x i:It}{z m:Nat}{g:Nat->List It}{ps:List Prop}{u1 u2:Value}(hM:RM V r cm s.m w)(h1:af V w r s.m.length x [u1])(h2:af V w r s.m.length (.ol T z m g) [u2])(hd:xK P s t x T z m g=some (i,ps))(hps:aw ps)(ty:TypeId) :
  ∃u W',(Builtin.append_ #[t,t] ty #[u1,u2]).run P w=.ok u W'/\w.heap.size<=W'.heap.size/\RM V r cm s.m W'/\af V W' r s.m.length i [u]/\(∀a,RT V w r s.m.length s.t a->RT V W' r s.m.length (sj T s).t a):=by
 obtain⟨_,e2,h2⟩:=h2;cases e2;unfold xK at hd;split at hd;rotate_left
 ·cases hd
 rename_i e hu;split at hd;rotate_left
 ·cases hd
 rename_i inf zs hi hz;split at hd;rotate_left
 ·cases hd
 rename_i hb;obtain⟨⟨rfl,b1,b6⟩,b2,b4,b5⟩:=hb;obtain⟨i',zv,j1,j2,j3⟩:=uU hz;rw[hi] at j1;cases j1;have hz0:=(pK (V:=V) (W:=w) (r:=r) (k:=s.m.length) j3).cells;have hzc:zv.cells.size=z:=by have:=hz0.1;rw[b6] at this;simpa using this
 obtain⟨q,c2,ys,rfl,po2,hmc,nb2,row2⟩:=h2.po;have step:∀(n:Nat) (f:Nat->List It),eb V w r s.m.length e z n f u1->n+m<=1000->(u1=.slice none 0 0\/∀b y,mb s.m b=some y->∀i∈y.l,si e z n i) ->
   ∃u W',(Builtin.append_ #[t,t] ty #[u1,.slice q m c2]).run P w=.ok u W'/\w.heap.size<=W'.heap.size/\RM V r cm s.m W'/\eb V W' r s.m.length e z (n+m) (iw n f g) u/\(∀a,RT V w r s.m.length s.t a->RT V W' r s.m.length (sj e s).t a):=by
  intro n f hol hnm hkeep;obtain⟨p,c,xs,rfl,po1,hnc,nb1,row1⟩:=hol.po;rcases Nat.eq_zero_or_pos m with h0|h0
  ·subst h0;refine⟨_,w,L9 w hu hi hnc,Nat.le_refl _,hM,?_,λa h=>h.kill λ_ _ _ h=>h⟩;have:eb V w r s.m.length e z n (iw n f g) (.slice p n c):=by
    rcases hol with hol|⟨g',c',xs',k1,k2,k3,k4,k5,k6,k7,k8⟩
    ·exact .inl hol
    ·exact .inr ⟨g',c',xs',k1,k2,k3,k4,k5,k6,k7,λi hi=>by unfold iw;rw[if_pos hi];exact k8 i hi⟩
   exact this
  ·obtain⟨g2,cur2,rfl,hbg2,hg2,hmc2,hcm2,hcs2,htake2,hnd2⟩:∃g2 cur2,q=some ⟨g2,0,none⟩/\V.heap.size<=g2/\w.heap[g2]? = some (.cells cur2 e)/\m<=c2/\c2<=maxLen/\cur2.size=c2*z/\cur2.toList.take (m*z)=ys/\∀v∈cur2.toList,nd v:=by
    rcases po2.2 with⟨_,h,_⟩|h
    ·omega
    ·exact h
   have hys:ys.length=m*z:=po2.1;have hone:∀v∈ys,v.oneCell'=true:=by
    intro v hv;obtain⟨j,hj,rfl⟩:=List.getElem_of_mem hv;have hjm:j/z<m:=by rw[Nat.div_lt_iff_lt_mul b2];omega
    obtain⟨cs,d,k1,k2,k3⟩:=row2 (j/z) hjm;refine (k3.cells ys[j] ?_).2;have e1:j=j/z*z+j%z:=(Nat.div_add_mod' j z).symm;have hlt:=Nat.mod_lt j b2;have e2:(ys.drop (j/z*z))[j%z]? = some ys[j]:=by
     rw[List.getElem?_drop,<- e1];exact List.getElem?_eq_getElem hj
    rw[k1,List.getElem?_append_left (by omega)] at e2;exact List.mem_of_getElem? e2
   have hnews:∀j u,ys[j]? = some u->w.cell? ((⟨g2,0,none⟩:Addr).add j)=some u:=by
    intro j u hj;rw[Addr.add_mid,Nat.zero_add,cell_of_row _ _ _ _ _ _ hg2];rw[<- htake2,List.getElem?_take] at hj;split at hj
    ·simpa using hj
    ·cases hj
   obtain⟨g3,c3,W',k1,k2,k3,k4,k5⟩:=Fq (P:=P) w (t:=t) (ty:=ty) hu hi j2 b1 rfl hzc b2 (λv hv=>(hz0.2 v hv).1) po1 ⟨g2,0,none⟩ m c2 ys hys hnews hone (λv hv=>hnd2 v (List.mem_of_mem_take (htake2 ▸ hv))) h0 hnm b4 hM.ext.size;have hx:ac V W':=OM (B:=V.heap.size) hM.ext k3 λg hg=>(po1.lt g hg).1
   have dat:∀(D:Dat) cs,D.R w cs->D.R W' cs:=λD cs h=>yK po1 k3 (.inr b5) h
   obtain⟨l1,hk⟩:=k2;rcases hk with⟨hk,_⟩|⟨g',cur,hk,l2,l3,l4,l5,l6,l7,l8⟩
   ·cases hk
   cases hk;have hs:∀g0 cu,p=some ⟨g0,0,none⟩->w.heap[g0]? = some (.cells cu e)->∃cur',W'.heap[g0]? = some (.cells cur' e)/\cur'.size=cu.size/\cur'.toList.take (n*z)=cu.toList.take (n*z)/\∀v∈cur'.toList,nd v:=by
    intro g0 cu hp0 hg0;rcases po1.2 with⟨h,_⟩|⟨gp,cp,h,_,m1,m2,_,m3,m4,m5⟩
    ·rw[hp0] at h;cases h
    rw[hp0] at h;cases h;rw[hg0] at m1;simp only[Option.some.injEq,Obj.cells.injEq,and_true] at m1;subst m1;obtain⟨cur',n1,n2,n3,n4⟩:=k5 g0 cu e hp0 hg0;exact⟨cur',n1,n2,n3,n4 m5⟩
   have hI:∀i,(cQ p=none\/si e z n i)->∀cs,af V w r s.m.length i cs->af V W' r s.m.length i cs:=VJ b5 po1 k3 nb1 hs;refine⟨.slice (some ⟨g3,0,none⟩) (n+m) c3,W',k1,k3.size,⟨hx,λb y hb=>?_,hM.lo,hM.inj,λb hb=>Nat.lt_of_lt_of_le (hM.bd b hb) k3.size⟩,.inr ⟨g3,c3,cur,rfl,⟨l2,λb hb e=>?_⟩,l3,l4,l5,l6,l8,λi hi=>?_⟩,λa h=>h.kill λi hi=>hI i (.inr (a0B hi))⟩
   ·obtain ⟨q1, q2⟩ := hM.blk b y hb;refine⟨by rw[k3.block _ (Array.getElem?_eq_some_iff.1 q1).1 (λe=>nb1 _ e.symm b (cZ hb) rfl)];exact q1,q2.impM λi hi=>hI i ?_⟩;rcases hkeep with hk|hk
    ·cases hk;exact .inl rfl
    ·exact .inr (hk b y hb i hi)
   ·rcases k4 with k4 | k4
    ·exact nb1 g3 k4.symm b hb e
    ·have:=hM.bd b hb;omega
   ·obtain ⟨d0, e0⟩ := drop_take (k := i * z) l7;unfold iw;by_cases hin:i<n
    ·rw [if_pos hin];obtain⟨cs,d,j1,j2,j3⟩:=row1 i hin;have hz:i*z<=n*z:=Nat.mul_le_mul_right _ (Nat.le_of_lt hin);refine⟨cs,d++(ys++d0),?_,j2,j3.mono dat⟩;rw[e0,List.drop_append_of_le_length (by rw[po1.1];exact hz),j1,List.append_assoc,List.append_assoc]
    ·rw [if_neg hin];obtain⟨cs,d,j1,j2,j3⟩:=row2 (i-n) (by omega);refine⟨cs,d++d0,?_,j2,j3.mono dat⟩;have hz:n*z<=i*z:=Nat.mul_le_mul_right _ (by omega);rw[e0,List.drop_append,List.drop_eq_nil_of_le (by rw[po1.1];exact hz),po1.1,<- Nat.sub_mul,j1];simp
 split at hd
 ·cases hd;obtain rfl:u1=_:=by simpa using h1.1
  obtain⟨u,W',k1,k2,k3,k4,k5⟩:=step 0 (λ_=>[]) (.inl ⟨rfl,rfl⟩) (by have:=hps.1;omega) (.inl rfl);have ea:iw 0 (λ_=>[]) g=g:=by funext i;simp[iw]
  rw[Nat.zero_add,ea] at k4;exact⟨u,W',k1,k2,k3,⟨u,rfl,k4⟩,k5⟩
 ·split at hd
  ·rename_i hc;rename_i T' z' n f;obtain⟨rfl,rfl⟩:=hc;cases hl:ue T' z' n s.m with|none=>rw[hl] at hd;cases hd|some ps' =>
    rw[hl] at hd;simp only[Option.map_some,Option.some.injEq,Prod.mk.injEq] at hd;obtain⟨rfl,rfl⟩:=hd;obtain⟨_,e3,h1⟩:=h1;cases e3;obtain⟨u,W',k1,k2,k3,k4,k5⟩:=step n f h1 hps.1 (.inr (Io hl hps.2));exact⟨u,W',k1,k2,k3,⟨u,rfl,k4⟩,k5⟩
  ·cases hd
 ·cases hd
end
end
end Go.Proofs.YtghemgdfmldoeaaGreat
