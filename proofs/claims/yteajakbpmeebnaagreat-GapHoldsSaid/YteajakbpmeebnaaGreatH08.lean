import Derived.Test.YteajakbpmeebnaaGreatH07
import Derived.Deep.AppendLies
import Derived.Great.BuildSlice
set_option linter.unusedVariables false
set_option linter.unusedSimpArgs false

namespace Go.Proofs.YteajakbpmeebnaaGreat
open Go.RowKit

section
section
variable {P:Program} {V:World} {r r':Nat->Nat} {k k':Nat} {s s':St} {a:Act} {F S:World->Prop} {o:Oper} {W W' w:World} {cm cm':Nat->List Value} {m:List (Option Mb)} {E:Env} {call:CallF} {q q':List Bool} {v:AV} {ob:Ob} {ops:Array Oper}
theorem run_allocA{t:TypeId}{i:TypeInfo}{z:Value}(hi:P.info? t=some i)(hz:i.zero=some z)(w:World):(Instr.alloc t true (.tuple #[])).run P w=.ok (.pointer (some ⟨w.heap.size,0,none⟩)) (w.alloc (.cells z.cells t)):=by
 simp[Instr.alloc,zeroValue,typeInfo,hi,hz,newVar,newRow,Sem.run_bind]
theorem run_boxA{t:TypeId}(x:Value)(w:World):(Instr.box t x).run P w=.ok (.pointer (some ⟨w.heap.size,0,none⟩)) (w.alloc (.cells x.cells t)):=by
 simp[Instr.box,newVar,newRow]
theorem run_storeA{t T:TypeId}{g j n:Nat}{x:Value}{old vs:List Value}(hg:w.heap[g]? = some (.cells old.toArray T))(hx:x.cells=vs.toArray)(hn:szT P t=some n)(hl:vs.length=n)(hj:j+vs.length<=old.length)(h1:∀v∈vs,v.oneCell'=true) :
  (Instr.storeAt t (.pointer (some ⟨g,j,none⟩)) x).run P w=.ok () (w.setRow g (old.take j++(vs++old.drop (j+vs.length))).toArray):=by
 have e:storeVar t ⟨g,j,none⟩ x=storeVar t ⟨g,j,none⟩ (.agg x.cells):=rfl
 simp only[Instr.storeAt,Instr.sureAddr,Sem.run_bind,Sem.run_pure,Result.andThen_ok,e,hx]
 rw[run_storeVar_at (P:=P) w g j T t old.toArray vs.toArray hg (by rw[show (P.info? t).map (·.size)=some n from hn];simp[hl]) (by simpa using hj) (by simpa[Array.all_eq_true_iff_forall_mem] using h1)]
 simp[putAt]
theorem Rep0.ext{i:It}{cs:List Value}(hx:Ext W W')(h:Rep0 W i cs):Rep0 W' i cs:=by
 cases i with
 | d D=>exact Dat.ext hx h
 | o D=>exact Dat.ext hx h
 | ds L=>obtain⟨v,e,h⟩:=h;exact⟨v,e,h.ext hx⟩
 | ro z n f=>obtain⟨v,e,h⟩:=h;exact⟨v,e,h.imp hx fun _ _ h=>h.ext hx⟩
 | _=>exact h
theorem RepF.ext(hx:Ext W W'):∀ {l:List It} {cs:List Value},RepF W l cs->RepF W' l cs
 | [],_,e=>e
 | _::_,_,⟨c,d,e,h1,h2⟩=>⟨c,d,e,h1.ext hx,RepF.ext hx h2⟩
theorem np_0{i:It}{cs:List Value}(hx:Ext V W)(hi:i.np=true)(h:RepI V W r k i cs):Rep0 W (unO i) cs:=by
 cases i with
 | o D=>exact Dat.ext hx h
 | i _ _=>exact h
 | k _=>exact h
 | v _=>exact h
 | b _=>exact h
 | d _=>exact h
 | fc _ _=>exact h
 | _=>cases hi
theorem np_F(hx:Ext V W):∀ {l:List It} {cs:List Value},l.all It.np=true->RepL V W r k l cs->RepF W (l.map unO) cs
 | [],_,_,e=>e
 | i::l,_,hl,⟨c,d,e,h1,h2⟩=>by
  simp only[List.all_cons,Bool.and_eq_true] at hl
  exact⟨c,d,e,np_0 hx hl.1 h1,np_F hx hl.2 h2⟩
theorem frzL_rep{l l':List It}{cs:List Value}(hx:Ext V W)(h:frzL l=some l')(hr:RepL V W r k l cs):RepF W l' cs:=by
 unfold frzL at h
 split at h<;>cases h
 exact np_F hx (by assumption) hr
theorem argI_rep(hM:RM V r cm m W){i j:It}{cs:List Value}(h:argI m i=some j)(hr:RepI V W r m.length i cs):RepI W W (fun _=>0) 0 j cs:=by
 have hx:=hM.ext
 unfold argI at h
 split at h
 ·rename_i b o
  cases hb:mb m b with
  | none=>simp[hb] at h
  | some x =>
   cases hc:cutI x.l o with
   | none=>simp[hb,hc] at h
   | some z =>
    obtain⟨u1,u2⟩:=z
    cases hf:frzL u2 with
    | none=>simp[hb,hc,hf] at h
    | some l =>
     simp only[hb,hc,hf,Option.bind_some,Option.map_some,Option.some.injEq] at h
     subst h
     obtain⟨h1,c,d,e,h2,h3⟩:=hM.blk b x hb
     obtain⟨k1,k2,k3⟩:=cutI_rep hc h2
     refine⟨r b,o,(cm b).toArray,(x.T,(0,0)),hr.2,h1,by rw[e];simp;omega,c.drop o,d,?_,frzL_rep hx hf k2⟩
     rw[e,List.toList_toArray,List.drop_append_of_le_length k3]
 ·rename_i b n z
  cases hb:mb m b with
  | none=>simp[hb] at h
  | some x =>
   cases hc:cutI x.l (n*z) with
   | none=>simp[hb,hc] at h
   | some zz =>
    obtain⟨u1,u2⟩:=zz
    cases hf:frzL u1 with
    | none=>simp[hb,hc,hf] at h
    | some l =>
     simp only[hb,hc,hf,Option.bind_some,Option.map_some,Option.some.injEq] at h
     subst h
     obtain⟨h1,c,d,e,h2,h3⟩:=hM.blk b x hb
     obtain⟨k1,k2,k3⟩:=cutI_rep hc h2
     obtain⟨_,q,xs,T,q1,q2,q3,q4,q5⟩:=hr
     rw[h1] at q2
     cases q2
     refine⟨r b,q,(cm b).toArray,(x.T,(0,0)),q1,h1,q4,q5,Nat.zero_le _,c.take (n*z),c.drop (n*z)++d,?_,frzL_rep hx hf k1,by simp;omega⟩
     rw[e,List.toList_toArray,List.drop_zero,<- List.append_assoc,List.take_append_drop]
 ·cases h
 ·cases h
 ·cases h
 ·cases h
  exact Dat.ext hx hr
 ·cases h
  rename_i h1 h2 h3 h5 h6 h4
  cases i with
  | p b o=>exact absurd rfl (h1 b o)
  | sl b n z=>exact absurd rfl (h2 b n z)
  | fn f c=>exact absurd rfl (h3 f c)
  | dr L k=>exact absurd rfl (h5 L k)
  | px b z n l=>exact absurd rfl (h6 b z n l)
  | o D=>exact absurd rfl (h4 D)
  | ds L=>obtain⟨v,e,h⟩:=hr;exact⟨v,e,h.ext hx⟩
  | ro z n f=>obtain⟨v,e,h⟩:=hr;exact⟨v,e,h.imp hx fun _ _ h=>h.ext hx⟩
  | fp l =>
   obtain⟨g,o,xs,T,q1,q2,q3,c,d,q4,q5⟩:=hr
   exact⟨g,o,xs,T,q1,heap_ext q2 hx,q3,c,d,q4,q5.ext hx⟩
  | fs o l n z =>
   obtain⟨g,q,xs,T,q1,q2,q3,q4,q5,c,d,q6,q7,q8⟩:=hr
   exact⟨g,q,xs,T,q1,heap_ext q2 hx,q3,q4,q5,c,d,q6,q7.ext hx,q8⟩
  | _=>exact hr
theorem argL_rep(hM:RM V r cm m W):∀ {l l':List It} {cs:List Value},argL m l=some l'->RepL V W r m.length l cs->RepL W W (fun _=>0) 0 l' cs
 | [],_,_,h,e=>by cases h;exact e
 | i::l,l',_,h,⟨c,d,e,h1,h2⟩=>by
  unfold argL at h
  split at h<;>cases h
  exact⟨c,d,e,argI_rep hM (by assumption) h1,argL_rep hM (by assumption) h2⟩
theorem argVs_rep(hM:RM V r cm m W):∀ {l l':List V1} {xs:List Value},argVs m l=some l'->RepVs V W r m.length l xs->RepVs W W (fun _=>0) 0 l' xs
 | [],_,_,h,e=>by cases h;exact e
 | v::l,l',_,h,⟨x,ys,e,⟨cs,h1,h2,h3⟩,h4⟩=>by
  unfold argVs at h
  split at h<;>cases h
  exact⟨x,ys,e,⟨cs,argL_rep hM (by assumption) h1,h2,h3⟩,argVs_rep hM (by assumption) h4⟩
theorem RepVs.app:∀ {l l':List V1} {xs ys:List Value},RepVs V W r k l xs->RepVs V W r k l' ys->RepVs V W r k (l++l') (xs++ys)
 | [],_,_,_,e,h=>by cases e;exact h
 | _::_,_,_,_,⟨x,zs,e,h1,h2⟩,h=>⟨x,zs++_,by rw[e];rfl,h1,RepVs.app h2 h⟩
theorem caps_rep:∀ {l:List (Nat×Nat)},(∀p∈l,p.1<k)->RepVs V W r k (l.map fun p=>⟨false,[.p p.1 p.2]⟩) (l.map fun p=>Value.pointer (some ⟨r p.1,p.2,none⟩))
 | [],_=>rfl
 | p::l,h=>⟨_,_,rfl,RepI.val (i:=.p p.1 p.2) ⟨h p (by simp),rfl⟩,caps_rep fun q hq=>h q (List.mem_cons_of_mem _ hq)⟩
theorem fnA_rep(hT:RT V W r k s.t a){x:Operand}{f:FuncId}{cap:List (Nat×Nat)}(h:fnA s x=some (f,cap)):(∀p∈cap,p.1<k)/\a.eval x=.func (.func f) #[] (cap.map fun p=>Value.pointer (some ⟨r p.1,p.2,none⟩)).toArray:=by
 unfold fnA at h
 split at h
 ·rename_i g u c hx
  split at h
  ·rename_i hb
   simp only[Bool.and_eq_true,beq_iff_eq] at hb
   cases h
   refine⟨nofun,?_⟩
   have:=(evI_rep hT hx).1
   rw[show a.eval x=Value.func (.func f) u c by simpa using this,Array.eq_empty_of_size_eq_zero hb.1,Array.eq_empty_of_size_eq_zero hb.2]
   rfl
  ·cases h
 ·rename_i g c hx
  cases h
  have:=evI_rep hT hx
  exact⟨this.1,by simpa using this.2⟩
 ·cases h
theorem run_enter {f : FuncId} {fn : Func} {c : Code} {cl : Call} {x : Operand} {caps : Array Value} (hN : ∀ (f : FuncId) (fn : Func), P.funcs[f]? = some fn -> (fn.name == "runtime.NumGoroutine") = false) (hf : P.funcs[f]? = some fn) (hb : fn.body = some c) (ho : o.op = .call cl) (hc : cl.callee = .value x)
  (hx:a.eval x=.func (.func f) #[] caps) (w:World):(execOp a.eval o).run P w=.ok (.enter f (cl.args.map a.eval++caps)) w:=by
 have h1 : fn.name ≠ "runtime.NumGoroutine" := by simpa using hN f fn hf
 unfold execOp
 simp only[ho,resolve,hc,hx,Deferred.ofValue,Sem.run_bind,Sem.run_pure,Result.andThen_ok,invoke,callFunc,program,Sem.run,hf]
 simp[h1,hb]
theorem call_body{f:FuncId}{c:Code}(h:(P.funcs[f]?).bind (·.body)=some c):∃fn,P.funcs[f]? = some fn/\fn.body=some c:=by
 cases hf:P.funcs[f]? with
 | none=>simp[hf] at h
 | some fn=>exact⟨fn,rfl,by simpa[hf] using h⟩
theorem mms_kind{b:Builtin}{ts:List TypeId}{l:List V1}{z:It×List Prop}{c:Call}(hq:mms P b ts l=some z)(ho:o.op=.call c)(hc:c.callee=.builtin b):fkind o=0:=by
 unfold mms at hq
 unfold fkind
 rw[ho]
 simp only[hc]
 split at hq<;>(try (cases hq;done))
 ·split at hq <;> (try (cases hq; done))
  split at hq<;>first|rfl|cases hq
 ·split at hq<;>first|rfl|cases hq
 ·split at hq<;>first|rfl|cases hq
theorem RT.refine{t:Tm}{d:Nat}{v u:AV}(h:RT V W r k t a)(hv:t.get d=some u)(h2:RepA V W r k v (a.tmps.getD d undef)):RT V W r k (t.set d v) a:=by
 refine⟨h.1,fun i x hi=>?_⟩
 rcases Tm.get_set hi with⟨rfl,rfl,hlt⟩|⟨hd,hi⟩
 ·exact h2
 ·exact h.2 i x hi
theorem gdA_rep{d:Bool}{ps:List Prop}{s1:St}(h:gdA ops o s q=some (d,s1,ps,q'))(hp:All ps):s1.m=s.m/\∀W,RT V W r k s.t a->RT V W r k s1.t a/\Region.wanted o (yielded ops a.tmps)=d:=by
 unfold gdA at h
 unfold Region.wanted
 split at h
 ·rename_i hg
  cases h
  rw[hg]
  exact⟨rfl,fun W h=>⟨h,rfl⟩⟩
 ·rename_i j want hg
  rw[hg]
  simp only
  split at h
  ·cases h
  ·rename_i t ht
   have key:∀W v,RT V W r k s.t a->s.t.get t=some v->yielded ops a.tmps j=match a.tmps.getD t undef with | .bool b=>some b|_=>none:=by
    intro W v hT hv
    have hlt:t<a.tmps.size:=by rw[hT.1];exact (Tm.get_lt hv).1
    unfold yielded
    rw[ht]
    simp[hlt]
    split<;>simp_all
   split at h
   ·rename_i hv
    cases h
    refine⟨rfl,fun W hT=>⟨hT,?_⟩⟩
    have h1:a.tmps.getD t undef=undef:=hT.2 t _ hv
    rw[key W _ hT hv,h1]
    rfl
   ·rename_i b hv
    cases h
    refine⟨rfl,fun W hT=>⟨hT,?_⟩⟩
    have h1:RepV V W r k _ _:=hT.2 t _ hv
    have h3:a.tmps.getD t undef=.bool b:=by simpa using (show [a.tmps.getD t undef]=[Value.bool b] from h1.scal)
    rw[key W _ hT hv,h3]
    simp
   ·rename_i b hv
    split at h
    ·cases h
     have e:=hp.1
     refine⟨rfl,fun W hT=>?_⟩
     have h1:RepV V W r k _ _:=hT.2 t _ hv
     have h3:a.tmps.getD t undef=.bool b:=by simpa using h1.scal.1
     refine⟨hT.refine hv ?_,?_⟩
     ·rw [h3, e]
      exact RepI.val (i:=.b _) rfl
     ·rw [key W _ hT hv, h3, <- e]
      simp
    ·cases h
   ·cases h
end
end
def blkO(p:Option Addr):Option Nat:=p.map (·.block)
def PO(w:World)(B:Nat)(E:TypeId)(size:Nat)(p:Option Addr)(n c:Nat)(xs:List Value):Prop :=
 xs.length=n*size/\((p=none/\n=0/\c=0) \/
  ∃g cur,p=some ⟨g,0,none⟩/\B<=g/\w.heap[g]? = some (.cells cur E)/\n<=c/\c<=maxLen/\cur.size=c*size/\cur.toList.take (n*size)=xs/\∀v∈cur.toList,nd v)
theorem PO.nil(w:World)(B:Nat)(E:TypeId)(size:Nat):PO w B E size none 0 0 []:=⟨by simp,.inl ⟨rfl,rfl,rfl⟩⟩
theorem PO.apart{w:World}{B:Nat}{E:TypeId}{size:Nat}{p:Option Addr}{n c:Nat}{xs:List Value}(h:PO w B E size p n c xs){m:Bool}{q:Option Addr}{k d:Nat}{x:Nm}(hn:NR w m q k d x) :
  0<x.d.length->∀a,q=some a->some a.block≠blkO p:=by
 intro h0 a ha e
 rcases h.2 with⟨hz,_⟩|⟨g,cur,h1,h2,h3,_,_,_,_,h8⟩
 ·rw[hz] at e;cases e
 ·obtain ⟨b, o, rfl, hlt, hc⟩ := hn.2.2.2.2.2 h0
  cases ha
  rw[h1] at e
  simp only[blkO,Option.map_some,Option.some.injEq] at e
  subst e
  have:=hc 0 h0
  rw[cell_of_row _ _ _ _ _ _ h3] at this
  exact h8 _ (by simpa using Array.mem_of_getElem? this) _ rfl
theorem NR.grow{w w':World}{B:Nat}{E:TypeId}{size:Nat}{p:Option Addr}{n c:Nat}{xs:List Value}{m:Bool}{q:Option Addr}{k d:Nat}{x:Nm}(hn:NR w m q k d x)(h:PO w B E size p n c xs)(hg:w.grownBy w' (blkO p)):NR w' m q k d x:=by
 have ha:=h.apart hn
 obtain⟨h1,h2,h3,h4,h5,h6⟩:=hn
 refine⟨h1,h2,h3,h4,h5,fun h0=>?_⟩
 obtain⟨b,o,rfl,hlt,hc⟩:=h6 h0
 refine⟨b,o,rfl,Nat.lt_of_lt_of_le hlt hg.size,fun i hi=>?_⟩
 rw[<- hc i hi]
 exact World.cell?_of_block (hg.block b hlt (ha h0 _ rfl))
theorem ext_grow{V w w':World}{B:Nat}{p:Option Addr}(h:Ext V w)(hg:w.grownBy w' (blkO p))(hB:∀g,blkO p=some g->V.heap.size<=g):Ext V w' :=
 ⟨hg.os.trans h.os,hg.tape.trans h.tape,hg.output.trans h.output,Nat.le_trans h.size hg.size,fun k hk=>(hg.block k (Nat.lt_of_lt_of_le hk h.size) (fun e=>by have:=hB k e.symm;omega)).trans (h.block k hk)⟩
theorem nd_zero{z:Array Value}(h:∀v∈z.toList,nd v)(hz:0<z.size)(n:Nat):∀v∈(Builtin.zeroCells z n).toList,nd v:=by
 intro v hv
 simp only[Builtin.zeroCells,Array.toList_map,List.mem_map] at hv
 obtain⟨i,_,rfl⟩:=hv
 have hlt:i%z.size<z.size:=Nat.mod_lt _ hz
 rw[getElem!_pos z _ hlt]
 exact h _ (by simp)
theorem append_PO{P:Program}(W:World){B:Nat}{t ty E:TypeId}{i:TypeInfo}{z:Value}{size bytes:Nat}(ht:P.underlying t=some (.slice E))(hi:P.info? E=some i)(hz:i.zero=some z)(hsize:i.size=size)(hby:i.bytes=bytes)
  (hzs:z.cells.size=size) (hsz:0<size) (hzn:∀v∈z.cells.toList,nd v) {p:Option Addr} {n c:Nat} {xs:List Value} (h:PO W B E size p n c xs) (a:Addr) (m c':Nat) (news:List Value) (hl:news.length=m*size)
  (hnews:∀j u,news[j]? = some u->W.cell? (a.add j)=some u) (h1:∀u∈news,u.oneCell'=true) (hnn:∀v∈news,nd v) (hm:0<m) (hn:n+m<=1000) (hb:bytes<=4096) (hB:B<=W.heap.size) :
  ∃g c2 W',(Builtin.append_ #[t,t] ty #[.slice p n c,.slice (some a) m c']).run P W=.ok (.slice (some ⟨g,0,none⟩) (n+m) c2) W'/\PO W' B E size (some ⟨g,0,none⟩) (n+m) c2 (xs++news)/\W.grownBy W' (blkO p)/\(some g=blkO p\/W.heap.size<=g)/\∀g0 cur T,p=some ⟨g0,0,none⟩->W.heap[g0]? = some (.cells cur T)->∃cur',W'.heap[g0]? = some (.cells cur' T)/\cur'.size=cur.size:=by
 subst hsize
 subst hby
 have hsmall:n+m<=maxLen:=by unfold maxLen;omega
 have hbb:(n+m)*i.bytes<=140737488355328:=Nat.le_trans (Nat.mul_le_mul hn hb) (by decide)
 have hlen:(xs++news).length=(n+m)*i.size:=by rw[List.length_append,h.1,hl,Nat.add_mul]
 have grown:∀(old:Nat),old<n+m->(∀v∈xs,nd v)->∀row:Option Nat,
   PO (W.drew.alloc (.cells (xs.toArray++news.toArray++Builtin.zeroCells z.cells (grownCap W (n+m) old E-(n+m))) E)) B E i.size (some ⟨W.heap.size,0,none⟩) (n+m) (grownCap W (n+m) old E) (xs++news) /\
    W.grownBy (W.drew.alloc (.cells (xs.toArray++news.toArray++Builtin.zeroCells z.cells (grownCap W (n+m) old E-(n+m))) E)) row:=by
  intro old ho hx row
  have hge:=grownCap_ge W (n+m) old E
  have hcm:grownCap W (n+m) old E<=maxLen:=grownCap_le_maxLen W (n+m) old E hsmall
  refine⟨⟨hlen,.inr ⟨W.heap.size,_,rfl,hB,heap_alloc_new W.drew _,hge,hcm,?_,?_,?_⟩⟩,⟨rfl,rfl,rfl,by simp,fun k hk _=>heap_alloc_old W.drew _ hk⟩⟩
  ·simp only [Array.size_append, List.size_toArray, size_zeroCells, hzs, h.1, hl, <- Nat.add_mul]
   congr 1
   omega
  ·simp only [Array.toList_append, List.append_assoc]
   rw[<- List.append_assoc,<- hlen]
   exact List.take_left
  ·intro v hv
   simp only[Array.toList_append,List.mem_append] at hv
   rcases hv with (hv|hv)|hv
   ·exact hx v hv
   ·exact hnn v hv
   ·exact nd_zero hzn (by omega) _ v hv
 rcases h.2 with⟨rfl,rfl,rfl⟩|⟨g,cur,rfl,hbg,hg,hnc,hcm,hcs,htake,hnd⟩
 ·have hx : xs = [] := List.eq_nil_of_length_eq_zero (by simpa using h.1)
  subst hx
  have hr:=run_append_nil (P:=P) W t ty E i z ht hi hz a m c' news hl hnews hm (by omega) (by simp only[Nat.zero_add] at hbb;omega)
  have hgr:=grown 0 (by omega) (by simp) (blkO none)
  simp only[Nat.zero_add,List.nil_append,Array.empty_append] at hgr ⊢
  exact⟨_,_,_,hr,hgr.1,hgr.2,.inr (Nat.le_refl _),nofun⟩
 ·have hxn : ∀ v ∈ xs, nd v := fun v hv => hnd v (List.mem_of_mem_take (htake ▸ hv))
  by_cases hroom:n+m<=c
  ·have hfit : n * i.size + news.length <= cur.size := by rw [hl, hcs, <- Nat.add_mul]; exact Nat.mul_le_mul_right _ hroom
   have hr:=run_append_room (P:=P) W t ty E i ht hi g n c cur hg a m c' news hl hnews h1 hroom hfit
   refine⟨_,_,_,hr,⟨hlen,.inr ⟨g,_,rfl,hbg,setRow_heap W g cur _ E _ hg,hroom,hcm,?_,?_,?_⟩⟩,⟨rfl,rfl,rfl,by simp,fun k _ hk=>setRow_other W g k _ (fun e=>hk (by simp[blkO,e]))⟩,.inl rfl,fun g0 cu T e hc=>?_⟩
   ·simp only [List.size_toArray, List.length_append, List.length_take, List.length_drop, Array.length_toList]
    omega
   ·rw [htake, <- hlen]
    exact List.take_left
   ·intro v hv
    simp only[List.mem_append] at hv
    rcases hv with (hv|hv)|hv
    ·exact hnd v (List.mem_of_mem_take hv)
    ·exact hnn v hv
    ·exact hnd v (List.mem_of_mem_drop hv)
   ·cases e
    rw[hg] at hc
    cases hc
    exact⟨_,setRow_heap W g cur _ E _ hg,by simp only[List.size_toArray,List.length_append,List.length_take,List.length_drop,Array.length_toList];omega⟩
  ·have holds:∀j u,xs[j]? = some u->W.cell? ((⟨g,0,none⟩:Addr).add j)=some u:=by
    intro j u hj
    rw[show (⟨g,0,none⟩:Addr).add j=⟨g,j,none⟩ by (unfold Addr.add;split<;>simp_all),cell_of_row W g j cur _ (0,0) hg]
    rw[<- htake,List.getElem?_take] at hj
    split at hj
    ·simpa using hj
    ·cases hj
   have hr:=run_append_grow (P:=P) W t ty E i z ht hi hz ⟨g,0,none⟩ n c xs h.1 holds a m c' news hl hnews (by omega) (by unfold maxLen at hsmall;omega) (growslice_fits (by omega) hbb)
   have hgr:=grown c (by omega) hxn (blkO (some ⟨g,0,none⟩))
   exact⟨_,_,_,hr,hgr.1,hgr.2,.inr (Nat.le_refl _),fun g0 cu T e hc=>⟨cu,by rw[show (W.drew.alloc _).heap[g0]? = W.drew.heap[g0]? from heap_alloc_old W.drew _ (Array.getElem?_eq_some_iff.1 hc).1];exact hc,rfl⟩⟩

section
section
variable {P:Program} {V:World} {r r':Nat->Nat} {k k':Nat} {s s1:St} {a:Act} {F S:World->Prop} {o:Oper} {W W' w:World} {cm cm':Nat->List Value} {m:List (Option Mb)} {q q':List Bool} {v:AV} {ob:Ob}
theorem rep_flat{zs:List It}{c:List Value}:∀n:Nat,RepL V W r k zs c->RepL V W r k (List.replicate n zs).flatten (List.replicate n c).flatten
 | 0,_=>rfl
 | n+1,h=>by
  rw[List.replicate_succ,List.replicate_succ,List.flatten_cons,List.flatten_cons]
  exact h.app (rep_flat n h)
theorem range_flat(z:Array Value)(hz:0<z.size):∀n:Nat,((Array.range (n*z.size)).map (z[·%z.size]!)).toList=(List.replicate n z.toList).flatten
 | 0=>by simp
 | n+1=>by
  rw[List.replicate_succ',List.flatten_append,<- range_flat z hz n]
  apply List.ext_getElem?
  intro i
  simp only[Array.toList_map,Array.toList_range,List.getElem?_map,List.getElem?_append,List.length_map,List.length_range,List.flatten_cons,List.flatten_nil,List.append_nil]
  by_cases h1:i<n*z.size
  ·rw[if_pos h1,List.getElem?_range (by rw[Nat.succ_mul];omega),List.getElem?_range h1]
  ·rw [if_neg h1]
   by_cases h2:i<(n+1)*z.size
   ·rw [List.getElem?_range h2]
    rw[Nat.succ_mul] at h2
    have h3:i-n*z.size<z.size:=by omega
    have h4:i%z.size=i-n*z.size:=by
     have:i=(i-n*z.size)+z.size*n:=by rw[Nat.mul_comm z.size n];omega
     rw[this,Nat.add_mul_mod_self_left,Nat.mod_eq_of_lt h3,Nat.mul_comm z.size n,Nat.add_sub_cancel]
    have h5:z[i-n*z.size]! = z[i-n*z.size]:=getElem!_pos z _ h3
    simp only[Option.map_some,h4,h5]
    simp[h3]
   ·rw [List.getElem?_eq_none (by simpa using h2)]
    rw[Nat.succ_mul] at h2
    simp;omega
theorem exec_val'{m:Sem Value}{x:Value}{w W:World}(he:execOp a.eval o=do pure (.value (<- m)))(h:m.run P w=.ok x W):(execOp a.eval o).run P w=.ok (.value x) W:=by
 rw[he,Sem.run_bind,h];rfl
theorem fill_len{pl:Nat->Option (Nat×Nat)}:∀ {ps:List (Nat×Value)} {cs ds:List Value},Instr.fill pl cs.toArray ps=some ds.toArray->ds.length=cs.length
 | [],cs,ds,h=>by rw[Instr.fill] at h;simp at h;rw[h]
 | (f,v)::ps,cs,ds,h=>by
  rw[Instr.fill] at h
  split at h
  ·cases h
  ·rename_i o n _
   split at h
   ·cases h
   ·have key:∀(l:List (Value×Nat)) (c:Array Value),(l.foldl (fun cs (x:Value×Nat)=>cs.setIfInBounds (o+x.2) x.1) c).size=c.size:=by
     intro l
     induction l with
     | nil=>intro c;rfl
     | cons x l ih=>intro c;rw[List.foldl_cons,ih];simp
    have h2:∀c:Array Value,(v.cells.zipIdx.foldl (fun cs (x:Value×Nat)=>cs.setIfInBounds (o+x.2) x.1) c)=(v.cells.zipIdx.foldl (fun cs (x:Value×Nat)=>cs.setIfInBounds (o+x.2) x.1) c).toList.toArray:=fun c=>by simp
    rw[h2] at h
    rw[fill_len h,Array.length_toList,<- Array.foldl_toList,key]
    simp
theorem D_build(h:HT V r k s a F){t e:TypeId}{len z:Nat}{ps:Array (Nat×Operand)}{l:List (Nat×V1)}{zs c:List It}(ho:o.op=.buildSlice t len ps)(hu:P.underlying t=some (.slice e))(hl:evPs s ps.toList=some l)(hz:szT P e=some z)(hzs:zeroT P e=some zs)
  (hb:(0<len*z/\len*z<=16777216/\len<=1000)/\(zs.map It.n).sum=z) (hf:fills (fun i=>some (i*z,z)) (List.replicate len zs).flatten l=some c) :
  ∃cs:List Value,(∀w,(execOp a.eval o).run P w=.ok (.value (.slice (some ⟨w.heap.size,0,none⟩) len len)) (w.alloc (.cells cs.toArray e)))/\(∀W,F W->RepL V W r k c cs)/\cs.length=len*z:=by
 obtain⟨ie,zv,i1,i2,i3⟩:=zeroT_zero hzs
 have hsz:ie.size=z:=by unfold szT at hz;rw[i1] at hz;simpa using hz
 obtain⟨W0,h0⟩:=h.ex
 have hzl:zv.cells.size=z:=by
  have:=(toIts_rep (V:=V) (W:=W0) (r:=r) (k:=k) i3).cells.1
  rw[hb.2] at this
  simpa using this
 have hz0:0<z:=Nat.pos_of_mul_pos_left hb.1.1 |> fun h=>by
  rcases Nat.eq_zero_or_pos z with e|e
  ·rw[e] at hb;omega
  ·exact e
 obtain⟨ds,k1,k2⟩:=h.evPs hl hf (cs:=(List.replicate len zv.cells.toList).flatten) (fun W _=>rep_flat len (toIts_rep i3))
 refine⟨ds,fun w=>?_,k2,?_⟩
 rotate_left
 ·rw [fill_len k1]
  simp[hzl]
 have e1:(Array.range (len*ie.size)).map (zv.cells[·%zv.cells.size]!)=((List.replicate len zv.cells.toList).flatten).toArray:=by
  apply Array.toList_inj.1
  rw[hsz,<- hzl,range_flat zv.cells (by omega) len]
 have:=run_buildSlice (P:=P) w t e len (ps.map fun (i,x)=>(i,a.eval x)) ds.toArray ie zv hu i1 i2 (by rw[hsz];omega) (by rw[hsz];omega) (by
  rw[e1,hsz]
  have e2:(ps.map fun (i,x)=>(i,a.eval x)).toList=ps.toList.map fun x=>(x.1,a.eval x.2):=by simp
  rw[e2]
  exact k1)
 exact exec_val' (by unfold execOp;rw[ho]) this
theorem grow_I{B:Nat}{E:TypeId}{size n c:Nat}{p:Option Addr}{xs:List Value}(hp:PO w B E size p n c xs)(hg:w.grownBy W' (blkO p))(hs:∀g0 cur T,p=some ⟨g0,0,none⟩->w.heap[g0]? = some (.cells cur T)->∃cur',W'.heap[g0]? = some (.cells cur' T)/\cur'.size=cur.size)
  (i:It) (cs:List Value):RepI V w r k i cs->RepI V W' r k i cs:=by
 cases i with
 | d D =>
  cases D with
  | num x=>exact fun ⟨n,q,l,c,e,h⟩=>⟨n,q,l,c,e,h.grow hp hg⟩
  | zi x B=>exact fun ⟨⟨n,q,l,c,e,h⟩,hb⟩=>⟨⟨n,q,l,c,e,h.grow hp hg⟩,hb⟩
 | sl b n z =>
  refine fun ⟨h0,c,ys,T,h1,h2,h3,h4⟩=>?_
  by_cases e:blkO p=some (r b)
  ·have hpe:p=some ⟨r b,0,none⟩:=by
    rcases hp.2 with⟨rfl,_⟩|⟨g,cur,rfl,_⟩
    ·cases e
    ·simp only[blkO,Option.map_some,Option.some.injEq] at e;rw[e]
   obtain⟨cur',k1,k2⟩:=hs (r b) ys T hpe h2
   exact⟨h0,c,cur',T,h1,k1,by rw[h3,k2],h4⟩
  ·exact⟨h0,c,ys,T,h1,by rw[hg.block _ (Array.getElem?_eq_some_iff.1 h2).1 (fun h=>e h.symm)];exact h2,h3,h4⟩
 | _=>exact id
theorem RM.grown{p:Option Addr}(h:RM V r cm m w)(hx:Ext V W')(hne:∀b x,mb m b=some x->some (r b)≠blkO p)(hg:w.grownBy W' (blkO p))(hI:∀i cs,RepI V w r m.length i cs->RepI V W' r m.length i cs):RM V r cm m W' :=
 ⟨hx,fun b x hb=>⟨by rw[hg.block _ (Array.getElem?_eq_some_iff.1 (h.blk b x hb).1).1 (hne b x hb)];exact (h.blk b x hb).1,(h.blk b x hb).2.imp hI⟩,h.lo,h.inj⟩
theorem D_app{t:TypeId}{x:It}{b' m z':Nat}{u1 u2:Value}(hM:RM V r cm s.m w)(h1:RepI V w r s.m.length x [u1])(h2:RepI V w r s.m.length (.sl b' m z') [u2])(hd:aApp P s t x b' m z' q=some (v,s1,ob,q'))(ty:TypeId) :
  q'=q/\s1.al=noB s.al/\ob.ld=[]/\s1.t=s.t/\∃n z y m1,v=on1 (.sl s.m.length n z)/\s1.m=m1++[some y]/\m1.length=s.m.length /\
   (∀b x,mb m1 b=some x->mb s.m b=some x)/\(∀b,b∉ob.st->m1[b]? = s.m[b]?) /\
   ∃g c cs W',(Builtin.append_ #[t,t] ty #[u1,u2]).run P w=.ok (.slice (some ⟨g,0,none⟩) n c) W'/\w.heap.size<=W'.heap.size/\RM V (up r s.m.length g) (upM cm s.m.length cs) s1.m W' /\
    RepI V W' (up r s.m.length g) s1.m.length (.sl s.m.length n z) [.slice (some ⟨g,0,none⟩) n c] /\
    (∀i cs,RepI V w r s.m.length i cs->RepI V W' (up r s.m.length g) s1.m.length i cs):=by
 unfold aApp at hd
 split at hd
 rotate_left
 ·cases hd
 rename_i e y hu hy
 split at hd
 rotate_left
 ·cases hd
 rename_i i zs new rest hi hz hc
 split at hd
 rotate_left
 ·cases hd
 rename_i hb
 obtain⟨⟨b1,b6⟩,b2,b3,b4,b5⟩:=hb
 obtain⟨i',zv,j1,j2,j3⟩:=zeroT_zero hz
 rw[hi] at j1
 cases j1
 obtain⟨y1,y2⟩:=hM.blk b' y hy
 obtain⟨n1,n2,n3⟩:=cutI_repP hc y2
 obtain⟨_,q2,xs2,T2,e2,_⟩:=h2
 obtain rfl:u2=.slice (some ⟨r b',0,none⟩) m q2:=by simpa using e2
 have hz0:=(toIts_rep (V:=V) (W:=w) (r:=r) (k:=s.m.length) j3).cells
 have hzc:zv.cells.size=z':=by have:=hz0.1;rw[b6] at this;simpa using this
 have news:=n1.cells
 have hnl:((cm b').take (m*z')).length=m*z':=by rw[List.length_take];omega
 have hnews:∀j u,((cm b').take (m*z'))[j]? = some u->w.cell? ((⟨r b',0,none⟩:Addr).add j)=some u:=by
  intro j u hj
  rw[Addr.add_mid,Nat.zero_add,cell_of_row _ _ _ _ _ _ y1]
  rw[List.getElem?_take] at hj
  split at hj
  ·simpa using hj
  ·cases hj
 have step:∀(p:Option Addr) (n c:Nat) (old:List It) (xs0:List Value) (m1:List (Option Mb)),PO w V.heap.size e z' p n c xs0->RepL V w r s.m.length old xs0->n+m<=1000->RM V r cm m1 w->m1.length=s.m.length->(∀b x,mb m1 b=some x->some (r b)≠blkO p)->(∀g,blkO p=some g->V.heap.size<=g) ->
   ∃g c2 cs W',(Builtin.append_ #[t,t] ty #[.slice p n c,.slice (some ⟨r b',0,none⟩) m q2]).run P w=.ok (.slice (some ⟨g,0,none⟩) (n+m) c2) W'/\w.heap.size<=W'.heap.size/\RM V (up r s.m.length g) (upM cm s.m.length cs) (m1++[some ⟨e,old++new⟩]) W' /\
    RepI V W' (up r s.m.length g) (m1++[some (⟨e,old++new⟩:Mb)]).length (.sl s.m.length (n+m) z') [.slice (some ⟨g,0,none⟩) (n+m) c2] /\
    (∀i cs,RepI V w r s.m.length i cs->RepI V W' (up r s.m.length g) (m1++[some (⟨e,old++new⟩:Mb)]).length i cs):=by
  intro p n c old xs0 m1 hPO hold hn hM1 hlen hne hlo
  obtain⟨g,c2,W',k1,k2,k3,k4,k5⟩:=append_PO (P:=P) w (t:=t) (ty:=ty) hu hi j2 b1 rfl hzc b2 (fun v hv=>(hz0.2 v hv).1) hPO ⟨r b',0,none⟩ m q2 _ hnl hnews (fun v hv=>(news.2 v hv).2) (fun v hv=>(news.2 v hv).1) b3 hn b4 hM.ext.size
  have hI:=fun i cs=>grow_I (V:=V) (r:=r) (k:=s.m.length) hPO k3 k5 i cs
  have hx:Ext V W':=ext_grow (B:=0) hM.ext k3 hlo
  have hM2:RM V r cm m1 W':=hM1.grown hx hne k3 (by rw[hlen];exact hI)
  obtain⟨l1,hk⟩:=k2
  rcases hk with⟨hk,_⟩|⟨g',cur,hk,l2,l3,l4,l5,l6,l7,l8⟩
  ·cases hk
  cases hk
  have hlen2:(m1++[some (⟨e,old++new⟩:Mb)]).length=s.m.length+1:=by rw[List.length_append,hlen];rfl
  refine⟨g,c2,cur.toList,W',k1,k3.size,?_,?_,fun i cs h=>?_⟩
  ·rw [<- hlen]
   refine hM2.new (c:=cur.toList) (by simpa using l3) ?_ l2 (fun b x hb e=>?_)
   ·refine ⟨xs0 ++ (cm b').take (m * z'), cur.toList.drop ((n + m) * z'), ?_, ?_, fun v hv => l8 v (List.mem_of_mem_drop hv)⟩
    ·rw[<- l7,List.take_append_drop]
    ·rw [hlen]
     exact (hold.imp hI).app (n1.imp hI)
   ·have h3 := hne b x hb
    rcases k4 with h4|h4
    ·rw[<- h4,e] at h3;exact h3 rfl
    ·have := (Array.getElem?_eq_some_iff.1 (hM1.blk b x hb).1).1
     omega
  ·rw [hlen2]
   refine⟨Nat.lt_succ_self _,c2,cur,_,by rw[up_at],by rw[up_at];exact l3,l6.symm,l4,l5⟩
  ·rw [hlen2]
   exact RepI.grow (Nat.le_succ _) (fun b hb=>up_old hb) i cs (hI i cs h)
 split at hd
 ·
  simp only[Option.some.injEq,Prod.mk.injEq] at hd
  obtain⟨rfl,rfl,rfl,rfl⟩:=hd
  obtain rfl:u1=.slice none 0 0:=by simpa using h1.1
  obtain⟨g,c2,cs,W',s1,s2,s3,s4,s5⟩:=step none 0 0 [] [] s.m (PO.nil _ _ _ _) rfl (by omega) hM rfl (fun b x _ h=>by cases h) (fun g h=>by cases h)
  simp only[Nat.zero_add,List.nil_append] at s1 s2 s3 s4 s5
  exact⟨rfl,rfl,rfl,rfl,m,z',_,s.m,rfl,rfl,rfl,fun _ _ h=>h,fun _ _=>rfl,g,c2,cs,W',s1,s2,s3,s4,s5⟩
 ·
  rename_i b n z
  split at hd
  rotate_left
  ·cases hd
  rename_i wb hwb
  split at hd
  rotate_left
  ·cases hd
  rename_i old _ hold
  split at hd
  rotate_left
  ·cases hd
  rename_i hcond
  obtain⟨c1,c2,c3,c4⟩:=hcond
  subst c1
  simp only[Option.some.injEq,Prod.mk.injEq] at hd
  obtain⟨rfl,rfl,rfl,rfl⟩:=hd
  obtain⟨_,qq,ys,T,d1,d2,d3,d4,d5⟩:=h1
  obtain rfl:u1=.slice (some ⟨r b,0,none⟩) n qq:=by simpa using d1
  obtain⟨w1,w2⟩:=hM.blk b wb hwb
  obtain⟨o1,o2,o3⟩:=cutI_repP hold w2
  rw[w1] at d2
  cases d2
  have hPO:PO w V.heap.size e z (some ⟨r b,0,none⟩) n qq ((cm b).take (n*z)):=by
   refine⟨by rw[List.length_take];omega,.inr ⟨r b,(cm b).toArray,rfl,hM.lo b wb hwb,by rw[w1,c3],d4,d5,d3.symm,rfl,by simpa using w2.nd⟩⟩
  obtain⟨g,c2,cs,W',s1,s2,s3,s4,s5⟩:=step (some ⟨r b,0,none⟩) n qq old _ (s.m.set b none) hPO o1 c2 hM.drop (List.length_set ..) (fun b2 x hb2 h=>by
   rw[mb_at,List.getElem?_set] at hb2
   split at hb2
   ·first|(cases hb2;done)|(split at hb2<;>cases hb2)
   ·rename_i hne
    simp only[blkO,Option.map_some,Option.some.injEq] at h
    exact hne (hM.inj b2 b x wb (mb_at.2 hb2) hwb h).symm) (fun g h=>by simp only[blkO,Option.map_some,Option.some.injEq] at h;rw[<- h];exact hM.lo b wb hwb)
  refine⟨rfl,rfl,rfl,rfl,n+m,z,_,s.m.set b none,rfl,rfl,List.length_set ..,fun b2 x hb2=>?_,fun b2 hb2=>?_,g,c2,cs,W',s1,s2,s3,s4,s5⟩
  ·rw [mb_at, List.getElem?_set] at hb2
   split at hb2
   ·first|(cases hb2;done)|(split at hb2<;>cases hb2)
   ·exact mb_at.2 hb2
  ·rw[List.getElem?_set,if_neg (fun e=>hb2 (by simp[e]))]
 ·cases hd
theorem D_ap0{t:TypeId}{x:It}{u:Value}(h1:∃W,RepI V W r k x [u])(hd:aAp0 P t x=some v)(ty:TypeId):v=on1 x/\∀w,(Builtin.append_ #[t,t] ty #[u,.slice none 0 0]).run P w=.ok u w:=by
 obtain⟨W,h1⟩:=h1
 unfold aAp0 at hd
 split at hd<;>(try (cases hd;done))
 rename_i e hu
 split at hd
 ·rename_i i b n z hi
  split at hd<;>cases hd
  obtain⟨_,c,xs,T,k1,k2,k3,k4,k5⟩:=h1
  obtain rfl:u=_:=by simpa using k1
  exact⟨rfl,fun w=>by simp[Builtin.append_,run_underlying hu,sizeOf,typeInfo,hi,Builtin.lenOf,k4,Builtin.firstCells,loadCells,loadCellsFrom,storeCells]⟩
 ·rename_i i hi
  cases hd
  obtain rfl:u=_:=by simpa using h1.1
  exact⟨rfl,fun w=>by simp[Builtin.append_,run_underlying hu,sizeOf,typeInfo,hi,Builtin.lenOf,Builtin.firstCells,loadCells,loadCellsFrom,storeCells]⟩
 ·cases hd
end
end
end Go.Proofs.YteajakbpmeebnaaGreat
