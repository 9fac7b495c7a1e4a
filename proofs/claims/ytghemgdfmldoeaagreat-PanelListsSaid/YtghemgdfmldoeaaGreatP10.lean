import Derived.Test.YtghemgdfmldoeaaGreatP09
set_option linter.unusedVariables false
set_option linter.unusedSimpArgs false
namespace Go.Proofs.YtghemgdfmldoeaaGreat
open Go.RowKit
section
section
variable {P:Program} {V:World} {r r':Nat->Nat} {k k':Nat} {s s1:St} {a:Act} {S:World->Prop} {o:Oper} {w:World} {cm cm':Nat->List Value} {E:Env} {call:gw} {q q' q1:List Bool} {v:AV} {ob:Ob} {ops:Array Oper}
def xl(P:Program)(f:FuncId)(g:uV):Prop :=
 ∀L k args res k' ps,g L k args=some (res,k',ps)->aw ps->∀(W:World) (B:Nat) (v:Value) (d:List Value) (T:TypeId) (vals:List Value),W.heap[B]? = some (.cells (v::.int .i64 (k:Nat)::d).toArray T)->jQ W L v->(∀a len c,v=.slice a len c->0<len->∀x,a=some x->x.block≠B)->k<=L.length ->
  aV W W (λ_=>0) 0 args vals->Calls P f (Value.pointer (some ⟨B,0,none⟩)::vals).toArray W λe w'=>∃x,e=.returned x/\au w' w' (λ_=>0) 0 res x/\w'.heap[B]? = some (.cells (v::.int .i64 (k':Nat)::d).toArray T)/\k'<=L.length/\Past B W w'
def tj(P:Program)(T:TypeId)(name:String)(n:Int)(wd:Nat):Prop:=I64 n/\∀(o:Oper) (c:Call) (x:Operand) (l:List (Int×Nat)) (a:Act) (w:World),o.op=.call c->c.callee=.invoke x name->c.args.size=0->om T l (a.eval x)->l.length=wd->aL P o a w λv w'=>v=.int .i64 n/\ac w w'
structure iP (P:Program) (E:Env) (call:gw):Prop where
 nm : ∀ (f : FuncId) (fn : Func), P.funcs[f]? = some fn -> (fn.name == "runtime.NumGoroutine") = false
 eq:∀t n,E.eq.lookup t=some n->kq P t n
 eff:∀f g,E.eff.lookup f=some g->xl P f g
 mt:∀T name n wd,E.mt.lookup (T,name)=some (n,wd)->tj P T name n wd
 wr:∀f,E.wr.contains f=true->AE P f
 ok:∀f args q res ps q',call f args q=some (res,ps,q')->aw ps->pU P f args res.1 res.2
theorem Oy{T:TypeId}{l:List (Int×Nat)}{x:Operand}(hT:RT V w r s.m.length s.t a)(hx:evI s x=some (.fc T l)):om T l (a.eval x):=by
 obtain⟨v,e,hv⟩:=gU hT hx;cases e;exact hv
theorem kC{W:World}{x:Value}{R:Value->World->Prop}(h:(execOp a.eval o).run P w=.ok (.value x) W)(hR:R x W):aL P o a w R:=by unfold aL;rw[h];exact hR
theorem qw{W:World}{R:Value->World->Prop}(h:(execOp a.eval o).run P w=.ok .skip W)(hR:R undef W):aL P o a w R:=by unfold aL;rw[h];exact hR
theorem J.ht(h:J V r cm s a w):HT V r s.m.length s a (λW=>W=w):=⟨⟨w,rfl⟩,λW e=>e ▸ h.2⟩
theorem lF{m:Sem Value}{x:Value}(he:execOp a.eval o=do pure (.value (<- m))){W:World}(h:m.run P w=.ok x W):(execOp a.eval o).run P w=.ok (.value x) W:=by
 rw[he,Sem.run_bind,h];rfl
theorem iR(w:World)(obj:Obj):ac w (w.alloc obj):=kM w obj
theorem Ud{T:TypeId}{c:List It}(h:Ab s T c=true):T≠tE\/j8 c=true/\∀b' y,mb s.m b'=some y->j8 y.l=true:=by
 obtain⟨h1,h2⟩:=IW h;rcases h2 with h2|h2
 ·exact .inl h2
 ·exact (IX h1).imp id λh=>⟨h2,h⟩
theorem EJ{t:TypeId}{x y:Operand}{b j n:Nat}{u:V1}{m:Mb}{c:List It}(ho:o.op=.store t x y)(hx:evI s x=some (.p b j))(hy:evV s y=some u)(hn:bV P t=some n)(hb:mb s.m b=some m)(hc:uC m.l j n u.l=some c)(hl:((u.l.map It.n).sum==n)=true)(hE:Ab s m.T c=true)(hT:RT V w r s.m.length s.t a)(hM:RM V r cm s.m w) :
  ∃cs W',(execOp a.eval o).run P w=.ok .skip W'/\fR (r b) w W'/\RM V r (cz cm b cs) (s.m.set b (some ⟨m.T,c⟩)) W'/\RT V W' r s.m.length s.t a/\cs.length=(cm b).length:=by
 obtain⟨vs,e1,e2,e3⟩:=vA hT hy;obtain⟨l1,l2⟩:=e1.cells;have hvn:vs.length=n:=by rw[l1];simpa using hl
 obtain⟨hg,hr⟩:=hM.blk b m hb;obtain⟨k1,k2⟩:=Jv hc hr e1 hvn;have hp:=gU hT hx;have hp2:a.eval x=.pointer (some ⟨r b,j,none⟩):=by simpa using hp.2
 obtain⟨o1,o2⟩:=lP (cs':=(((cm b).take j++(vs++(cm b).drop (j+vs.length))).toArray)) hg;have hlen:((cm b).take j++(vs++(cm b).drop (j+vs.length))).length=(cm b).length:=by simp;omega
 refine⟨_,_,?_,o1,hM.set (Ud hE) hb k1 o1 o2 hlen,hT.keep ⟨b,cZ hb,rfl⟩ (CU (IW hE).1) hg hr.nd o1 o2 hlen,hlen⟩;have:=Ks (P:=P) (w:=w) (x:=a.eval y) hg (by rw[e2];exact ya e3 (λv hv=>(l2 v hv).2)) hn hvn k2 (λv hv=>(l2 v hv).2);unfold execOp;simp only[ho,hp2,Sem.run_bind,this,Result.andThen_ok,Sem.run_pure]
theorem a5r {f : FuncId} {fn : Func} {c : Code} (hN : ∀ (f : FuncId) (fn : Func), P.funcs[f]? = some fn -> (fn.name == "runtime.NumGoroutine") = false) (hf : P.funcs[f]? = some fn) (hb : fn.body = some c) (args : Array Value) (w : World) : (callFunc f args).run P w = .ok (.enter f args) w := by
 have h1 : fn.name ≠ "runtime.NumGoroutine" := by simpa using hN f fn hf
 simp only[callFunc,program,Sem.run_bind,Sem.run_pure,Result.andThen_ok,Sem.run,hf];simp[h1,hb]
theorem a6V{w0:World}{i:It}{cs:List Value}(hx:ac w w0)(h:af w w (λ_=>0) 0 i cs):af w0 w0 (λ_=>0) 0 i cs:=by
 cases i with|d D=>exact Dat.ext hx h|o D=>exact Dat.ext hx h|sl b n z=>exact absurd h.1 (Nat.not_lt_zero _)|fp l=>obtain⟨g,o,xs,T,e,h1,h2,c,d,h3,h4⟩:=h;exact⟨g,o,xs,T,e,aH h1 hx,h2,c,d,h3,h4.ext hx⟩|fs o l n z=>obtain⟨g,q,xs,T,e,h1,h2,h3,h4,c,d,h5,h6,h7⟩:=h;exact⟨g,q,xs,T,e,aH h1 hx,h2,h3,h4,c,d,h5,h6.ext hx,h7⟩|ds L=>obtain⟨v,e,h1⟩:=h;exact⟨v,e,h1.ext hx⟩|ro z n f=>obtain⟨v,e,h1⟩:=h;exact⟨v,e,h1.imp hx λ_ _ h=>h.ext hx⟩|dr L k=>obtain⟨v,e,h1,h2⟩:=h;exact⟨v,e,h1.ext hx,h2⟩|ol T z n f =>
  obtain⟨v,e,h⟩:=h;refine⟨v,e,?_⟩;rcases h with h|⟨g,c,xs,_,⟨h1,_⟩,h2,_⟩
  ·exact .inl h
  ·have := (Array.getElem?_eq_some_iff.1 h2).1;omega|gp T l =>
  obtain⟨v,e,g,o,xs,fr,e2,h1,h2,h3,c,d,h4,h5⟩:=h;rcases h1 with h1|⟨h1,_⟩
  ·exact⟨v,e,g,o,xs,fr,e2,.inl h1,aH h2 hx,h3,c,d,h4,h5.mono λ_ _ h=>Dat.ext hx h⟩
  ·have := (Array.getElem?_eq_some_iff.1 h2).1;omega|_=>exact h
theorem Ux{w0:World}(hx:ac w w0):∀ {l:List It} {cs:List Value},aA w w (λ_=>0) 0 l cs->aA w0 w0 (λ_=>0) 0 l cs
 | [],_,e=>e|_::_,_,⟨c,d,e,h1,h2⟩=>⟨c,d,e,a6V hx h1,Ux hx h2⟩
theorem Uy{w0:World}(hx:ac w w0):∀ {l:List V1} {xs:List Value},aV w w (λ_=>0) 0 l xs->aV w0 w0 (λ_=>0) 0 l xs
 | [],_,e=>e|_::_,_,⟨x,ys,e,⟨cs,h1,h2⟩,h4⟩=>⟨x,ys,e,⟨cs,Ux hx h1,h2⟩,Uy hx h4⟩
theorem a7g(E:Env)(f:FuncId)(cap:List (Nat×Nat))(l:List V1):og E f cap l=(false,f,l++cap.map λp=>⟨false,[.p p.1 p.2]⟩) \/
  ∃g c,l=[⟨false,[.fn g c]⟩]/\(E.wr.contains f=true/\cap=[])/\og E f cap l=(true,g,c.map λp=>⟨false,[.p p.1 p.2]⟩):=by
 unfold og;split
 ·split
  ·rename_i h;simp only[Bool.and_eq_true,List.isEmpty_iff] at h;exact .inr ⟨_,_,rfl,h,rfl⟩
  ·exact .inl rfl
 ·exact .inl rfl
theorem Lm{c:Call}{x:Operand}{f:FuncId}{cap:List (Nat×Nat)}{l l':List V1}{res:AV×List Mb}{ps:List Prop}{cb:Code}(hs:iP P E call)(ho:o.op=.call c)(hc:c.callee=.value x)(hfn:vC s x=some (f,cap))(hl:qm s c.args.toList=some l)(hb:(P.funcs[f]?).bind (·.body)=some cb)
  (hn:u9 s.m (og E f cap l).2.2=some l') (hq:call (og E f cap l).2.1 l' q=some (res,ps,q')) (hw:(!(og E f cap l).1||K9 res&&((P.funcs[(og E f cap l).2.1]?).bind (·.body)).isSome)=true) (hp:aw ps) (hM:RM V r cm s.m w) (hT:RT V w r s.m.length s.t a):aL P o a w λx w'=>∃r2 cm2,RM w r2 cm2 (res.2.map some) w'/\bT w w' r2 res.2.length res.1 x:=by
 obtain⟨fn,h1,h2⟩:=Bn hb;have hr:=mC hT hl;obtain⟨h3,h4⟩:=Hg hT hfn;have plain:∀ {l':List V1},u9 s.m (l++cap.map λp=>⟨false,[.p p.1 p.2]⟩)=some l'->call f l' q=some (res,ps,q')->aL P o a w λx w'=>∃r2 cm2,RM w r2 cm2 (res.2.map some) w'/\bT w w' r2 res.2.length res.1 x:=λhn hq=>by
  refine tU (sX hs.nm h1 h2 ho hc h4 w) ?_;have:=hs.ok f _ q res ps q' hq hp w _ (AX hM hn (hr.app (Bq h3)));have e:c.args.map a.eval++(cap.map λp=>Value.pointer (some ⟨r p.1,p.2,none⟩)).toArray=(c.args.toList.map a.eval++cap.map λp=>Value.pointer (some ⟨r p.1,p.2,none⟩)).toArray:=by
   apply Array.toList_inj.1;simp
  rw[e];exact this.mono λe w' ⟨v,r,cm,h1,h2,h3⟩=>⟨v,h1,r,cm,h2,h3⟩
 rcases a7g E f cap l with h|⟨g,cc,rfl,⟨hwf,rfl⟩,h⟩
 ·rw [h] at hn hq;exact plain hn hq
 ·rw [h] at hn hq hw;simp only[Bool.not_true,Bool.false_or,Bool.and_eq_true] at hw hn hq;obtain⟨hwB,hgb⟩:=hw;obtain⟨cg,hcg⟩:=Option.isSome_iff_exists.1 hgb;obtain⟨gn,g1,g2⟩:=Bn hcg;obtain⟨x1,_,e1,p1,p2⟩:=hr;cases p2;obtain⟨p3,p4⟩:=p1.scal;obtain rfl:x1=_:=by simpa using p4
  obtain⟨res1,res2⟩:=res;unfold K9 at hwB;split at hwB<;>(try (cases hwB;done));rename_i z B hz1 hz2;simp only at hz1 hz2;subst hz1 hz2;have hv:=AX hM hn (Bq p3);refine tU (sX hs.nm h1 h2 ho hc h4 w) ?_;have e:c.args.map a.eval++(([]:List (Nat×Nat)).map λp=>Value.pointer (some ⟨r p.1,p.2,none⟩)).toArray=#[.func (.func g) #[] (cc.map λp=>Value.pointer (some ⟨r p.1,p.2,none⟩)).toArray]:=by
   apply Array.toList_inj.1;simp only[List.map_nil,Array.append_empty,Array.toList_map,e1]
  rw[e];refine (hs.wr f hwf g _ z (z.natAbs<=B/\I64 z) w (a5r hs.nm g1 g2 _) λw0 hx=>?_).mono λe w' ⟨⟨e1,hz⟩,hx⟩=>⟨_,e1,λ_=>0,λ_=>[],RM.nil hx,af.val (i:=.i z B) ⟨rfl,hz⟩⟩
  refine (hs.ok g _ q _ ps q' hq hp w0 _ (Uy hx hv)).mono λe w' ⟨v,r3,cm3,k1,k2,k3⟩=>?_
  obtain⟨k4,k5⟩:=au.scal k3;obtain rfl:v=.int .i64 z:=by simpa using k4
  exact⟨⟨k1,k5⟩,k2.ext⟩
theorem a1V{W:World}{r:Nat->Nat}{k:Nat}{i:It}{cs:List Value}(h1:af W W r k i cs):af W W r k (Qs i) cs:=by
 cases i with|k n=>exact⟨h1.1,Nat.le_refl _,h1.2⟩|b k=>exact⟨h1,rfl⟩|_=>exact h1
theorem IH{W:World}{r:Nat->Nat}{k:Nat}:∀ {l:List It} {cs:List Value},aA W W r k l cs->aA W W r k (za l) cs
 | [],_,e=>e|i::l,_,⟨c,d,e,h1,h2⟩=>by
  unfold za;split
  ·obtain ⟨c2, d2, e2, h3, h4⟩ := h2;subst e2 e;cases h1;rw[h3.1];exact⟨[_,_],d2,rfl,⟨_,_,_,_,rfl,⟨rfl,rfl,Row.nil _⟩⟩,IH h4⟩
  ·exact⟨c,d,e,a1V h1,IH h2⟩
theorem II{W:World}{r:Nat->Nat}{k:Nat}:∀ {l:List V1} {xs:List Value},aV W W r k l xs->aV W W r k (l.map CG) xs
 | [],_,e=>e|_::_,_,⟨x,ys,e,⟨cs,h1,h2,h3⟩,h4⟩=>⟨x,ys,e,⟨cs,IH h1,h2,h3⟩,II h4⟩
theorem JU{VA VB W:World}{v:V1}{x:Value}(hl:v.l.all (It.rk 0)=true):au VA W r k v x->au VB W r' k' v x
 | ⟨cs,h1,h2⟩=>⟨cs,SD hl h1,h2⟩
theorem SI{VA VB W:World}:∀ {l:List V1} {xs:List Value},(l.all λv=>v.l.all (It.rk 0))=true->aV VA W r k l xs->aV VB W r' k' l xs
 | [],_,_,e=>e|v::l,_,hl,⟨x,ys,e,h1,h4⟩=>by
  simp only[List.all_cons,Bool.and_eq_true] at hl;exact⟨x,ys,e,JU hl.1 h1,SI hl.2 h4⟩
theorem YO{l:List It}{L:List Int}{n:Nat}{cs:List Value}(h:Gq l=some (L,n))(hr:fS V w r k l cs):∃v d,cs=v::.int .i64 (n:Nat)::d/\jQ V L v/\n<=L.length/\∀u∈d,nd u:=by
 obtain⟨c,d,e,h1,h2⟩:=hr;unfold Gq at h;split at h
 ·split at h <;> cases h;rename_i h0;subst h0;obtain⟨_,_,e1,⟨v,e2,h3⟩,_,_,e3,h4,h5⟩:=h1;cases h5;have e4:=h4.1;subst e e1 e2 e3 e4;exact⟨v,d,rfl,h3,Nat.zero_le _,h2⟩
 ·cases h;obtain⟨_,_,e1,⟨v,e2,h3,h4⟩,h5⟩:=h1;cases h5;subst e e1 e2;exact⟨v,d,rfl,h3,h4,h2⟩
 ·cases h
theorem Ln {g : uV} {c : Call} {x : Operand} {f : FuncId} {cap : List (Nat × Nat)} {l : List V1} {s1 : St} (hN : ∀ (f : FuncId) (fn : Func), P.funcs[f]? = some fn -> (fn.name == "runtime.NumGoroutine") = false) (hs : xl P f g) (ho : o.op = .call c) (hc : c.callee = .value x) (hfn : vC s x = some (f, cap)) (hl : qm s c.args.toList = some l) (hb : (cap.isEmpty && ((P.funcs[f]?).bind (·.body)).isSome) = true)
  (hd : xM s g l = some (v, s1, ob)) (hp : aw ob.ps) : ∃ b m new n, ob.st = [b] /\ ob.ld = [] /\ s.al ≠ 2 /\ mb s.m b = some m /\ s1 = { s with m := s.m.set b (some ⟨m.T, new⟩) } /\
   ∀w,RM V r cm s.m w->RT V w r s.m.length s.t a->aL P o a w λx w'=>Keep (r b) w w'/\RM V r (cz cm b ((cm b).set 1 n)) s1.m w'/\RT V w' r s.m.length s.t a/\bT V w' r s.m.length v x:=by
 simp only[Bool.and_eq_true,List.isEmpty_iff] at hb;obtain⟨rfl,hb2⟩:=hb;obtain⟨cb,hb3⟩:=Option.isSome_iff_exists.1 hb2;obtain⟨fn,k1,k2⟩:=Bn hb3;unfold xM at hd;split at hd<;>(try (cases hd;done));rename_i b j l';split at hd<;>(try (cases hd;done));rename_i m hm;split at hd<;>(try (cases hd;done));rename_i L n hdr;split at hd<;>(try (cases hd;done));rename_i hcond;split at hd<;>(try (cases hd;done));rename_i res n' ps hg;split at hd<;>cases hd;rename_i hres;obtain⟨⟨rfl,hal,hE⟩,hl'⟩:=hcond;refine⟨b,m,_,.int .i64 (n':Nat),rfl,rfl,hal,hm,rfl,λw hM hT=>?_⟩;obtain⟨hg1,hr1⟩:=hM.blk b m hm
 obtain⟨v0,d,e0,h0,hn,hnd⟩:=YO hdr hr1;have hr:=mC hT hl;obtain⟨_,ys,e1,p1,p2⟩:=hr;have p3:=p1.scal.2;have h4:=(Hg hT hfn).2;refine tU (sX hN k1 k2 ho hc h4 w) ?_;have e2:c.args.map a.eval++(([]:List (Nat×Nat)).map λp=>Value.pointer (some ⟨r p.1,p.2,none⟩)).toArray=(Value.pointer (some ⟨r b,0,none⟩)::ys).toArray:=by
  apply Array.toList_inj.1;simp only[List.map_nil,Array.append_empty,Array.toList_map,e1];simpa using p3
 rw[e2];rw[e0] at hg1;refine (hs L n _ res n' ps hg hp w (r b) v0 d m.T ys hg1 (h0.ext hM.ext) (λa2 len c2 e3 h5 y e4=>?_) hn (II (SI hl' p2))).mono ?_
 ·obtain ⟨a3, l3, c3, e5, h6, _⟩ := h0;rw[e3] at e5;cases e5;have h7:=h6.lt h5 y e4;have h8:=hM.lo b m hm;omega
 ·rintro e w' ⟨y, rfl, h5, h6, h7, h8⟩;refine⟨y,rfl,⟨h8.size,h8.block⟩,?_⟩;have e5:(cm b).set 1 (.int .i64 (n':Nat))=v0::.int .i64 (n':Nat)::d:=by rw[e0];rfl
  rw[e5];have hlen:(v0::Value.int .i64 (n':Nat)::d).length=(cm b).length:=by rw[e0];rfl
  have hg2:w.heap[r b]? = some (.cells (cm b).toArray m.T):=by rw[e0];exact hg1
  obtain⟨o1,o2⟩:=lP (cs':=(v0::Value.int .i64 (n':Nat)::d).toArray) hg2;have hx:ac (w.setRow (r b) (v0::Value.int .i64 (n':Nat)::d).toArray) w':=by
   refine⟨h8.os.trans o1.os.symm,h8.tape.trans o1.tape.symm,h8.output.trans o1.output.symm,by rw[o1.size];exact h8.size,λq hq=>?_⟩;by_cases hqb:q=r b
   ·rw[hqb,h6,o2]
   ·rw[o1.block q hqb,h8.block q (by rw[o1.size] at hq;exact hq) hqb]
  refine⟨(hM.set ((IX hE).imp id λh=>⟨rfl,h⟩) hm (l:=[.dr L n']) ⟨[v0,.int .i64 (n':Nat)],d,rfl,⟨_,[],rfl,⟨v0,rfl,h0,h7⟩,rfl⟩,hnd⟩ o1 o2 hlen).step hx,(hT.keep ⟨b,cZ hm,rfl⟩ (CU hE) hg2 hr1.nd o1 o2 hlen).ext hx,?_⟩;exact JU hres h5
theorem R9{W:World}{r2:Nat->Nat}{n:Nat}(hV:V.heap.size<=w.heap.size)(hbd:∀b,b<k->r b<w.heap.size):∀ {l:List It} {cs:List Value},l.all (It.rf n)=true->aA w W r2 n l cs->aA V W (mg r r2 k) (k+n) (l.map (TU k)) cs
 | [],_,_,e=>e
 | i::l,_,hl,⟨c,d,e,h1,h2⟩=>by
  simp only[List.all_cons,Bool.and_eq_true] at hl;refine⟨c,d,e,?_,R9 hV hbd hl.2 h2⟩;cases i with
  | p b o=>exact⟨by have:=h1.1;omega,by rw[h1.2,lJ]⟩
  | sl b m z =>
   obtain⟨h0,q,xs,T,k1,k2,k3⟩:=h1;exact⟨by omega,q,xs,T,by rw[k1,lJ],by rw[lJ];exact k2,k3⟩
  | ol T z m f=>obtain⟨v,e,h⟩:=h1;exact⟨v,e,h.mg hV hbd⟩
  | _=>first|exact h1|cases hl.1
theorem Sj{W:World}{r2:Nat->Nat}{n:Nat}{v:V1}{x:Value}(hV:V.heap.size<=w.heap.size)(hbd:∀b,b<k->r b<w.heap.size)(hl:v.l.all (It.rf n)=true):au w W r2 n v x->au V W (mg r r2 k) (k+n) (Eg k v) x
 | ⟨cs,h1,h2⟩=>⟨cs,R9 hV hbd hl h1,h2⟩
theorem Sl{W:World}{r2:Nat->Nat}{n:Nat}(hV:V.heap.size<=w.heap.size)(hbd:∀b,b<k->r b<w.heap.size):∀ {l:List V1} {xs:List Value},(∀v∈l,v.l.all (It.rf n)=true)->aV w W r2 n l xs->aV V W (mg r r2 k) (k+n) (l.map (Eg k)) xs
 | [],_,_,e=>e|v::l,_,hl,⟨x,ys,e,h1,h4⟩=>⟨x,ys,e,Sj hV hbd (hl v (List.mem_cons_self ..)) h1,Sl hV hbd (λu hu=>hl u (List.mem_cons_of_mem _ hu)) h4⟩
theorem RL{res:AV}{x:Value}{W:World}{r2:Nat->Nat}{n:Nat}(hV:V.heap.size<=w.heap.size)(hbd:∀b,b<k->r b<w.heap.size)(ho:RY n res=true)(h:bT w W r2 n res x):bT V W (mg r r2 k) (k+n) (Kw k res) x:=by
 cases res with|und=>cases ho|any=>cases ho|one v=>exact Sj hV hbd ho h|tup l =>
  obtain⟨xs,e,h⟩:=h;exact⟨xs,e,Sl hV hbd (λv hv=>List.all_eq_true.1 ho v hv) h⟩
theorem wP{c:Call}{x y:Operand}{u v:Value}{w W':World}{t:TypeId}{z:Value}(ho:o.op=.call c)(hc:c.callee=.builtin .append)(ha:c.args.toList.map a.eval=[u,v])(ht:c.argTypes.toList=[t,t])(h:(Builtin.append_ #[t,t] o.type #[u,v]).run P w=.ok z W') :
  (execOp a.eval o).run P w=.ok (.value z) W':=by
 have e1:c.args.map a.eval=#[u,v]:=by apply Array.toList_inj.1;simpa using ha
 have e2:c.argTypes=#[t,t]:=by apply Array.toList_inj.1;simpa using ht
 unfold execOp;simp only[ho,resolve,hc,Sem.run_bind,Sem.run_pure,Result.andThen_ok,invoke,builtin,e1,e2,h]
def Ag(m:List (Option Mb))(r:Nat->Nat)(cm:Nat->List Value)(m':List (Option Mb))(r':Nat->Nat)(cm':Nat->List Value):Prop:=m.length<=m'.length/\∀b,b<m.length->r' b=r b/\(cm' b).length=(cm b).length
theorem Ag.rfl{m:List (Option Mb)}{r:Nat->Nat}{cm:Nat->List Value}:Ag m r cm m r cm:=⟨Nat.le_refl _,λ_ _=>⟨_root_.rfl,_root_.rfl⟩⟩
theorem K0{cm:Nat->List Value}{b:Nat}{c:List Value}(h:c.length=(cm b).length)(k:Nat):(cz cm b c k).length=(cm k).length:=by
 unfold cz;split
 ·rename_i e;rw[e,h]
 ·rfl
theorem Ae{cm:Nat->List Value}{k b:Nat}{c:List Value}(h:b<k):cz cm k c b=cm b:=by unfold cz;rw[if_neg (by omega)]
theorem Ag.set{m:List (Option Mb)}{r:Nat->Nat}{cm:Nat->List Value}{b:Nat}{x:Option Mb}{c:List Value}(h:c.length=(cm b).length):Ag m r cm (m.set b x) r (cz cm b c):=⟨by simp,λk _=>⟨_root_.rfl,K0 h k⟩⟩
theorem Ag.up{m:List (Option Mb)}{r:Nat->Nat}{cm:Nat->List Value}{x:Option Mb}{g:Nat}{c:List Value}:Ag m r cm (m++[x]) (up r m.length g) (cz cm m.length c):=⟨by simp,λ_ h=>⟨ge h,by rw[Ae h]⟩⟩
theorem Ag.mg{m l:List (Option Mb)}{r r2:Nat->Nat}{cm cm2:Nat->List Value}:Ag m r cm (m++l) (mg r r2 m.length) (mg cm cm2 m.length):=⟨by simp,λ_ h=>⟨jp h,by rw[jp h]⟩⟩
theorem Ag.trans{m m1 m2:List (Option Mb)}{r r1 r2:Nat->Nat}{cm cm1 cm2:Nat->List Value}(h:Ag m r cm m1 r1 cm1)(g:Ag m1 r1 cm1 m2 r2 cm2):Ag m r cm m2 r2 cm2:=⟨Nat.le_trans h.1 g.1,λb hb=>⟨(g.2 b (Nat.lt_of_lt_of_le hb h.1)).1.trans (h.2 b hb).1,(g.2 b (Nat.lt_of_lt_of_le hb h.1)).2.trans (h.2 b hb).2⟩⟩
theorem Fb(hs:iP P E call)(hJ:J V r cm s a w)(hd:oC P E call o s q=some (v,s1,ob,q1))(hp:aw ob.ps) :
  aL P o a w λx w'=>∃r' cm',Ag s.m r cm s1.m r' cm'/\(RM V r' cm' s1.m w'/\RT V w' r' s1.m.length s1.t a)/\bT V w' r' s1.m.length v x:=by
 obtain⟨⟨hM,hD⟩,hT⟩:=hJ;by_cases hk:av o=0
 ·obtain ⟨rfl, _, x, h1, h2⟩ := AG (r := r) (cm := cm) (F := λW => W = w) (S := λW => W = w) hs.eq (λ_ => ⟨w, rfl, λ_ h => h ▸ Below.refl _ _, λ_ h => h ▸ Below.refl _ _⟩) (J.ht ⟨⟨hM, hD⟩, hT⟩) (λb m hb W e => e ▸ (hM.blk b m hb).2) (λW e => e ▸ hM.ext) hk hd hp (λb m _ hb W e => e ▸ (hM.blk b m hb).1);exact kC (h1 w rfl) ⟨r,cm,.rfl,⟨hM,hT⟩,h2 w rfl⟩
 unfold oC at hd;split at hd
 ·rename_i ho;simp[av,ho] at hk
 ·rename_i ho;simp[av,ho] at hk
 ·rename_i ho;simp[av,ho] at hk
 ·rename_i t ho;split at hd
  ·cases hd
  cases hz:oh P t with|none=>simp[hz] at hd|some z =>
   simp only[hz,Option.map_some,Option.some.injEq,Prod.mk.injEq] at hd;obtain⟨rfl,rfl,rfl,rfl⟩:=hd;obtain⟨i,zv,i1,i2,i3⟩:=uU hz;have hx:=iR w (.cells zv.cells t);refine kC (lF (by unfold execOp;rw[ho]) (Kq i1 i2 w)) ⟨_,_,.up,⟨hM.alloc (c:=zv.cells.toList) hx (tX (o:=.cells zv.cells t) rfl) (pK i3).pre,?_⟩,?_⟩
   ·rw [List.length_append];exact hT.imp (u7 hx (Nat.le_refl _))
   ·rw [List.length_append];exact af.val (i:=.p _ _) ⟨Nat.lt_succ_self _,by simp[up]⟩
 ·rename_i t x ho;split at hd
  ·rename_i u n hu hn;split at hd
   ·rename_i hl;simp only[Option.some.injEq,Prod.mk.injEq] at hd;obtain⟨rfl,rfl,rfl,rfl⟩:=hd;obtain⟨vs,e1,e2,e3⟩:=vA hT hu;have hcells:(a.eval x).cells=vs.toArray:=by rw[e2];exact ya e3 (λv hv=>(e1.cells.2 v hv).2)
    have hx:=iR w (.cells (a.eval x).cells t);refine kC (lF (by unfold execOp;rw[ho]) (To (a.eval x) w)) ⟨_,_,.up,⟨hM.alloc (c:=vs) hx (by rw[hcells];exact tX rfl) e1.pre,?_⟩,?_⟩
    ·rw [List.length_append];exact hT.imp (u7 hx (Nat.le_refl _))
    ·rw [List.length_append];exact af.val (i:=.p _ _) ⟨Nat.lt_succ_self _,by simp[up]⟩
   ·cases hd
  ·cases hd
 ·rename_i ho;simp[av,ho] at hk
 ·rename_i ho;simp[av,ho] at hk
 ·rename_i t x y ho;split at hd
  ·rename_i b j u n hx hy hn;split at hd
   ·rename_i m hb;split at hd
    ·rename_i c hc;split at hd
     ·rename_i hl;rw[Bool.and_eq_true] at hl;simp only[Option.some.injEq,Prod.mk.injEq] at hd;obtain⟨rfl,rfl,rfl,rfl⟩:=hd;obtain⟨cs,W',h1,h2,h3,h4,h5⟩:=EJ ho hx hy hn hb hc hl.1 hl.2 hT hM;refine qw h1 ⟨_,_,.set h5,⟨h3,?_⟩,rfl⟩;rw[List.length_set];exact h4
     ·cases hd
    ·cases hd
   ·cases hd
  ·cases hd
 ·rename_i ho;simp[av,ho] at hk
 ·rename_i ho;simp[av,ho] at hk
 ·rename_i ho;simp[av,ho] at hk
 ·rename_i ho;simp[av,ho] at hk
 ·rename_i ho;simp[av,ho] at hk
 ·rename_i ho;simp[av,ho] at hk
 ·rename_i ho;simp[av,ho] at hk
 ·rename_i ho;simp[av,ho] at hk
 ·rename_i ho;simp[av,ho] at hk
 ·
  rename_i t len ps ho;split at hd
  ·rename_i e l hu hl;split at hd
   ·rename_i z zs hz hzs;split at hd
    ·split at hd
     ·rename_i hb;cases hf:fills (λi=>some (i*z,z)) (List.replicate len zs).flatten l with|none=>simp[hf] at hd|some c =>
       cases hck:chunk z len c with|none=>simp[hf,hck] at hd|some rs =>
        cases hli:yS e z len rs with|none=>simp[hf,hck,hli] at hd|some j =>
        simp only[hf,hck,hli,Option.bind_some,Option.map_some,Option.some.injEq,Prod.mk.injEq] at hd;obtain⟨rfl,rfl,rfl,rfl⟩:=hd;obtain⟨cs,h1,h2,h3⟩:=Ar (J.ht ⟨⟨hM,hD⟩,hT⟩) ho hu hl hz hzs hb.2 hf;have hx:=iR w (.cells cs.toArray e);refine kC (h1 w) ⟨r,cm,.rfl,⟨hM.step hx,hT.ext hx⟩,af.val ?_⟩;exact PK (ac.step hM.ext hx) hck hli ((h2 w rfl).imp (af.ext hx)) h3 (by omega) (tX rfl) hM.ext.size λb hb e=>by have:=hM.bd b hb;omega
     ·cases hd
    ·split at hd
     ·rename_i hb;cases hf:fills (λi=>some (i*z,z)) (List.replicate len zs).flatten l with|none=>simp[hf] at hd|some c =>
       simp only[hf,Option.map_some,Option.some.injEq,Prod.mk.injEq] at hd;obtain⟨rfl,rfl,rfl,rfl⟩:=hd;obtain⟨cs,h1,h2,h3⟩:=Ar (J.ht ⟨⟨hM,hD⟩,hT⟩) ho hu hl hz hzs hb.2 hf;have hx:=iR w (.cells cs.toArray e);refine kC (h1 w) ⟨_,_,.up,⟨hM.alloc (c:=cs) hx (tX rfl) (h2 w rfl).pre,?_⟩,?_⟩
       ·rw [List.length_append];exact hT.imp (u7 hx (Nat.le_refl _))
       ·rw [List.length_append];refine af.val (i:=.sl _ _ _) ⟨Nat.lt_succ_self _,len,cs.toArray,e,by simp[up],by rw[lk];exact tX rfl,by simp[h3],Nat.le_refl _,by unfold maxLen;omega⟩
     ·cases hd
   ·cases hd
  ·cases hd
 ·rename_i c ho;split at hd
  ·rename_i x hc;replace hc:=Bo hc;split at hd
   ·rename_i f cap l hfn hl;split at hd
    ·rename_i g hg;split at hd<;>(try (cases hd;done));rename_i hb;cases hq:xM s g l with|none=>simp[hq] at hd|some z =>
      obtain⟨z1,z2,z3⟩:=z;simp only[hq,Option.map_some,Option.some.injEq,Prod.mk.injEq] at hd;obtain⟨rfl,rfl,rfl,rfl⟩:=hd;obtain⟨b,m,new,n,_,_,_,e1,rfl,h⟩:=Ln (V:=V) (r:=r) (cm:=cm) hs.nm (hs.eff f g hg) ho hc hfn hl hb hq hp;refine (h w hM hT).imp λx w' ⟨_,h1,h2,h3⟩=>⟨_,_,.set (by simp),⟨h1,?_⟩,?_⟩
      ·simp only [List.length_set];exact h2
      ·simp only [List.length_set];exact h3
    split at hd
    ·rename_i cb l' hb hn;split at hd
     ·rename_i z hq;split at hd
      ·rename_i hrk;simp only[Option.some.injEq,Prod.mk.injEq] at hd;obtain⟨rfl,rfl,rfl,rfl⟩:=hd;rw[Bool.and_eq_true,Bool.and_eq_true] at hrk;obtain⟨⟨hwr,hrk⟩,_⟩:=hrk;simp only[Bool.and_eq_true] at hrk;refine (Lm hs ho hc hfn hl hb hn hq hwr hp hM hT).imp λx w' ⟨r2,cm2,h1,h2⟩=>⟨_,_,.mg,⟨hM.merge h1 hrk.2,?_⟩,?_⟩
       ·simp only [List.length_append, List.length_map];exact hT.imp (P5 h1.ext h1.fresh)
       ·simp only [List.length_append, List.length_map];exact RL hM.ext.size hM.bd hrk.1 h2
      ·cases hd
     ·cases hd
    ·cases hd
   ·cases hd
  ·rename_i b hc;replace hc:=FT hc;split at hd
   ·rename_i l hl;split at hd
    ·split at hd
     ·rename_i t t' x b' m z' ht;split at hd
      ·rename_i htt;subst htt;obtain⟨y1,_,e1,g1,y2,_,e2,g2,e3⟩:=mC hT hl;subst e2 e3;obtain⟨d1,d2,d3,d4,n,zz,y,m1,d5,d6,d7,d8,d9,g,cc,cs,W',d10,d11,d12,d13,d14⟩:=Lj hM g1.scal g2.scal hd o.type;refine kC (wP (x:=.tmp 0) (y:=.tmp 0) ho hc e1 ht d10) ⟨_,_,⟨by rw[d6];simp[d7],λ_ h=>⟨ge h,by rw[Ae h]⟩⟩,⟨d12,?_⟩,?_⟩
       ·rw [d4];exact d14 _ hT
       ·rw [d5];exact af.val d13
      ·cases hd
     ·rename_i t t' x ht;split at hd
      ·rename_i htt;subst htt;cases hq:xJ P t x with|none=>simp[hq] at hd|some u =>
        simp only[hq,Option.map_some,Option.some.injEq,Prod.mk.injEq] at hd;obtain⟨rfl,rfl,rfl,rfl⟩:=hd;obtain⟨y1,_,e1,g1,y2,_,e2,g2,e3⟩:=mC hT hl;subst e2 e3;obtain rfl:y2=_:=by simpa using g2.scal.1
        obtain⟨d1,d2⟩:=Lh ⟨w,g1.scal⟩ hq o.type;subst d1;exact kC (wP (x:=.tmp 0) (y:=.tmp 0) ho hc e1 ht (d2 w)) ⟨r,cm,.rfl,⟨hM,hT⟩,af.val g1.scal⟩
      ·cases hd
     ·rename_i t t' x T z m g ht;split at hd
      ·rename_i htt;subst htt;cases hq:xK P s t x T z m g with|none=>simp[hq] at hd|some u =>
        simp only[hq,Option.map_some,Option.some.injEq,Prod.mk.injEq] at hd;obtain⟨rfl,rfl,rfl,rfl⟩:=hd;obtain⟨y1,_,e1,g1,y2,_,e2,g2,e3⟩:=mC hT hl;subst e2 e3;obtain⟨u',W',d1,_,d2,d3,d4⟩:=Ll hM g1.scal g2.scal hq hp o.type;exact kC (wP (x:=.tmp 0) (y:=.tmp 0) ho hc e1 ht d1) ⟨r,cm,.rfl,⟨d2,d4 _ hT⟩,af.val d3⟩
      ·cases hd
     ·cases hd
    ·rename_i hb;cases hq:sC P b c.argTypes.toList l with|none=>simp[hq] at hd|some z=>exact absurd (Qb hq ho hc) hk
   ·cases hd
  ·split at hd
   ·rename_i x name hc;split at hd
    ·rename_i T l hx ha;split at hd
     ·rename_i n wd hq;split at hd
      ·rename_i hw;simp only[Option.some.injEq,Prod.mk.injEq] at hd;obtain⟨rfl,rfl,rfl,rfl⟩:=hd;obtain⟨i1,i2⟩:=hs.mt T name n wd hq;exact (i2 o c x l a w ho hc ha (Oy hT hx) hw).imp λv w' ⟨e,hx⟩=>⟨r,cm,.rfl,⟨hM.step hx,hT.ext hx⟩,af.val (i:=.k n) ⟨by rw[e],i1⟩⟩
      ·cases hd
     ·cases hd
    ·cases hd
   ·cases hd
 ·rename_i ho;simp[av,ho] at hk
 ·rename_i ho;simp[av,ho] at hk
 ·rename_i ho;simp[av,ho] at hk
 ·cases hd
end
end
end Go.Proofs.YtghemgdfmldoeaaGreat
