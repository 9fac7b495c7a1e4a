import Derived.Test.YtghemgdfmldoeaaGreatP07
import Derived.Deep.AppendLies
set_option linter.unusedVariables false
set_option linter.unusedSimpArgs false
namespace Go.Proofs.YtghemgdfmldoeaaGreat
open Go.RowKit
section
def ae(P:Program)(f:FuncId)(args:List V1)(res:AV):Prop :=
 ∀W vals,aV W W (λ_=>0) 0 args vals->Calls P f vals.toArray W λe w'=>∃v,e=.returned v/\bT W w' (λ_=>0) 0 res v/\ac W w'
def pU(P:Program)(f:FuncId)(args:List V1)(res:AV)(ms:List Mb):Prop :=
 ∀W vals,aV W W (λ_=>0) 0 args vals->Calls P f vals.toArray W λe w'=>∃v r cm,e=.returned v/\RM W r cm (ms.map some) w'/\bT W w' r ms.length res v
theorem bT.none{res:AV}{x:Value}{V W:World}{r r':Nat->Nat}(h:bT V W r 0 res x):bT V W r' 0 res x:=h.imp λi=>af.grow (Nat.le_refl _) (λb hb=>absurd hb (Nat.not_lt_zero b)) i (.inr λb _ hb=>absurd hb (Nat.not_lt_zero b))
theorem RM.nil{W W':World}(h:ac W W'):RM W (λ_=>0) (λ_=>[]) [] W':=⟨h,λb x hb=>absurd (cZ hb) (Nat.not_lt_zero b),λb x hb=>absurd (cZ hb) (Nat.not_lt_zero b),λb c x y hb=>absurd (cZ hb) (Nat.not_lt_zero b),λb hb=>absurd hb (Nat.not_lt_zero b)⟩
theorem ae.toB{P:Program}{f:FuncId}{args:List V1}{res:AV}(h:ae P f args res):pU P f args res []:=λW vals hv=>(h W vals hv).mono λ_ _ ⟨v,h1,h2,h3⟩=>⟨v,_,_,h1,RM.nil h3,h2⟩
theorem pU.toO{P:Program}{f:FuncId}{args:List V1}{res:AV}(h:pU P f args res []):ae P f args res:=λW vals hv=>(h W vals hv).mono λ_ _ ⟨v,r,cm,h1,h2,h3⟩=>⟨v,h1,bT.none h3,h2.ext⟩
def J(V:World)(r:Nat->Nat)(cm:Nat->List Value)(s:St)(a:Act)(W:World):Prop:=(RM V r cm s.m W/\a.defers=[])/\RT V W r s.m.length s.t a
section
variable {P:Program} {V:World} {r r':Nat->Nat} {k k':Nat} {s s':St} {a:Act} {F S:World->Prop} {o:Oper} {W W':World} {cm cm':Nat->List Value} {m:List (Option Mb)}
theorem RT.ext{t:Tm}(h:RT V W r k t a)(hx:ac W W'):RT V W' r k t a:=⟨h.1,λi v hv=>(h.2 i v hv).imp (af.ext hx)⟩
theorem RM.step(h:RM V r cm m W)(hx:ac W W'):RM V r cm m W' :=
 ⟨ac.step h.ext hx,λb x hb=>⟨aH (h.blk b x hb).1 hx,(h.blk b x hb).2.imp (af.ext hx)⟩,h.lo,h.inj,λb hb=>Nat.lt_of_lt_of_le (h.bd b hb) hx.size⟩
theorem J.mono:dh (J V r cm s a):=λ_ _ h hb=>⟨⟨h.1.1.step hb,h.1.2⟩,h.2.ext hb⟩
theorem RT.put{d:Option Nat}{v:AV}{x:Value}(h:RT V W r k s.t a)(hv:bT V W r k v x):RT V W r k (put s d v).t (a.put d x):=by
 cases d with|none=>exact h|some d =>
  refine⟨by simp[Act.put,Go.Proofs.YtghemgdfmldoeaaGreat.put,Tm.set,h.1],λi u hi=>?_⟩;simp only[Go.Proofs.YtghemgdfmldoeaaGreat.put,Act.put] at hi ⊢;rcases Tm.get_set hi with⟨rfl,rfl,hlt⟩|⟨hd,hi⟩
  ·have hs : d < a.tmps.size := by rw [h.1]; exact hlt
   simpa[hs] using hv
  ·have := h.2 i u hi;simpa[Array.getD_eq_getD_getElem?,Array.getElem?_setIfInBounds,hd] using this
theorem fg{d:Option Nat}{v:AV}:(put s d v).m=s.m:=by cases d<;>rfl
theorem RT.imp{t:Tm}(h:RT V W r k t a)(hI:∀i cs,af V W r k i cs->af V W' r' k' i cs):RT V W' r' k' t a:=⟨h.1,λi v hv=>(h.2 i v hv).imp hI⟩
theorem IE{l:List It}(h:fD l=true):∀i∈l,i.fr=false:=λi hi=>by simpa using List.all_eq_true.1 h i hi
theorem RT.grow{t:Tm}(h:RT V W r k t a)(hF:∀i v,t.get i=some v->fD v.its=true)(hk:k<=k')(hr:∀b,b<k->r' b=r b):RT V W r' k' t a:=⟨h.1,λi v hv=>(h.2 i v hv).impM λj hj=>af.grow hk hr j (.inl (IE (hF i v hv) j hj))⟩
def up(r:Nat->Nat)(k g:Nat):Nat->Nat:=λb=>if b=k then g else r b
def cz(cm:Nat->List Value)(k:Nat)(c:List Value):Nat->List Value:=λb=>if b=k then c else cm b
theorem ge{g b:Nat}(h:b<k):up r k g b=r b:=by unfold up;rw[if_neg (by omega)]
theorem lk{g:Nat}:up r k g k=g:=by simp[up]
theorem Ce{b:Nat}{x y:Mb}(h:mb (m++[some y]) b=some x):mb m b=some x\/(b=m.length/\x=y):=by
 rw[cf,List.getElem?_append] at h;split at h
 ·exact .inl (cf.2 h)
 ·rename_i hlt;rcases Nat.lt_or_ge (b-m.length) 1 with h1|h1
  ·have hb : b = m.length := by omega
   subst hb;simp only[Nat.sub_self,List.getElem?_cons_zero,Option.some.injEq] at h;exact .inr ⟨rfl,h.symm⟩
  ·rw[List.getElem?_eq_none (by simpa using h1)] at h;cases h
theorem RM.new{g:Nat}{T:TypeId}{l:List It}{c:List Value}(h:RM V r cm m W)(hx:ac V W')(hs:W.heap.size<=W'.heap.size)(hb1:∀b x,mb m b=some x->W'.heap[r b]? = W.heap[r b]?)(hI:∀b y,mb m b=some y->∀i∈y.l,∀cs,af V W r m.length i cs->af V W' (up r m.length g) (m.length+1) i cs)
  (hg:W'.heap[g]? = some (.cells c.toArray T)) (hl:fS V W' (up r m.length g) (m.length+1) l c) (hV:V.heap.size<=g) (hn:∀b x,mb m b=some x->r b≠g) :
  RM V (up r m.length g) (cz cm m.length c) (m++[some ⟨T,l⟩]) W':=by
 have hlen:(m++[some (⟨T,l⟩:Mb)]).length=m.length+1:=by simp
 refine⟨hx,λb x hb=>?_,λb x hb=>?_,λb b' x y hb hb' e=>?_,λb hb=>?_⟩
 ·rw [hlen];rcases Ce hb with hb|⟨rfl,rfl⟩
  ·have hlt := cZ hb;obtain⟨h1,h2⟩:=h.blk b x hb;rw[ge hlt,show cz cm m.length c b=cm b by unfold cz;rw[if_neg (by omega)]];exact⟨(hb1 b x hb).trans h1,h2.impM (hI b x hb)⟩
  ·rw [lk, show cz cm m.length c m.length = c by simp [cz]];exact⟨hg,hl⟩
 ·rcases Ce hb with hb | ⟨rfl, rfl⟩
  ·rw[ge (cZ hb)];exact h.lo b x hb
  ·rw[lk];exact hV
 ·rcases Ce hb with hb | ⟨rfl, rfl⟩ <;> rcases Ce hb' with hb' | ⟨rfl, rfl⟩
  ·rw [ge (cZ hb), ge (cZ hb')] at e;exact h.inj b b' x y hb hb' e
  ·rw [ge (cZ hb), lk] at e;exact absurd e (hn b x hb)
  ·rw [ge (cZ hb'), lk] at e;exact absurd e.symm (hn b' y hb')
  ·rfl
 ·rw [hlen] at hb;rcases Nat.lt_or_ge b m.length with h1|h1
  ·rw[ge h1];exact Nat.lt_of_lt_of_le (h.bd b h1) hs
  ·rw[show b=m.length by omega,lk];exact (Array.getElem?_eq_some_iff.1 hg).1
theorem u7{g:Nat}(hx:ac W W')(hg:W.heap.size<=g)(i:It)(cs:List Value)(h:af V W r k i cs):af V W' (up r k g) (k+1) i cs :=
 af.ext hx i cs (af.grow (Nat.le_succ _) (λb hb=>ge hb) i (.inr λb h1 h2=>.inl (by rw[show b=k by omega,lk];exact hg)) cs h)
theorem RM.alloc{T:TypeId}{l:List It}{c:List Value}(h:RM V r cm m W)(hx:ac W W')(hg:W'.heap[W.heap.size]? = some (.cells c.toArray T))(hl:fS V W r m.length l c):RM V (up r m.length W.heap.size) (cz cm m.length c) (m++[some ⟨T,l⟩]) W' :=
 h.new (ac.step h.ext hx) hx.size (λb x hb=>hx.block _ (Array.getElem?_eq_some_iff.1 (h.blk b x hb).1).1) (λ_ _ _ i _=>u7 hx (Nat.le_refl _) i) hg (hl.imp (u7 hx (Nat.le_refl _))) h.ext.size λb x hb e=>by
  have:=(Array.getElem?_eq_some_iff.1 (h.blk b x hb).1).1;omega
theorem RM.newF{g:Nat}{T:TypeId}{l:List It}{c:List Value}(h:RM V r cm m W)(hF:∀b y,mb m b=some y->fD y.l=true)(hlF:fD l=true)(hg:W.heap[g]? = some (.cells c.toArray T))(hl:fS V W r m.length l c)(hV:V.heap.size<=g)(hn:∀b x,mb m b=some x->r b≠g) :
  RM V (up r m.length g) (cz cm m.length c) (m++[some ⟨T,l⟩]) W :=
 h.new h.ext (Nat.le_refl _) (λ_ _ _=>rfl) (λb y hb i hi=>af.grow (Nat.le_succ _) (λb hb=>ge hb) i (.inl (IE (hF b y hb) i hi))) hg (hl.impM λi hi=>af.grow (Nat.le_succ _) (λb hb=>ge hb) i (.inl (IE hlF i hi))) hV hn
theorem Cj{b b':Nat}{x y:Mb}{v:Option Mb}(h:mb (m.set b v) b'=some x)(hb:mb m b=some y):(b'=b/\v=some x)\/(b'≠b/\mb m b'=some x):=by
 rw[cf,List.getElem?_set] at h;by_cases e:b=b'
 ·rw [if_pos e, if_pos (cZ hb)] at h;exact .inl ⟨e.symm,by simpa using h⟩
 ·rw [if_neg e] at h;exact .inr ⟨λh=>e h.symm,cf.2 h⟩
theorem RM.set{b:Nat}{x:Mb}{l:List It}{c:List Value}(h:RM V r cm m W)(hE:x.T≠tE\/j8 l=true/\∀b' y,mb m b'=some y->j8 y.l=true)(hb:mb m b=some x)(hl:fS V W r m.length l c)(ho:fR (r b) W W')(hg:W'.heap[r b]? = some (.cells c.toArray x.T))(hc:c.length=(cm b).length) :
  RM V r (cz cm b c) (m.set b (some ⟨x.T,l⟩)) W':=by
 obtain⟨h1,h2⟩:=h.blk b x hb;have keep:∀i,(i.isE=false\/x.T≠tE)->∀cs,af V W r m.length i cs->af V W' r m.length i cs:=λi hi cs=>af.keep ⟨b,cZ hb,rfl⟩ h1 h2.nd ho hg hc i hi cs
 have noI:∀ {l:List It},j8 l=true->∀i∈l,i.isE=false:=λh i hi=>by simpa using List.all_eq_true.1 h i hi
 refine⟨h.ext.trans (ho.below (h.lo b x hb)),λb' y hy=>?_,λb' y hy=>?_,λb' c' y z hy hz e=>?_,λb' hb'=>by rw[List.length_set] at hb';rw[ho.size];exact h.bd b' hb'⟩
 ·rw [List.length_set];rcases Cj hy hb with⟨rfl,e⟩|⟨hne,hy⟩
  ·cases e;rw[show cz cm b' c b'=c by simp[cz]];exact⟨hg,hl.impM λi hi=>keep i (hE.symm.imp (λh=>noI h.1 i hi) id)⟩
  ·obtain ⟨k1, k2⟩ := h.blk b' y hy;rw[show cz cm b c b'=cm b' by unfold cz;rw[if_neg hne]];refine⟨?_,k2.impM λi hi=>keep i (hE.symm.imp (λh=>noI (h.2 b' y hy) i hi) id)⟩;rw[ho.block _ (λhr=>hne (h.inj b' b y x hy hb hr))];exact k1
 ·rcases Cj hy hb with ⟨rfl, e⟩ | ⟨hne, hy⟩
  ·exact h.lo _ x hb
  ·exact h.lo _ y hy
 ·rcases Cj hy hb with ⟨e1, _⟩ | ⟨_, hy2⟩ <;> rcases Cj hz hb with ⟨e2, _⟩ | ⟨_, hz2⟩
  ·rw[e1,e2]
  ·rw[e1] at e ⊢;exact h.inj _ _ _ _ hb hz2 e
  ·rw[e2] at e ⊢;exact h.inj _ _ _ _ hy2 hb e
  ·exact h.inj _ _ _ _ hy2 hz2 e
theorem RT.keep{t:Tm}{g:Nat}{xs xs':List Value}{T T':TypeId}(h:RT V W r k t a)(hb:∃b,b<k/\r b=g)(hE:T≠tE\/∀i v,t.get i=some v->j8 v.its=true)(hg:W.heap[g]? = some (.cells xs.toArray T))(hn:∀v∈xs,nd v)(ho:fR g W W')(hg':W'.heap[g]? = some (.cells xs'.toArray T'))(hl:xs'.length=xs.length):RT V W' r k t a:=⟨h.1,λi v hv=>(h.2 i v hv).impM λj hj=>af.keep hb hg hn ho hg' hl j (hE.symm.imp (λh=>by simpa using List.all_eq_true.1 (h i v hv) j hj) id)⟩
theorem Tr.all_get{p:AV->Bool}{v:AV}:∀ {t:Tr} {i:Nat},t.all p=true->t.get i=some v->p v=true
 | .e,_,_,h=>by cases h|.n u l r,i,ha,h=>by
  unfold Tr.all at ha;simp only[Bool.and_eq_true] at ha;unfold Tr.get at h;split at h
  ·cases h;exact ha.1
  ·split at h
   ·exact Tr.all_get ha.2.1 h
   ·exact Tr.all_get ha.2.2 h
theorem CU{T:TypeId}(h:sG s T=true):T≠tE\/∀i v,s.t.get i=some v->j8 v.its=true:=by
 unfold sG at h;simp only[Bool.or_eq_true,Bool.not_eq_true',beq_eq_false_iff_ne,Bool.and_eq_true] at h;exact h.imp id λh i v hv=>Tr.all_get h.1 (Tm.get_lt hv).2
theorem IW{T:TypeId}{c:List It}(h:Ab s T c=true):sG s T=true/\(T≠tE\/j8 c=true):=by
 unfold Ab at h;simp only[Bool.or_eq_true,Bool.not_eq_true',beq_eq_false_iff_ne,Bool.and_eq_true] at h;exact h
theorem IX{T:TypeId}(h:sG s T=true):T≠tE\/∀b y,mb s.m b=some y->j8 y.l=true:=by
 unfold sG at h;simp only[Bool.or_eq_true,Bool.not_eq_true',beq_eq_false_iff_ne,Bool.and_eq_true] at h;exact h.imp id λh b y hb=>by
  have:=List.all_eq_true.1 h.2 (some y) (List.mem_of_getElem? (cf.1 hb));exact this
theorem Tr.allD_get{p:AV->Bool}{v:AV}:∀ {k:Nat} {t:Tr} {i:Nat},t.allD p k=true->i+1<2 ^ k->t.get i=some v->p v=true
 | 0,_,_,_,hi,_=>by simp at hi|_+1,.e,_,_,_,h=>by cases h|k+1,.n u l r,i,ha,hi,h=>by
  unfold Tr.allD at ha;simp only[Bool.and_eq_true] at ha;unfold Tr.get at h;rw[Nat.pow_succ] at hi;split at h
  ·cases h;exact ha.1
  ·rename_i j;have e:Nat.div j 2=j/2:=rfl;split at h
   ·rw [e] at h;exact Tr.allD_get ha.2.1 (by omega) h
   ·rw [e] at h;exact Tr.allD_get ha.2.2 (by omega) h
theorem Gl{t:Tm}{i:Nat}(h:i<t.n):i+1<2 ^ t.dp:=by
 unfold Tm.dp;have:=@Nat.lt_log2_self t.n;omega
theorem yY(h:qI s=true):∀i v,s.t.get i=some v->fD v.its=true:=λi v hv=>by
 unfold qI at h;rw[Bool.and_eq_true] at h;exact Tr.allD_get h.1 (Gl (Tm.get_lt hv).1) (Tm.get_lt hv).2
theorem ID(h:qI s=true):∀b y,mb s.m b=some y->fD y.l=true:=λb y hb=>by
 unfold qI at h;rw[Bool.and_eq_true] at h;exact List.all_eq_true.1 h.2 (some y) (List.mem_of_getElem? (cf.1 hb))
theorem LX(h:rF s=true):s.al≠2:=by
 unfold rF at h;intro e;rw[e] at h;cases h
theorem Fj(h:rF s=true)(h0:s.al≠0):qI s=true:=by
 unfold rF at h;simp only[Bool.or_eq_true,Nat.beq_eq,Bool.and_eq_true] at h;exact (h.resolve_left h0).2
theorem RM.drop{b:Nat}(h:RM V r cm m W):RM V r cm (m.set b none) W:=by
 have key:∀b' x,mb (m.set b none) b'=some x->mb m b'=some x:=by
  intro b' x hb;rw[cf,List.getElem?_set] at hb;split at hb
  ·split at hb<;>cases hb
  ·exact cf.2 hb
 refine⟨h.ext,λb' x hb=>by rw[List.length_set];exact h.blk b' x (key b' x hb),λb' x hb=>h.lo b' x (key b' x hb),λb' c x y hb hc=>h.inj b' c x y (key b' x hb) (key c y hc),λb' hb=>h.bd b' (by rwa [List.length_set] at hb)⟩
def mg{α:Type}(r r2:Nat->α)(k:Nat):Nat->α:=λb=>if b<k then r b else r2 (b-k)
theorem jp{α:Type}{r r2:Nat->α}{b:Nat}(h:b<k):mg r r2 k b=r b:=by unfold mg;rw[if_pos h]
theorem lJ{α:Type}{r r2:Nat->α}{b:Nat}:mg r r2 k (b+k)=r2 b:=by unfold mg;rw[if_neg (by omega),Nat.add_sub_cancel]
theorem Cf{b:Nat}{x:Mb}{ms:List Mb}(h:mb (m++ms.map some) b=some x):mb m b=some x\/∃b',b=b'+m.length/\mb (ms.map some) b'=some x:=by
 rw[cf,List.getElem?_append] at h;split at h
 ·exact .inl (cf.2 h)
 ·rename_i hlt;exact .inr ⟨b-m.length,by omega,cf.2 h⟩
theorem SD{V1 V2:World}{l:List It}:∀ {cs:List Value},l.all (It.rk 0)=true->aA V1 W r k l cs->aA V2 W r' k' l cs:=by
 induction l with|nil=>intro cs _ e;exact e|cons i l ih =>
  intro cs hl h;obtain⟨c,d,e,k1,k2⟩:=h;simp only[List.all_cons,Bool.and_eq_true] at hl;refine⟨c,d,e,?_,ih hl.2 k2⟩;cases i with|p x o=>have:=hl.1;simp[It.rk] at this|sl x n z=>have:=hl.1;simp[It.rk] at this|_=>first|exact k1|cases hl.1
theorem eb.mg{w:World}{r2:Nat->Nat}{n m z:Nat}{T:TypeId}{f:Nat->List It}{v:Value}(hV:V.heap.size<=w.heap.size)(hbd:∀b,b<k->r b<w.heap.size):eb w W r2 n T z m f v->eb V W (mg r r2 k) (k+n) T z m f v
 | .inl h=>.inl h|.inr ⟨g,c,xs,e,⟨h1,h2⟩,h3⟩=>.inr ⟨g,c,xs,e,⟨Nat.le_trans hV h1,λb hb=>by
  by_cases hk:b<k
  ·rw [jp hk];have:=hbd b hk;omega
  ·obtain ⟨b', rfl⟩ : ∃ b', b = b' + k := ⟨b - k, by omega⟩;rw[lJ];exact h2 b' (by omega)⟩,h3⟩
theorem P5{w:World}{r2:Nat->Nat}{n:Nat}(hx:ac w W')(h2:∀b,b<n->w.heap.size<=r2 b)(i:It)(cs:List Value)(h:af V w r k i cs):af V W' (mg r r2 k) (k+n) i cs :=
 af.ext hx i cs (af.grow (Nat.le_add_right _ _) (λb hb=>jp hb) i (.inr λb h3 h4=>.inl (by
  obtain⟨b',rfl⟩:∃b',b=b'+k:=⟨b-k,by omega⟩;rw[lJ];exact h2 b' (by omega))) cs h)
theorem RM.fresh{r2:Nat->Nat}{cm2:Nat->List Value}{ms:List Mb}(h:RM W r2 cm2 (ms.map some) W'):∀b,b<ms.length->W.heap.size<=r2 b:=λb hb=>h.lo b ms[b] (cf.2 (by simp[hb]))
theorem RM.merge{w:World}{r2:Nat->Nat}{cm2:Nat->List Value}{ms:List Mb}(h:RM V r cm m w)(h2:RM w r2 cm2 (ms.map some) W')(hm:(ms.all λx=>x.l.all (It.rk 0))=true):RM V (mg r r2 m.length) (mg cm cm2 m.length) (m++ms.map some) W':=by
 have h1:=h.step h2.ext;have fresh:∀b x,mb (ms.map some) b=some x->w.heap.size<=r2 b:=h2.lo;have old:∀b x,mb m b=some x->r b<w.heap.size:=λb x hb=>(Array.getElem?_eq_some_iff.1 (h.blk b x hb).1).1
 have hlen:(m++ms.map some).length=m.length+ms.length:=by simp
 refine⟨h1.ext,λb x hb=>?_,λb x hb=>?_,λb c x y hb hc e=>?_,λb hb=>?_⟩
 ·rcases Cf hb with hb2 | ⟨b', e', hb2⟩
  ·have hlt := cZ hb2;obtain⟨k1,k2⟩:=h.blk b x hb2;rw[jp hlt,jp hlt,hlen];exact⟨aH k1 h2.ext,k2.imp (P5 h2.ext h2.fresh)⟩
  ·obtain ⟨k1, c, d, e, k2, k3⟩ := h2.blk b' x hb2;rw[e',lJ,lJ];refine⟨k1,c,d,e,SD ?_ k2,k3⟩;rw[cf,List.getElem?_map] at hb2;cases hx:ms[b']? with|none=>simp[hx] at hb2|some y =>
    simp only[hx,Option.map_some,Option.some.injEq] at hb2;subst hb2;exact List.all_eq_true.1 hm y (List.mem_of_getElem? hx)
 ·rcases Cf hb with hb2 | ⟨b', e', hb2⟩
  ·rw[jp (cZ hb2)];exact h.lo b x hb2
  ·rw[e',lJ];exact Nat.le_trans h.ext.size (fresh b' x hb2)
 ·rcases Cf hb with hb2 | ⟨b', e1, hb2⟩ <;> rcases Cf hc with hc2 | ⟨c', e2, hc2⟩
  ·rw[jp (cZ hb2),jp (cZ hc2)] at e;exact h.inj b c x y hb2 hc2 e
  ·rw [e2, jp (cZ hb2), lJ] at e;have:=old b x hb2;have:=fresh c' y hc2;omega
  ·rw [e1, jp (cZ hc2), lJ] at e;have:=old c y hc2;have:=fresh b' x hb2;omega
  ·rw [e1, e2, lJ, lJ] at e;rw[e1,e2,h2.inj b' c' x y hb2 hc2 e]
 ·rcases Nat.lt_or_ge b m.length with h3 | h3
  ·rw[jp h3];exact h1.bd b h3
  ·obtain ⟨b', rfl⟩ : ∃ b', b = b' + m.length := ⟨b - m.length, by omega⟩;rw[lJ];exact h2.bd b' (by rw[hlen] at hb;simp;omega)
end
end
section
section
variable {P:Program} {V:World} {r r':Nat->Nat} {k k':Nat} {s s':St} {a:Act} {F S:World->Prop} {o:Oper} {W W' w:World} {cm cm':Nat->List Value} {m:List (Option Mb)} {E:Env} {call:gw} {q q':List Bool} {v:AV} {ob:Ob} {ops:Array Oper}
theorem Kq{t:TypeId}{i:TypeInfo}{z:Value}(hi:P.info? t=some i)(hz:i.zero=some z)(w:World):(Instr.alloc t true (.tuple #[])).run P w=.ok (.pointer (some ⟨w.heap.size,0,none⟩)) (w.alloc (.cells z.cells t)):=by
 simp[Instr.alloc,zeroValue,typeInfo,hi,hz,newVar,newRow,Sem.run_bind]
theorem To{t:TypeId}(x:Value)(w:World):(Instr.box t x).run P w=.ok (.pointer (some ⟨w.heap.size,0,none⟩)) (w.alloc (.cells x.cells t)):=by
 simp[Instr.box,newVar,newRow]
theorem Ks{t T:TypeId}{g j n:Nat}{x:Value}{old vs:List Value}(hg:w.heap[g]? = some (.cells old.toArray T))(hx:x.cells=vs.toArray)(hn:bV P t=some n)(hl:vs.length=n)(hj:j+vs.length<=old.length)(h1:∀v∈vs,v.oneCell'=true) :
  (Instr.storeAt t (.pointer (some ⟨g,j,none⟩)) x).run P w=.ok () (w.setRow g (old.take j++(vs++old.drop (j+vs.length))).toArray):=by
 have e:storeVar t ⟨g,j,none⟩ x=storeVar t ⟨g,j,none⟩ (.agg x.cells):=rfl;simp only[Instr.storeAt,Instr.sureAddr,Sem.run_bind,Sem.run_pure,Result.andThen_ok,e,hx];rw[a5v (P:=P) w g j T t old.toArray vs.toArray hg (by rw[show (P.info? t).map (·.size)=some n from hn];simp[hl]) (by simpa using hj) (by simpa[Array.all_eq_true_iff_forall_mem] using h1)];simp[putAt]
theorem jx.ext{i:It}{cs:List Value}(hx:ac W W')(h:jx W i cs):jx W' i cs:=by
 cases i with|d D=>exact Dat.ext hx h|o D=>exact Dat.ext hx h|ds L=>obtain⟨v,e,h⟩:=h;exact⟨v,e,h.ext hx⟩|ro z n f=>obtain⟨v,e,h⟩:=h;exact⟨v,e,h.imp hx λ_ _ h=>h.ext hx⟩|_=>exact h
theorem aE.ext(hx:ac W W'):∀ {l:List It} {cs:List Value},aE W l cs->aE W' l cs
 | [],_,e=>e|_::_,_,⟨c,d,e,h1,h2⟩=>⟨c,d,e,h1.ext hx,aE.ext hx h2⟩
theorem a1T{i:It}{cs:List Value}(hx:ac V W)(hi:i.np=true)(h:af V W r k i cs):jx W (xa i) cs:=by
 cases i with|o D=>exact Dat.ext hx h|i _ _=>exact h|k _=>exact h|v _=>exact h|b _=>exact h|d _=>exact h|fc _ _=>exact h|_=>cases hi
theorem IG(hx:ac V W):∀ {l:List It} {cs:List Value},l.all It.np=true->aA V W r k l cs->aE W (l.map xa) cs
 | [],_,_,e=>e|i::l,_,hl,⟨c,d,e,h1,h2⟩=>by
  simp only[List.all_cons,Bool.and_eq_true] at hl;exact⟨c,d,e,a1T hx hl.1 h1,IG hx hl.2 h2⟩
theorem Hi{l l':List It}{cs:List Value}(hx:ac V W)(h:nv l=some l')(hr:aA V W r k l cs):aE W l' cs:=by
 unfold nv at h;split at h<;>cases h;exact IG hx (by assumption) hr
theorem Pi{V:World}:∀ {l:List (Int×Nat)},(∀x∈l,x.1.natAbs<=x.2/\I64 x.1)->aE V (l.map λx=>It.i x.1 x.2) (l.map λx=>Value.int .i64 x.1)
 | [],_=>rfl|_::_,h=>⟨[_],_,rfl,⟨rfl,h _ (List.mem_cons_self ..)⟩,Pi λx hx=>h x (List.mem_cons_of_mem _ hx)⟩
theorem SQ{D:Dat}{cs:List Value}{r:Nat->Nat}{k:Nat}(h:D.R W cs):af W W r k (JV D) cs:=by
 cases D with|ed n f =>
  obtain⟨v,e,a,c,e2,h1,h2,h3⟩:=h;refine⟨v,e,a,c,e2,h1,h2,λi hi=>?_⟩;obtain⟨g,o,xs,fr,k1,k2,k3,⟨d,k4⟩,k5⟩:=h3 i hi;exact⟨g,o,xs,(tE,fr),k1,k2,k3,_,d,k4,Pi k5⟩|_=>exact h
theorem eb.ro{T:TypeId}{z n:Nat}{f:Nat->List It}{v:Value}:eb V W r k T z n f v->fU (aE W) W z n f v
 | .inl ⟨e,hn⟩=>by subst hn;exact⟨none,0,e,Nat.le_refl _,Nat.zero_le _,λi hi=>absurd hi (Nat.not_lt_zero _)⟩|.inr ⟨g,c,xs,e,_,h1,h2,h3,h4,_,h5⟩=>⟨_,c,e,h2,h3,λi hi=>by
  obtain⟨cs,d,k1,k2,k3⟩:=h5 i hi;refine⟨g,0,xs,(T,(0,0)),rfl,h1,?_,cs,d,by rw[Nat.zero_add];exact k1,k3.toG.up (Below.refl _ _)⟩;have:i*z<=c*z:=Nat.mul_le_mul_right _ (by omega);omega⟩
theorem Md(hM:RM V r cm m W){i j:It}{cs:List Value}(h:AU m i=some j)(hr:af V W r m.length i cs):af W W (λ_=>0) 0 j cs:=by
 have hx:=hM.ext;unfold AU at h;split at h
 ·rename_i b o;cases hb:mb m b with|none=>simp[hb] at h|some x =>
   cases hc:bE x.l o with|none=>simp[hb,hc] at h|some z =>
    obtain⟨u1,u2⟩:=z;cases hf:nv u2 with|none=>simp[hb,hc,hf] at h|some l =>
     simp only[hb,hc,hf,Option.bind_some,Option.map_some,Option.some.injEq] at h;subst h;obtain⟨h1,c,d,e,h2,h3⟩:=hM.blk b x hb;obtain⟨k1,k2,k3⟩:=qf hc h2;refine⟨r b,o,(cm b).toArray,(x.T,(0,0)),hr.2,h1,by rw[e];simp;omega,c.drop o,d,?_,Hi hx hf k2⟩;rw[e,List.toList_toArray,List.drop_append_of_le_length k3]
 ·rename_i b n z;cases hb:mb m b with|none=>simp[hb] at h|some x =>
   cases hc:bE x.l (n*z) with|none=>simp[hb,hc] at h|some zz =>
    obtain⟨u1,u2⟩:=zz;cases hf:nv u1 with|none=>simp[hb,hc,hf] at h|some l =>
     simp only[hb,hc,hf,Option.bind_some,Option.map_some,Option.some.injEq] at h;subst h;obtain⟨h1,c,d,e,h2,h3⟩:=hM.blk b x hb;obtain⟨k1,k2,k3⟩:=qf hc h2;obtain⟨_,q,xs,T,q1,q2,q3,q4,q5⟩:=hr;rw[h1] at q2;cases q2;refine⟨r b,q,(cm b).toArray,(x.T,(0,0)),q1,h1,q4,q5,Nat.zero_le _,c.take (n*z),c.drop (n*z)++d,?_,Hi hx hf k1,by simp;omega⟩;rw[e,List.toList_toArray,List.drop_zero,<- List.append_assoc,List.take_append_drop]
 ·cases h
 ·cases h
 ·cases h
 ·cases h;exact SQ (Dat.ext hx hr)
 ·cases h;exact SQ hr
 ·cases h;obtain⟨v,e,h⟩:=hr;exact⟨v,e,h.ro⟩
 ·cases h
 ·cases h;rename_i h1 h2 h3 h5 h6 h4 h7 h8 h9;cases i with|p b o=>exact absurd rfl (h1 b o)|sl b n z=>exact absurd rfl (h2 b n z)|fn f c=>exact absurd rfl (h3 f c)|dr L k=>exact absurd rfl (h5 L k)|px b z n l=>exact absurd rfl (h6 b z n l)|o D=>exact absurd rfl (h4 D)|d D=>exact absurd rfl (h7 D)|ol T z n f=>exact absurd rfl (h8 T z n f)|gp T l=>exact absurd rfl (h9 T l)|ds L=>obtain⟨v,e,h⟩:=hr;exact⟨v,e,h.ext hx⟩|ro z n f=>obtain⟨v,e,h⟩:=hr;exact⟨v,e,h.imp hx λ_ _ h=>h.ext hx⟩|fp l =>
   obtain⟨g,o,xs,T,q1,q2,q3,c,d,q4,q5⟩:=hr;exact⟨g,o,xs,T,q1,aH q2 hx,q3,c,d,q4,q5.ext hx⟩|fs o l n z =>
   obtain⟨g,q,xs,T,q1,q2,q3,q4,q5,c,d,q6,q7,q8⟩:=hr;exact⟨g,q,xs,T,q1,aH q2 hx,q3,q4,q5,c,d,q6,q7.ext hx,q8⟩|_=>exact hr
theorem Me(hM:RM V r cm m W):∀ {l l':List It} {cs:List Value},AW m l=some l'->aA V W r m.length l cs->aA W W (λ_=>0) 0 l' cs
 | [],_,_,h,e=>by cases h;exact e|i::l,l',_,h,⟨c,d,e,h1,h2⟩=>by
  unfold AW at h;split at h<;>cases h;exact⟨c,d,e,Md hM (by assumption) h1,Me hM (by assumption) h2⟩
theorem AX(hM:RM V r cm m W):∀ {l l':List V1} {xs:List Value},u9 m l=some l'->aV V W r m.length l xs->aV W W (λ_=>0) 0 l' xs
 | [],_,_,h,e=>by cases h;exact e|v::l,l',_,h,⟨x,ys,e,⟨cs,h1,h2,h3⟩,h4⟩=>by
  unfold u9 at h;split at h<;>cases h;exact⟨x,ys,e,⟨cs,Me hM (by assumption) h1,h2,h3⟩,AX hM (by assumption) h4⟩
theorem aV.app:∀ {l l':List V1} {xs ys:List Value},aV V W r k l xs->aV V W r k l' ys->aV V W r k (l++l') (xs++ys)
 | [],_,_,_,e,h=>by cases e;exact h|_::_,_,_,_,⟨x,zs,e,h1,h2⟩,h=>⟨x,zs++_,by rw[e];rfl,h1,aV.app h2 h⟩
theorem Bq:∀ {l:List (Nat×Nat)},(∀p∈l,p.1<k)->aV V W r k (l.map λp=>⟨false,[.p p.1 p.2]⟩) (l.map λp=>Value.pointer (some ⟨r p.1,p.2,none⟩))
 | [],_=>rfl|p::l,h=>⟨_,_,rfl,af.val (i:=.p p.1 p.2) ⟨h p (by simp),rfl⟩,Bq λq hq=>h q (List.mem_cons_of_mem _ hq)⟩
theorem Hg(hT:RT V W r k s.t a){x:Operand}{f:FuncId}{cap:List (Nat×Nat)}(h:vC s x=some (f,cap)):(∀p∈cap,p.1<k)/\a.eval x=.func (.func f) #[] (cap.map λp=>Value.pointer (some ⟨r p.1,p.2,none⟩)).toArray:=by
 unfold vC at h;split at h
 ·rename_i g u c hx;split at h
  ·rename_i hb;simp only[Bool.and_eq_true,beq_iff_eq] at hb;cases h;refine⟨nofun,?_⟩;have:=(gU hT hx).1;rw[show a.eval x=Value.func (.func f) u c by simpa using this,Array.eq_empty_of_size_eq_zero hb.1,Array.eq_empty_of_size_eq_zero hb.2];rfl
  ·cases h
 ·rename_i g c hx;cases h;have:=gU hT hx;exact⟨this.1,by simpa using this.2⟩
 ·cases h
theorem sX {f : FuncId} {fn : Func} {c : Code} {cl : Call} {x : Operand} {caps : Array Value} (hN : ∀ (f : FuncId) (fn : Func), P.funcs[f]? = some fn -> (fn.name == "runtime.NumGoroutine") = false) (hf : P.funcs[f]? = some fn) (hb : fn.body = some c) (ho : o.op = .call cl) (hc : cl.callee = .value x)
  (hx:a.eval x=.func (.func f) #[] caps) (w:World):(execOp a.eval o).run P w=.ok (.enter f (cl.args.map a.eval++caps)) w:=by
 have h1 : fn.name ≠ "runtime.NumGoroutine" := by simpa using hN f fn hf
 unfold execOp;simp only[ho,resolve,hc,hx,Deferred.ofValue,Sem.run_bind,Sem.run_pure,Result.andThen_ok,invoke,callFunc,program,Sem.run,hf];simp[h1,hb]
theorem Bn{f:FuncId}{c:Code}(h:(P.funcs[f]?).bind (·.body)=some c):∃fn,P.funcs[f]? = some fn/\fn.body=some c:=by
 cases hf:P.funcs[f]? with|none=>simp[hf] at h|some fn=>exact⟨fn,rfl,by simpa[hf] using h⟩
theorem Qb{b:Builtin}{ts:List TypeId}{l:List V1}{z:It×List Prop}{c:Call}(hq:sC P b ts l=some z)(ho:o.op=.call c)(hc:c.callee=.builtin b):av o=0:=by
 unfold sC at hq;unfold av;rw[ho];simp only[hc];split at hq<;>(try (cases hq;done))
 ·split at hq <;> (try (cases hq; done));split at hq<;>first|rfl|cases hq
 ·split at hq<;>first|rfl|cases hq
 ·split at hq<;>first|rfl|cases hq
theorem RT.refine{t:Tm}{d:Nat}{v u:AV}(h:RT V W r k t a)(hv:t.get d=some u)(h2:bT V W r k v (a.tmps.getD d undef)):RT V W r k (t.set d v) a:=by
 refine⟨h.1,λi x hi=>?_⟩;rcases Tm.get_set hi with⟨rfl,rfl,hlt⟩|⟨hd,hi⟩
 ·exact h2
 ·exact h.2 i x hi
theorem Hk{d:Bool}{ps:List Prop}{s1:St}(h:qt ops o s q=some (d,s1,ps,q'))(hp:aw ps):s1.m=s.m/\∀W,RT V W r k s.t a->RT V W r k s1.t a/\Region.wanted o (yielded ops a.tmps)=d:=by
 unfold qt at h;unfold Region.wanted;split at h
 ·rename_i hg;cases h;rw[hg];exact⟨rfl,λW h=>⟨h,rfl⟩⟩
 ·rename_i j want hg;rw[hg];simp only;split at h
  ·cases h
  ·rename_i t ht;have key:∀W v,RT V W r k s.t a->s.t.get t=some v->yielded ops a.tmps j=match a.tmps.getD t undef with | .bool b=>some b|_=>none:=by
    intro W v hT hv;have hlt:t<a.tmps.size:=by rw[hT.1];exact (Tm.get_lt hv).1
    unfold yielded;rw[ht];simp[hlt];split<;>simp_all
   split at h
   ·rename_i hv;cases h;refine⟨rfl,λW hT=>⟨hT,?_⟩⟩;have h1:a.tmps.getD t undef=undef:=hT.2 t _ hv;rw[key W _ hT hv,h1];rfl
   ·rename_i b hv;cases h;refine⟨rfl,λW hT=>⟨hT,?_⟩⟩;have h1:au V W r k _ _:=hT.2 t _ hv;have h3:a.tmps.getD t undef=.bool b:=by simpa using (show [a.tmps.getD t undef]=[Value.bool b] from h1.scal)
    rw[key W _ hT hv,h3];simp
   ·rename_i b hv;split at h
    ·cases h;have e:=hp.1;refine⟨rfl,λW hT=>?_⟩;have h1:au V W r k _ _:=hT.2 t _ hv;have h3:a.tmps.getD t undef=.bool b:=by simpa using h1.scal.1
     refine⟨hT.refine hv ?_,?_⟩
     ·rw [h3, e];exact af.val (i:=.b _) rfl
     ·rw [key W _ hT hv, h3, <- e];simp
    ·cases h
   ·cases h
end
end
def cQ(p:Option Addr):Option Nat:=p.map (·.block)
def PO(w:World)(B:Nat)(E:TypeId)(size:Nat)(p:Option Addr)(n c:Nat)(xs:List Value):Prop :=
 xs.length=n*size/\((p=none/\n=0/\c=0) \/
  ∃g cur,p=some ⟨g,0,none⟩/\B<=g/\w.heap[g]? = some (.cells cur E)/\n<=c/\c<=maxLen/\cur.size=c*size/\cur.toList.take (n*size)=xs/\∀v∈cur.toList,nd v)
theorem PO.ext{w w':World}{B:Nat}{E:TypeId}{size:Nat}{p:Option Addr}{n c:Nat}{xs:List Value}(h:PO w B E size p n c xs)(hx:ac w w'):PO w' B E size p n c xs:=by
 refine⟨h.1,?_⟩;rcases h.2 with h|⟨g,cur,h1,h2,h3,h4⟩
 ·exact .inl h
 ·exact .inr ⟨g,cur,h1,h2,aH h3 hx,h4⟩
theorem PO.only{w w':World}{B:Nat}{E:TypeId}{size:Nat}{p:Option Addr}{n c r:Nat}{xs:List Value}(h:PO w B E size p n c xs)(ho:fR r w w')(hr:cQ p≠some r):PO w' B E size p n c xs:=by
 refine⟨h.1,?_⟩;rcases h.2 with h|⟨g,cur,h1,h2,h3,h4⟩
 ·exact .inl h
 ·refine .inr ⟨g, cur, h1, h2, ?_, h4⟩;rw[ho.block g (by rintro rfl;exact hr (by rw[h1];rfl))];exact h3
theorem PO.nil(w:World)(B:Nat)(E:TypeId)(size:Nat):PO w B E size none 0 0 []:=⟨by simp,.inl ⟨rfl,rfl,rfl⟩⟩
theorem PO.lt{w:World}{B:Nat}{E:TypeId}{size:Nat}{p:Option Addr}{n c:Nat}{xs:List Value}(h:PO w B E size p n c xs):∀g,cQ p=some g->B<=g/\g<w.heap.size:=by
 intro g' hg';rcases h.2 with⟨hz,_⟩|⟨g,cur,h1,h2,h3,h4⟩
 ·cases hz;cases hg'
 ·cases h1;cases hg';exact⟨h2,(Array.getElem?_eq_some_iff.1 h3).1⟩
theorem PO.apart{w:World}{B:Nat}{E:TypeId}{size:Nat}{p:Option Addr}{n c:Nat}{xs:List Value}(h:PO w B E size p n c xs){m:Bool}{q:Option Addr}{k d:Nat}{x:Nm}(hn:NR w m q k d x) :
  0<x.d.length->∀a,q=some a->some a.block≠cQ p:=by
 intro h0 a ha e;rcases h.2 with⟨hz,_⟩|⟨g,cur,h1,h2,h3,_,_,_,_,h8⟩
 ·rw[hz] at e;cases e
 ·obtain ⟨b, o, rfl, hlt, hc⟩ := hn.2.2.2.2.2 h0;cases ha;rw[h1] at e;simp only[cQ,Option.map_some,Option.some.injEq] at e;subst e;have:=hc 0 h0;rw[cell_of_row _ _ _ _ _ _ h3] at this;exact h8 _ (by simpa using Array.mem_of_getElem? this) _ rfl
theorem NR.grow{w w':World}{B:Nat}{E:TypeId}{size:Nat}{p:Option Addr}{n c:Nat}{xs:List Value}{m:Bool}{q:Option Addr}{k d:Nat}{x:Nm}(hn:NR w m q k d x)(h:PO w B E size p n c xs)(hg:w.grownBy w' (cQ p)):NR w' m q k d x:=by
 have ha:=h.apart hn;obtain⟨h1,h2,h3,h4,h5,h6⟩:=hn;refine⟨h1,h2,h3,h4,h5,λh0=>?_⟩;obtain⟨b,o,rfl,hlt,hc⟩:=h6 h0;refine⟨b,o,rfl,Nat.lt_of_lt_of_le hlt hg.size,λi hi=>?_⟩;rw[<- hc i hi];exact World.cell?_of_block (hg.block b hlt (ha h0 _ rfl))
theorem OM{V w w':World}{B:Nat}{p:Option Addr}(h:ac V w)(hg:w.grownBy w' (cQ p))(hB:∀g,cQ p=some g->V.heap.size<=g):ac V w' :=
 ⟨hg.os.trans h.os,hg.tape.trans h.tape,hg.output.trans h.output,Nat.le_trans h.size hg.size,λk hk=>(hg.block k (Nat.lt_of_lt_of_le hk h.size) (λe=>by have:=hB k e.symm;omega)).trans (h.block k hk)⟩
theorem a1N{z:Array Value}(h:∀v∈z.toList,nd v)(hz:0<z.size)(n:Nat):∀v∈(Builtin.zeroCells z n).toList,nd v:=by
 intro v hv;simp only[Builtin.zeroCells,Array.toList_map,List.mem_map] at hv;obtain⟨i,_,rfl⟩:=hv;have hlt:i%z.size<z.size:=Nat.mod_lt _ hz;rw[getElem!_pos z _ hlt];exact h _ (by simp)
theorem Fq{P:Program}(W:World){B:Nat}{t ty E:TypeId}{i:TypeInfo}{z:Value}{size bytes:Nat}(ht:P.underlying t=some (.slice E))(hi:P.info? E=some i)(hz:i.zero=some z)(hsize:i.size=size)(hby:i.bytes=bytes)
  (hzs:z.cells.size=size) (hsz:0<size) (hzn:∀v∈z.cells.toList,nd v) {p:Option Addr} {n c:Nat} {xs:List Value} (h:PO W B E size p n c xs) (a:Addr) (m c':Nat) (news:List Value) (hl:news.length=m*size)
  (hnews:∀j u,news[j]? = some u->W.cell? (a.add j)=some u) (h1:∀u∈news,u.oneCell'=true) (hnn:∀v∈news,nd v) (hm:0<m) (hn:n+m<=1000) (hb:bytes<=4096) (hB:B<=W.heap.size) :
  ∃g c2 W',(Builtin.append_ #[t,t] ty #[.slice p n c,.slice (some a) m c']).run P W=.ok (.slice (some ⟨g,0,none⟩) (n+m) c2) W'/\PO W' B E size (some ⟨g,0,none⟩) (n+m) c2 (xs++news)/\W.grownBy W' (cQ p)/\(some g=cQ p\/W.heap.size<=g)/\∀g0 cur T,p=some ⟨g0,0,none⟩->W.heap[g0]? = some (.cells cur T)->∃cur',W'.heap[g0]? = some (.cells cur' T)/\cur'.size=cur.size/\cur'.toList.take (n*size)=cur.toList.take (n*size)/\((∀v∈cur.toList,nd v)->∀v∈cur'.toList,nd v):=by
 subst hsize;subst hby;have hsmall:n+m<=maxLen:=by unfold maxLen;omega
 have hbb:(n+m)*i.bytes<=140737488355328:=Nat.le_trans (Nat.mul_le_mul hn hb) (by decide);have hlen:(xs++news).length=(n+m)*i.size:=by rw[List.length_append,h.1,hl,Nat.add_mul]
 have grown:∀(old:Nat),old<n+m->(∀v∈xs,nd v)->∀row:Option Nat,
   PO (W.drew.alloc (.cells (xs.toArray++news.toArray++Builtin.zeroCells z.cells (grownCap W (n+m) old E-(n+m))) E)) B E i.size (some ⟨W.heap.size,0,none⟩) (n+m) (grownCap W (n+m) old E) (xs++news) /\
    W.grownBy (W.drew.alloc (.cells (xs.toArray++news.toArray++Builtin.zeroCells z.cells (grownCap W (n+m) old E-(n+m))) E)) row:=by
  intro old ho hx row;have hge:=grownCap_ge W (n+m) old E;have hcm:grownCap W (n+m) old E<=maxLen:=grownCap_le_maxLen W (n+m) old E hsmall;refine⟨⟨hlen,.inr ⟨W.heap.size,_,rfl,hB,heap_alloc_new W.drew _,hge,hcm,?_,?_,?_⟩⟩,⟨rfl,rfl,rfl,by simp,λk hk _=>heap_alloc_old W.drew _ hk⟩⟩
  ·simp only [Array.size_append, List.size_toArray, size_zeroCells, hzs, h.1, hl, <- Nat.add_mul];congr 1;omega
  ·simp only [Array.toList_append, List.append_assoc];rw[<- List.append_assoc,<- hlen];exact List.take_left
  ·intro v hv;simp only[Array.toList_append,List.mem_append] at hv;rcases hv with (hv|hv)|hv
   ·exact hx v hv
   ·exact hnn v hv
   ·exact a1N hzn (by omega) _ v hv
 rcases h.2 with⟨rfl,rfl,rfl⟩|⟨g,cur,rfl,hbg,hg,hnc,hcm,hcs,htake,hnd⟩
 ·have hx : xs = [] := List.eq_nil_of_length_eq_zero (by simpa using h.1);subst hx;have hr:=run_append_nil (P:=P) W t ty E i z ht hi hz a m c' news hl hnews hm (by omega) (by simp only[Nat.zero_add] at hbb;omega);have hgr:=grown 0 (by omega) (by simp) (cQ none);simp only[Nat.zero_add,List.nil_append,Array.empty_append] at hgr ⊢;exact⟨_,_,_,hr,hgr.1,hgr.2,.inr (Nat.le_refl _),nofun⟩
 ·have hxn : ∀ v ∈ xs, nd v := λv hv => hnd v (List.mem_of_mem_take (htake ▸ hv))
  by_cases hroom:n+m<=c
  ·have hfit : n * i.size + news.length <= cur.size := by rw [hl, hcs, <- Nat.add_mul]; exact Nat.mul_le_mul_right _ hroom
   have hr:=run_append_room (P:=P) W t ty E i ht hi g n c cur hg a m c' news hl hnews h1 hroom hfit;refine⟨_,_,_,hr,⟨hlen,.inr ⟨g,_,rfl,hbg,setRow_heap W g cur _ E _ hg,hroom,hcm,?_,?_,?_⟩⟩,⟨rfl,rfl,rfl,by simp,λk _ hk=>setRow_other W g k _ (λe=>hk (by simp[cQ,e]))⟩,.inl rfl,λg0 cu T e hc=>?_⟩
   ·simp only [List.size_toArray, List.length_append, List.length_take, List.length_drop, Array.length_toList];omega
   ·rw [htake, <- hlen];exact List.take_left
   ·intro v hv;simp only[List.mem_append] at hv;rcases hv with (hv|hv)|hv
    ·exact hnd v (List.mem_of_mem_take hv)
    ·exact hnn v hv
    ·exact hnd v (List.mem_of_mem_drop hv)
   ·cases e;rw[hg] at hc;cases hc;refine⟨_,setRow_heap W g cur _ E _ hg,by simp only[List.size_toArray,List.length_append,List.length_take,List.length_drop,Array.length_toList];omega,?_,λ_ v hv=>?_⟩
    ·simp only [List.append_assoc];rw[List.take_append_of_le_length (by rw[htake,h.1];exact Nat.le_refl _),List.take_of_length_le (by rw[htake,h.1];exact Nat.le_refl _)]
    ·simp only [List.mem_append] at hv;rcases hv with (hv|hv)|hv
     ·exact hnd v (List.mem_of_mem_take hv)
     ·exact hnn v hv
     ·exact hnd v (List.mem_of_mem_drop hv)
  ·have holds:∀j u,xs[j]? = some u->W.cell? ((⟨g,0,none⟩:Addr).add j)=some u:=by
    intro j u hj;rw[show (⟨g,0,none⟩:Addr).add j=⟨g,j,none⟩ by (unfold Addr.add;split<;>simp_all),cell_of_row W g j cur _ (0,0) hg];rw[<- htake,List.getElem?_take] at hj;split at hj
    ·simpa using hj
    ·cases hj
   have hr:=run_append_grow (P:=P) W t ty E i z ht hi hz ⟨g,0,none⟩ n c xs h.1 holds a m c' news hl hnews (by omega) (by unfold maxLen at hsmall;omega) (growslice_fits (by omega) hbb);have hgr:=grown c (by omega) hxn (cQ (some ⟨g,0,none⟩));exact⟨_,_,_,hr,hgr.1,hgr.2,.inr (Nat.le_refl _),λg0 cu T e hc=>⟨cu,by rw[show (W.drew.alloc _).heap[g0]? = W.drew.heap[g0]? from heap_alloc_old W.drew _ (Array.getElem?_eq_some_iff.1 hc).1];exact hc,rfl,rfl,id⟩⟩
theorem VI{P:Program}(W:World){B:Nat}{t ty E:TypeId}{i:TypeInfo}{z:Value}{size bytes:Nat}(ht:P.underlying t=some (.slice E))(hi:P.info? E=some i)(hz:i.zero=some z)(hsize:i.size=size)(hby:i.bytes=bytes)
  (hzs:z.cells.size=size) (hsz:0<size) (hzn:∀v∈z.cells.toList,nd v) {p:Option Addr} {n c:Nat} {xs:List Value} (h:PO W B E size p n c xs) (a:Addr) (m c':Nat) (news:List Value) (hl:news.length=m*size)
  (hnews:∀j u,news[j]? = some u->W.cell? (a.add j)=some u) (h1:∀u∈news,u.oneCell'=true) (hnn:∀v∈news,nd v) (hm:0<m) (hn:n+m<=1000) (hb:bytes<=4096) (hB:B<=W.heap.size) :
  ∃g c2 W',(Builtin.append_ #[t,t] ty #[.slice p n c,.slice (some a) m c']).run P W=.ok (.slice (some ⟨g,0,none⟩) (n+m) c2) W'/\PO W' B E size (some ⟨g,0,none⟩) (n+m) c2 (xs++news)/\W.grownBy W' (cQ p)/\(some g=cQ p\/W.heap.size<=g)/\∀g0 cur T,p=some ⟨g0,0,none⟩->W.heap[g0]? = some (.cells cur T)->∃cur',W'.heap[g0]? = some (.cells cur' T)/\cur'.size=cur.size:=by
 obtain⟨g,c2,W',k1,k2,k3,k4,k5⟩:=Fq (P:=P) W (t:=t) (ty:=ty) ht hi hz hsize hby hzs hsz hzn h a m c' news hl hnews h1 hnn hm hn hb hB;exact⟨g,c2,W',k1,k2,k3,k4,λg0 cur T e1 e2=>(k5 g0 cur T e1 e2).imp λ_ h=>⟨h.1,h.2.1⟩⟩
end Go.Proofs.YtghemgdfmldoeaaGreat
