import Derived.Test.YtghemgdfmldoeaaGreatP14
set_option linter.unusedVariables false
set_option linter.unusedSimpArgs false
namespace Go.Proofs.YtghemgdfmldoeaaGreat
open Go.RowKit
section
inductive Rq where
 | eq (v:V1)
 | le (v:V1)
def Rq.v:Rq->V1
 | .eq v=>v|.le v=>v
structure Ds where
 l:List (Nat×Rq)
 m:List (Option Mb)
def Tr.anyT:Nat->Tr
 | 0=>.e|k+1=>.n .any (Tr.anyT k) (Tr.anyT k)
def Tr.sets:List (Nat×Rq)->Tr
 | []=>Tr.anyT 12|(i,x)::l=>(Tr.sets l).set i (.one x.v)
def bI(n:Nat)(d:Ds):St:=⟨⟨n,Tr.sets d.l⟩,d.m,0⟩
def leI(u v:It):Option (List Prop) :=
 match u,v with|.i z A,.i y B=>if A<=B then some [z=y] else some [z=y/\z.natAbs<=B]|.k n,.i y B=>if n.natAbs<=B then some [n=y] else none|.k n,.k m=>if n=m then some [] else none|.b x,.b y=>if x=y then some [] else none|.b x,.v (.bool y)=>some [x=y]|.p x o,.p y u=>if x=y/\o=u then some [] else none|.ol T z n f,.ol T' z' n' f'=>if T=T'/\z=z' then some [n=n'/\∀i,i<n->f i=f' i] else none|.v (.slice none 0 0),.ol _ _ n _=>some [n=0]|u,v=>some [u=v]
def qC:List It->List It->Option (List Prop)
 | [],[]=>some []
 | u::l,v::m=>match leI u v,qC l m with|some a,some b=>some (a++b)|_,_=>none
 | _,_=>none
def Cb(u:V1):Rq->Option (List Prop)
 | .eq v=>some [u=v]|.le v=>if u.g=v.g then qC u.l v.l else none
def Cc(t:Tm):List (Nat×Rq)->Option (List Prop)
 | []=>some []|(i,x)::l=>match t.get i with|some (.one u)=>(match Cb u x,Cc t l with|some a,some b=>some (a++b)|_,_=>none)|_=>none
def qD:List (Option Mb)->List (Option Mb)->Option (List Prop)
 | _,[]=>some []|some x::l,some y::m=>if x.T=y.T then (match qC x.l y.l,qD l m with|some a,some b=>some (a++b)|_,_=>none) else none|_::l,none::m=>qD l m|_,_=>none
def It.bk(k:Nat):It->Bool
 | .p x _=>Nat.blt x k|.sl x _ _=>Nat.blt x k|.px x _ _ _=>Nat.blt x k|.fn _ c=>c.all λp=>Nat.blt p.1 k|_=>true
def Ds.bk(d:Ds):Bool:=(d.l.all λx=>x.2.v.l.all (It.bk d.m.length))&&d.m.all λx=>match x with|some y=>y.l.all (It.bk d.m.length)|none=>true
def kU(s:St)(d:Ds):Option (List Prop):=if d.bk&&Nat.ble d.m.length s.m.length then (match Cc s.t d.l,qD s.m d.m with|some a,some b=>some (a++b)|_,_=>none) else none
section
variable {V W:World} {r:Nat->Nat} {k k':Nat} {cm:Nat->List Value} {s:St} {a:Act}
theorem a0M{u v:It}{ps:List Prop}{cs:List Value}(h:leI u v=some ps)(hp:aw ps)(hr:af V W r k u cs):af V W r k v cs:=by
 unfold leI at h;split at h
 ·split at h <;> cases h
  ·obtain rfl := hp.1;exact⟨hr.1,Nat.le_trans hr.2.1 (by assumption),hr.2.2⟩
  ·obtain ⟨rfl, hb⟩ := hp.1;exact⟨hr.1,hb,hr.2.2⟩
 ·split at h <;> cases h;obtain rfl:=hp.1;exact⟨hr.1,by assumption,hr.2⟩
 ·split at h <;> cases h;rename_i e;subst e;exact hr
 ·split at h <;> cases h;rename_i e;subst e;exact hr
 ·cases h;obtain rfl:=hp.1;exact⟨hr,rfl⟩
 ·split at h <;> cases h;rename_i e;obtain⟨rfl,rfl⟩:=e;exact hr
 ·split at h <;> cases h;rename_i e;obtain⟨rfl,rfl⟩:=e;obtain⟨rfl,hf⟩:=hp.1;obtain⟨v,e,hr⟩:=hr;refine⟨v,e,?_⟩;rcases hr with hr|⟨g,c,xs,e2,h1,h2,h3,h4,h5,h6,h7⟩
  ·exact .inl hr
  ·exact .inr ⟨g,c,xs,e2,h1,h2,h3,h4,h5,h6,λi hi=>by rw[<- hf i hi];exact h7 i hi⟩
 ·cases h;obtain rfl:=hp.1;exact⟨_,hr.1,.inl ⟨rfl,rfl⟩⟩
 ·cases h;obtain rfl:=hp.1;exact hr
theorem Ik:∀ {l m:List It} {ps:List Prop} {cs:List Value},qC l m=some ps->aw ps->aA V W r k l cs->aA V W r k m cs
 | [],[],_,_,_,_,hr=>hr|u::l,v::m,ps,_,h,hp,⟨c,d,e,h1,h2⟩=>by
  unfold qC at h;split at h<;>cases h;rename_i q1 q2;obtain⟨p1,p2⟩:=aw.app hp;exact⟨c,d,e,a0M q1 p1 h1,Ik q2 p2 h2⟩|[],_::_,_,_,h,_,_=>by unfold qC at h;cases h|_::_,[],_,_,h,_,_=>by unfold qC at h;cases h
theorem a0N{u:V1}{x:Rq}{ps:List Prop}{y:Value}(h:Cb u x=some ps)(hp:aw ps)(hr:au V W r k u y):au V W r k x.v y:=by
 unfold Cb at h;split at h
 ·cases h;obtain rfl:=hp.1;exact hr
 ·split at h
  ·rename_i e;obtain⟨cs,h1,h2,h3⟩:=hr;exact⟨cs,Ik h hp h1,by rw[h2,e];rfl,λg=>h3 (by rw[e];exact g)⟩
  ·cases h
theorem VW{i:It}{cs:List Value}(hk:k'<=k)(h:It.bk k' i=true)(hr:af V W r k i cs):af V W r k' i cs:=by
 cases i with|p b o=>exact⟨by simpa[It.bk,Nat.blt_eq] using h,hr.2⟩|sl b n z=>exact⟨by simpa[It.bk,Nat.blt_eq] using h,hr.2⟩|px b z n len=>exact⟨⟨by simpa[It.bk,Nat.blt_eq] using h,hr.1.2⟩,hr.2⟩|fn f c=>exact⟨λp hp=>by simpa[Nat.blt_eq] using List.all_eq_true.1 (show (c.all λp=>Nat.blt p.1 k')=true from h) p hp,hr.2⟩|ol T z n f =>
  obtain⟨v,e,hr⟩:=hr;refine⟨v,e,?_⟩;rcases hr with hr|⟨g,c,xs,e2,⟨h1,h2⟩,h3⟩
  ·exact .inl hr
  ·exact .inr ⟨g,c,xs,e2,⟨h1,λb hb=>h2 b (Nat.lt_of_lt_of_le hb hk)⟩,h3⟩|gp T l =>
  obtain⟨v,e,g,o,xs,fr,e2,h1,h3⟩:=hr;exact⟨v,e,g,o,xs,fr,e2,h1.imp id λh=>⟨h.1,λb hb=>h.2 b (Nat.lt_of_lt_of_le hb hk)⟩,h3⟩|_=>exact hr
theorem FD(hk:k'<=k):∀ {l:List It} {cs:List Value},l.all (It.bk k')=true->aA V W r k l cs->aA V W r k' l cs
 | [],_,_,e=>e|i::l,_,hl,⟨c,d,e,h1,h2⟩=>by
  simp only[List.all_cons,Bool.and_eq_true] at hl;exact⟨c,d,e,VW hk hl.1 h1,FD hk hl.2 h2⟩
theorem Tr.anyT_get{v:AV}:∀ {k i:Nat},(Tr.anyT k).get i=some v->v=.any
 | 0,_,h=>by cases h|k+1,i,h=>by
  unfold Tr.anyT Tr.get at h;split at h
  ·cases h;rfl
  ·split at h
   ·exact Tr.anyT_get h
   ·exact Tr.anyT_get h
theorem Tr.sets_get{v:AV}:∀ {l:List (Nat×Rq)} {i:Nat},(Tr.sets l).get i=some v->v=.any\/∃x,(i,x)∈l/\v=.one x.v
 | [],i,h=>.inl (Tr.anyT_get h)|(j,x)::l,i,h=>by
  unfold Tr.sets at h;rw[Tr.get_set] at h;split at h
  ·rename_i e;subst e;cases hq:(Tr.sets l).get j with|none=>simp[hq] at h|some w=>simp only[hq,Option.map_some,Option.some.injEq] at h;exact .inr ⟨x,List.mem_cons_self ..,h.symm⟩
  ·rcases Tr.sets_get h with h | ⟨y, h1, h2⟩
   ·exact .inl h
   ·exact .inr ⟨y,List.mem_cons_of_mem _ h1,h2⟩
theorem PE{t:Tm}:∀ {l:List (Nat×Rq)} {ps:List Prop},Cc t l=some ps->aw ps->∀(i:Nat) (x:Rq),(i,x)∈l->∃(u:V1) (ps':List Prop),t.get i=some (.one u)/\Cb u x=some ps'/\aw ps'
 | [],_,_,_,_,_,h=>by cases h|(j,y)::l,ps,h,hp,i,x,hm=>by
  unfold Cc at h;split at h
  ·rename_i u hu;split at h<;>cases h;rename_i q1 q2;obtain⟨p1,p2⟩:=aw.app hp;rcases List.mem_cons.1 hm with e|hm
   ·cases e;exact⟨u,_,hu,q1,p1⟩
   ·exact PE q2 p2 i x hm
  ·cases h
theorem Il:∀ {m d:List (Option Mb)} {ps:List Prop},qD m d=some ps->aw ps->∀(b:Nat) (y:Mb),d[b]? = some (some y)->∃(x:Mb) (ps':List Prop),m[b]? = some (some x)/\x.T=y.T/\qC x.l y.l=some ps'/\aw ps'
 | _,[],_,_,_,_,_,h=>by simp at h
 | [],some _::_,_,h,_,_,_,_=>by unfold qD at h;cases h
 | [],none::_,_,h,_,_,_,_=>by unfold qD at h;cases h
 | none::_,some _::_,_,h,_,_,_,_=>by unfold qD at h;cases h
 | x::l,none::d,ps,h,hp,b,y,hb=>by
  have h:qD l d=some ps:=by cases x<;>exact h
  cases b with
  | zero=>simp at hb
  | succ b=>simpa using Il h hp b y (by simpa using hb)
 | some x::l,some z::d,ps,h,hp,b,y,hb=>by
  unfold qD at h;split at h
  ·rename_i e;split at h<;>cases h;rename_i q1 q2;obtain⟨p1,p2⟩:=aw.app hp;cases b with
   | zero =>
    simp only[List.getElem?_cons_zero,Option.some.injEq] at hb;subst hb;exact⟨x,_,rfl,e,q1,p1⟩
   | succ b=>simpa using Il q2 p2 b y (by simpa using hb)
  ·cases h
theorem vR{n:Nat}{d:Ds}{ps:List Prop}(h:kU s d=some ps)(hp:aw ps)(hn:s.t.n=n)(hJ:JJ V s a W):JJ V (bI n d) a W:=by
 obtain⟨r,cm,⟨hM,hd⟩,hT⟩:=hJ;unfold kU at h;split at h
 ·rename_i hb;simp only[Bool.and_eq_true,Ds.bk] at hb;obtain⟨⟨b1,b2⟩,b3⟩:=hb;split at h<;>cases h;rename_i q1 q2;obtain⟨p1,p2⟩:=aw.app hp;have mbs:∀(b:Nat) (y:Mb),mb d.m b=some y->∃(x:Mb) (ps':List Prop),mb s.m b=some x/\x.T=y.T/\qC x.l y.l=some ps'/\aw ps':=λb y hy=>by
   obtain⟨x,ps',k1,k2⟩:=Il q2 p2 b y (cf.1 hy);exact⟨x,ps',cf.2 k1,k2⟩
  refine⟨r,cm,⟨⟨hM.ext,λb y hy=>?_,λb y hy=>?_,λb c y z hy hz=>?_,λb hb=>hM.bd b (Nat.lt_of_lt_of_le hb (Nat.le_of_ble_eq_true b3))⟩,hd⟩,by rw[hT.1,hn];rfl,λi v hv=>?_⟩
  ·obtain ⟨x, ps', k1, k2, k3, k4⟩ := mbs b y hy;obtain⟨h1,c,e,h2,h3,h4⟩:=hM.blk b x k1;refine⟨by rw[h1,k2],c,e,h2,FD (Nat.le_of_ble_eq_true b3) ?_ (Ik k3 k4 h3),h4⟩;have:=List.all_eq_true.1 b2 _ (List.mem_of_getElem? (cf.1 hy));exact this
  ·obtain⟨x,_,k1,_⟩:=mbs b y hy;exact hM.lo b x k1
  ·obtain ⟨x, _, k1, _⟩ := mbs b y hy;obtain⟨x',_,k2,_⟩:=mbs c z hz;exact hM.inj b c x x' k1 k2
  ·rcases Tr.sets_get (Tm.get_lt hv).2 with rfl | ⟨x, hx, rfl⟩
   ·trivial
   ·obtain ⟨u, ps', k1, k2, k3⟩ := PE q1 p1 i x hx;obtain⟨cs,g1,g2⟩:=a0N k2 k3 (show au V W r s.m.length u _ from hT.2 i _ k1);exact⟨cs,FD (Nat.le_of_ble_eq_true b3) (List.all_eq_true.1 b1 _ hx) g1,g2⟩
 ·cases h
end
structure bO where
 n:Nat
 d0:Ds
 e:Ex
 d1:Ds
def bJ(P:Program)(c:Code)(o:bO):Prop:=∀V a w Q,JJ V (bI o.n o.d0) a w->(∀a' W,JJ V (bI o.n o.d1) a' W->Q o.e.go a' W)->c.wp P Q a w
def rV:Code->Option Nat
 | .region id _ _=>some id
 | .seq a b=>match rV a with|some k=>some k|none=>rV b
 | .cond _ a b=>match rV a with|some k=>some k|none=>rV b
 | .block _ c=>rV c
 | .loop c=>rV c
 | .rangeFunc _ _ _ c=>rV c
 | _=>none
def mJ:Code->Option Nat
 | .region id _ _=>some (2*id+1)|c=>(rV c).map (2*·)
def eB:Code->List Code
 | .seq a b=>eB a++eB b|.cond _ a b=>eB a++eB b|.block _ c=>eB c|.loop c=>.loop c::eB c|.rangeFunc f p x c=>[.rangeFunc f p x c]|.region id ops d=>[.region id ops d]|_=>[]
def yU:List (Nat×bO)->Nat->Option bO
 | [],_=>none|x::l,k=>if x.1=k then some x.2 else yU l k
def ug(L:List (Nat×bO))(c:Code):Option bO:=(mJ c).bind (yU L)
theorem a01(c:Code):ug [] c=none:=by unfold ug;cases mJ c<;>rfl
def Af(o:bO)(s:St)(q:List Bool):Option (Ex×St×List Prop×List Bool):=if s.t.n=o.n then (kU s o.d0).map λps=>(o.e,bI o.n o.d1,ps,q) else none
def fq(P:Program)(E:Env)(call:gw)(L:List (Nat×bO)):Code->St->List Bool->Option (Ex×St×List Prop×List Bool)
 | .seq a b,s,q=>match fq P E call L a s q with
  | none=>none
  | some (.nm,s,ps,q)=>(fq P E call L b s q).map λr=>(r.1,r.2.1,ps++r.2.2.1,r.2.2.2)
  | r=>r
 | .cond c x y,s,q=>match evI s c,q with
  | some (.b true),q=>fq P E call L x s q
  | some (.b false),q=>fq P E call L y s q
  | some (.v (.bool b)),true::q=>(fq P E call L x s q).map λr=>(r.1,r.2.1,(b=true)::r.2.2.1,r.2.2.2)
  | some (.v (.bool b)),false::q=>(fq P E call L y s q).map λr=>(r.1,r.2.1,(b=false)::r.2.2.1,r.2.2.2)
  | _,_=>none
 | .block id c,s,q=>(fq P E call L c s q).map λr=>((match r.1 with | .ex k=>if k=id then .nm else .ex k|e=>e),r.2)
 | .loop c,s,q=>match ug L (.loop c) with
  | some o=>Af o s q
  | none=>jT (λs q=>fq P E call L c s q) 100 s q
 | .rangeFunc f p x c,s,q=>match ug L (.rangeFunc f p x c) with
  | some o=>Af o s q
  | none=>none
 | .region id ops d,s,q=>match ug L (.region id ops d) with
  | some o=>Af o s q
  | none=>dM P E call (.region id ops d) s q
 | c,s,q=>dM P E call c s q
def eO(P:Program)(l:List Code)(L:List (Nat×bO)):Prop:=∀c∈l,∀o,ug L c=some o->bJ P c o
theorem eO.nil{P:Program}{l:List Code}:eO P l []:=λc _ o ho=>by rw[a01] at ho;cases ho
section
variable {P:Program} {E:Env} {call:gw} {L:List (Nat×bO)}
theorem K3{c:Code}{o:bO}{V:World}{s s':St}{q q':List Bool}{e:Ex}{ps:List Prop}{a:Act}{w:World}{Q:Exit->Act->World->Prop}(ho:bJ P c o)(h:Af o s q=some (e,s',ps,q'))(hp:aw ps)(hJ:JJ V s a w)(hQ:∀a' W,JJ V s' a' W->Q e.go a' W):c.wp P Q a w:=by
 unfold Af at h;split at h
 ·rename_i hn;cases h2:kU s o.d0 with|none=>simp[h2] at h|some ps' =>
   simp only[h2,Option.map_some,Option.some.injEq,Prod.mk.injEq] at h;obtain⟨rfl,rfl,rfl,rfl⟩:=h;exact ho V a w Q (vR h2 hp hn hJ) hQ
 ·cases h
theorem kt(hs:iP P E call):∀ {c:Code} {V:World} {s s':St} {q q':List Bool} {e:Ex} {ps:List Prop} {a:Act} {w:World} {Q:Exit->Act->World->Prop},eO P (eB c) L->fq P E call L c s q=some (e,s',ps,q')->aw ps->JJ V s a w ->
  (∀a' W,JJ V s' a' W->Q e.go a' W)->c.wp P Q a w
 | .seq x y,V,s,s',q,q',e,ps,a,w,Q,hL,h,hp,hJ,hQ=>by
  have hL1:eO P (eB x) L:=λc hc=>hL c (List.mem_append_left _ hc)
  have hL2:eO P (eB y) L:=λc hc=>hL c (List.mem_append_right _ hc)
  unfold fq at h;refine wp_seq ?_;split at h
  ·cases h
  ·rename_i s1 ps1 q1 h1;cases h2:fq P E call L y s1 q1 with
   | none=>simp[h2] at h
   | some z =>
    obtain⟨e2,s2,ps2,q2⟩:=z;simp only[h2,Option.map_some,Option.some.injEq,Prod.mk.injEq] at h;obtain⟨rfl,rfl,rfl,rfl⟩:=h;obtain⟨p1,p2⟩:=aw.app hp;exact kt hs hL1 h1 p1 hJ λa' W hW=>kt hs hL2 h2 p2 hW hQ
  ·rename_i hne;refine kt hs hL1 h hp hJ λa' W hW=>?_
   cases e with
   | nm=>exact absurd h (hne _ _ _)
   | rt=>exact hQ _ _ hW
   | ex k=>exact hQ _ _ hW
 | .cond c x y,V,s,s',q,q',e,ps,a,w,Q,hL,h,hp,hJ,hQ=>by
  have hL1:eO P (eB x) L:=λc hc=>hL c (List.mem_append_left _ hc)
  have hL2:eO P (eB y) L:=λc hc=>hL c (List.mem_append_right _ hc)
  unfold fq at h;obtain⟨r,cm,hj⟩:=hJ;split at h
  ·rename_i q1 hb;have hv:a.eval c=.bool true:=by simpa using (show [a.eval c]=[Value.bool true] from gU hj.2 hb)
   exact wp_cond_true hv (kt hs hL1 h hp ⟨r,cm,hj⟩ hQ)
  ·rename_i q1 hb;have hv:a.eval c=.bool false:=by simpa using (show [a.eval c]=[Value.bool false] from gU hj.2 hb)
   exact wp_cond_false hv (kt hs hL2 h hp ⟨r,cm,hj⟩ hQ)
  ·rename_i b q1 hb;have hv:a.eval c=.bool b:=by have:=(gU hj.2 hb).1;simpa using this
   cases h2:fq P E call L x s q1 with
   | none=>simp[h2] at h
   | some z =>
    obtain⟨e2,s2,ps2,q2⟩:=z;simp only[h2,Option.map_some,Option.some.injEq,Prod.mk.injEq] at h;obtain⟨rfl,rfl,rfl,rfl⟩:=h;exact wp_cond_true (by rw[hv,hp.1]) (kt hs hL1 h2 hp.2 ⟨r,cm,hj⟩ hQ)
  ·rename_i b q1 hb;have hv:a.eval c=.bool b:=by have:=(gU hj.2 hb).1;simpa using this
   cases h2:fq P E call L y s q1 with
   | none=>simp[h2] at h
   | some z =>
    obtain⟨e2,s2,ps2,q2⟩:=z;simp only[h2,Option.map_some,Option.some.injEq,Prod.mk.injEq] at h;obtain⟨rfl,rfl,rfl,rfl⟩:=h;exact wp_cond_false (by rw[hv,hp.1]) (kt hs hL2 h2 hp.2 ⟨r,cm,hj⟩ hQ)
  ·cases h
 | .block id c,V,s,s',q,q',e,ps,a,w,Q,hL,h,hp,hJ,hQ=>by
  unfold fq at h;cases h2:fq P E call L c s q with
  | none=>simp[h2] at h
  | some z =>
   obtain⟨e2,s2,ps2,q2⟩:=z;simp only[h2,Option.map_some,Option.some.injEq,Prod.mk.injEq] at h;obtain⟨rfl,rfl,rfl,rfl⟩:=h;refine wp_block (kt hs hL h2 hp hJ λa' W hW=>?_);have:=hQ a' W hW;cases e2 with
   | nm=>exact this
   | rt=>exact this
   | ex k =>
    simp only at this;show if k=id then Q .normal a' W else Q (.exit k) a' W
    split at this
    ·rw[if_pos (by assumption)];exact this
    ·rw[if_neg (by assumption)];exact this
 | .loop c,V,s,s',q,q',e,ps,a,w,Q,hL,h,hp,hJ,hQ=>by
  have hL1:eO P (eB c) L:=λd hd=>hL d (List.mem_cons_of_mem _ hd)
  unfold fq at h;split at h
  ·rename_i o ho;exact K3 (hL _ (List.mem_cons_self ..) o ho) h hp hJ hQ
  ·have key:∀(n:Nat) (s:St) (q:List Bool) (ps:List Prop) (a:Act) (w:World),jT (λs q=>fq P E call L c s q) n s q=some (e,s',ps,q')->aw ps->JJ V s a w->Code.rounds P c Q n a w:=by
    intro n;induction n with
    | zero=>intro s q ps a w h;unfold jT at h;cases h
    | succ n ih =>
     intro s q ps a w h hp hJ;unfold jT at h;rw[rounds_succ];split at h
     ·cases h
     ·rename_i s1 ps1 q1 h1;cases h2:jT (λs q=>fq P E call L c s q) n s1 q1 with
      | none=>simp[h2] at h
      | some z =>
       obtain⟨e2,s2,ps2,q2⟩:=z;simp only[h2,Option.map_some,Option.some.injEq,Prod.mk.injEq] at h;obtain⟨rfl,rfl,rfl,rfl⟩:=h;obtain⟨p1,p2⟩:=aw.app hp;exact kt hs hL1 h1 p1 hJ λa' W hW=>ih _ _ _ _ _ h2 p2 hW
     ·rename_i hne;refine kt hs hL1 h hp hJ λa' W hW=>?_
      cases e with
      | nm=>exact absurd h (hne _ _ _)
      | rt=>exact hQ _ _ hW
      | ex k=>exact hQ _ _ hW
   exact wp_loop_rounds _ (key _ _ _ _ _ _ h hp hJ)
 | .rangeFunc f p x c,V,s,s',q,q',e,ps,a,w,Q,hL,h,hp,hJ,hQ=>by
  unfold fq at h;split at h
  ·rename_i o ho;exact K3 (hL _ (List.mem_cons_self ..) o ho) h hp hJ hQ
  ·cases h
 | .skip,V,s,s',q,q',e,ps,a,w,Q,hL,h,hp,hJ,hQ=>pZ hs h hp hJ hQ
 | .label _,V,s,s',q,q',e,ps,a,w,Q,hL,h,hp,hJ,hQ=>pZ hs h hp hJ hQ
 | .ret,V,s,s',q,q',e,ps,a,w,Q,hL,h,hp,hJ,hQ=>pZ hs h hp hJ hQ
 | .exit k,V,s,s',q,q',e,ps,a,w,Q,hL,h,hp,hJ,hQ=>pZ hs h hp hJ hQ
 | .region id ops d,V,s,s',q,q',e,ps,a,w,Q,hL,h,hp,hJ,hQ=>by
  unfold fq at h;split at h
  ·rename_i o ho;exact K3 (hL _ (List.mem_cons_self ..) o ho) h hp hJ hQ
  ·exact pZ hs h hp hJ hQ
 | .scope _,V,s,s',q,q',e,ps,a,w,Q,hL,h,hp,hJ,hQ=>pZ hs h hp hJ hQ
 | .goto _,V,s,s',q,q',e,ps,a,w,Q,hL,h,hp,hJ,hQ=>pZ hs h hp hJ hQ
 | .refuse _,V,s,s',q,q',e,ps,a,w,Q,hL,h,hp,hJ,hQ=>pZ hs h hp hJ hQ
def wO(P:Program)(E:Env)(call:gw)(L:List (Nat×bO))(c:Code)(n:Nat)(d d':Ds)(q:List Bool):Option (Ex×List Prop) :=
 match fq P E call L c (bI n d) q with
 | some (e,s,ps,[])=>if s.t.n=n then (kU s d').map λps'=>(e,ps++ps') else none
 | _=>none
theorem Kp(hs:iP P E call){c:Code}{n:Nat}{d d':Ds}{q:List Bool}{e:Ex}{ps:List Prop}{V:World}{a:Act}{w:World}{Q:Exit->Act->World->Prop}(hL:eO P (eB c) L)(h:wO P E call L c n d d' q=some (e,ps))(hp:aw ps)(hJ:JJ V (bI n d) a w)(hQ:∀a' W,JJ V (bI n d') a' W->Q e.go a' W):c.wp P Q a w:=by
 unfold wO at h;split at h
 ·rename_i e1 s ps1 h1;split at h
  ·rename_i hn;cases h2:kU s d' with|none=>simp[h2] at h|some ps2 =>
    simp only[h2,Option.map_some,Option.some.injEq,Prod.mk.injEq] at h;obtain⟨rfl,rfl⟩:=h;obtain⟨p1,p2⟩:=aw.app hp;exact kt hs hL h1 p1 hJ λa' W hW=>hQ a' W (vR h2 p2 hn hW)
  ·cases h
 ·cases h
theorem a2R(hs:iP P E call){c:Code}{n N:Nat}(D:Nat->Ds)(T:Nat->List (Nat×bO)){e:Ex}{d1:Ds}(hL:∀k,k<=N->eO P (eB c) (T k))
  (hr:∀k,k<N->∃q ps,wO P E call (T k) c n (D k) (D (k+1)) q=some (.nm,ps)/\aw ps)
  (he:∃q ps,wO P E call (T N) c n (D N) d1 q=some (e,ps)/\aw ps) (hne:e ≠ .nm):bJ P (.loop c) ⟨n,D 0,e,d1⟩:=by
 intro V a w Q hJ hQ;have key:∀(j k:Nat) (a:Act) (w:World),k+j=N->JJ V (bI n (D k)) a w->Code.rounds P c Q (j+1) a w:=by
  intro j;induction j with
  | zero =>
   intro k a w hk hJ;obtain rfl:k=N:=by omega
   obtain⟨q,ps,h,hp⟩:=he;rw[rounds_succ];refine Kp hs (hL k (Nat.le_refl _)) h hp hJ λa' W hW=>?_
   cases e with
   | nm=>exact absurd rfl hne
   | rt=>exact hQ _ _ hW
   | ex k=>exact hQ _ _ hW
  | succ j ih =>
   intro k a w hk hJ;obtain⟨q,ps,h,hp⟩:=hr k (by omega);rw[rounds_succ];exact Kp hs (hL k (by omega)) h hp hJ λa' W hW=>ih (k+1) a' W (by omega) hW
 exact wp_loop_rounds _ (key N 0 a w (by omega) hJ)
end
theorem uf:∀ {b c d:Code},c∈eB b->d∈eB c->d∈eB b
 | .seq x y,c,d,h,hd=>by
  rcases List.mem_append.1 h with h|h
  ·exact List.mem_append_left _ (uf h hd)
  ·exact List.mem_append_right _ (uf h hd)|.cond _ x y,c,d,h,hd=>by
  rcases List.mem_append.1 h with h|h
  ·exact List.mem_append_left _ (uf h hd)
  ·exact List.mem_append_right _ (uf h hd)|.block _ x,c,d,h,hd=>uf (b:=x) h hd|.loop x,c,d,h,hd=>by
  rcases List.mem_cons.1 h with rfl|h
  ·exact hd
  ·exact List.mem_cons_of_mem _ (uf h hd)|.rangeFunc f p x y,c,d,h,hd=>by
  obtain rfl:c=_:=List.mem_singleton.1 h;exact hd|.skip,_,_,h,_=>by cases h|.label _,_,_,h,_=>by cases h|.ret,_,_,h,_=>by cases h|.exit k,_,_,h,_=>by cases h|.region id ops x,c,d,h,hd=>by
  obtain rfl:c=_:=List.mem_singleton.1 h;exact hd|.scope _,_,_,h,_=>by cases h|.goto _,_,_,h,_=>by cases h|.refuse _,_,_,h,_=>by cases h
section
variable {P:Program} {E:Env}
def xN(P:Program)(E:Env)(K:FuncId->Option (List V1->Option (AV×List Prop)))(L:List (Nat×bO))(n:Nat)(f:FuncId)(args:List V1)(q:List Bool):Option ((AV×List Mb)×List Prop×List Bool) :=
 match P.funcs[f]? with|none=>none|some fn=>match fn.body with|none=>none|some c=>match fq P E (kK P E K n) L c ⟨⟨args.length+(fn.ntmps-args.length),(Tr.full 12).fill 0 (args.map λv=>.one (pL v))⟩,[],0⟩ q with|none=>none|some (e,s,ps,q)=>match e with|.ex _=>none|_=>match qa P s fn.results.toList with|some l=>(match uw (gh (l.map V1.l).flatten) l,sL s.m (gh (l.map V1.l).flatten) with|some l,some ms=>some ((CW l,ms),ps,q)|_,_=>none)|none=>none
def dC(P:Program)(f:FuncId):Code:=((P.funcs[f]?).bind (·.body)).getD .skip
theorem LR{K:FuncId->Option (List V1->Option (AV×List Prop))}{n:Nat}(hs:iP P E (kK P E K n)){L:List (Nat×bO)}{f:FuncId}(hL:eO P (eB (dC P f)) L){args:List V1}{q q':List Bool}{res:AV×List Mb}{ps:List Prop}(h:xN P E K L n f args q=some (res,ps,q'))(hp:aw ps):pU P f args res.1 res.2:=by
 unfold xN at h;split at h
 ·cases h
 ·rename_i fn hf;split at h
  ·cases h
  ·rename_i c hc;have hb:dC P f=c:=by unfold dC;rw[hf];simp[hc]
   rw[hb] at hL;split at h
   ·cases h
   ·rename_i e s ps1 q1 hcode;intro W vals hv;refine calls_of_wp hf hc ?_;split at h
    ·cases h
    ·rename_i hex;split at h
     ·rename_i l hl;split at h
      ·rename_i l' ms hl' hms;simp only[Option.some.injEq,Prod.mk.injEq] at h;obtain⟨h1,rfl,rfl⟩:=h;refine kt hs hL hcode hp ⟨_,_,Ej hv⟩ λa' W' hJ=>?_
       have:=G9 hl hl' hms (res:=res) h1.symm hJ;cases e with|nm=>exact this|rt=>exact this|ex k=>exact absurd rfl (hex k)
      ·cases h
     ·cases h
end
end
def yN:List (Option Nat)->Bool
 | []=>true|none::_=>false|some k::l=>!l.contains (some k)&&yN l
noncomputable def oY(f:FuncId):List Code:=eB (dC Tryz.prog f)
theorem Iq(f:FuncId):oY f=eB (dC Tryz.prog f):=rfl
noncomputable def bm(f:FuncId)(id:Nat):Code:=((oY f).find? λc=>mJ c==some id).getD .skip
noncomputable def uh(f:FuncId)(id:Nat):Bool:=yN ((oY f).map mJ)&&((oY f).find? λc=>mJ c==some id).isSome
def PP(c:Code):Code:=match c with | .loop c=>c|c=>c
def a0C(c:Code):Bool:=match c with | .loop _=>true|_=>false
theorem Pm:∀ {l:List Code},yN (l.map mJ)=true->∀ {c d:Code} {k:Nat},c∈l->d∈l->mJ c=some k->mJ d=some k->c=d
 | [],_,_,_,_,h,_,_,_=>by cases h|x::l,hn,c,d,k,hc,hd,kc,kd=>by
  rw[List.map_cons] at hn;cases hx:mJ x with|none=>rw[hx] at hn;cases hn|some j =>
   rw[hx] at hn;unfold yN at hn;simp only[Bool.and_eq_true,Bool.not_eq_true',List.contains_eq_mem,decide_eq_false_iff_not] at hn;rcases List.mem_cons.1 hc with e1|hc'<;>rcases List.mem_cons.1 hd with e2|hd'
   ·rw[e1,e2]
   ·rw [e1, hx] at kc;exact absurd (List.mem_map.2 ⟨d,hd',by rw[kd,<- kc]⟩) hn.1
   ·rw [e2, hx] at kd;exact absurd (List.mem_map.2 ⟨c,hc',by rw[kc,<- kd]⟩) hn.1
   ·exact Pm hn.2 hc' hd' kc kd
theorem PQ{f:FuncId}{id:Nat}(h:uh f id=true):yN ((oY f).map mJ)=true/\bm f id∈oY f/\mJ (bm f id)=some id:=by
 unfold uh at h;simp only[Bool.and_eq_true] at h;obtain⟨h1,h2⟩:=h;obtain⟨c,hc⟩:=Option.isSome_iff_exists.1 h2;have e:bm f id=c:=by unfold bm;rw[hc];rfl
 rw[e];exact⟨h1,List.mem_of_find?_eq_some hc,by simpa using List.find?_some hc⟩
def LT(f:FuncId)(L:List (Nat×bO)):Prop:=∀x∈L,bJ Tryz.prog (bm f x.1) x.2
theorem LT.nil{f:FuncId}:LT f []:=λ_ h=>nomatch h
theorem LT.cons{f:FuncId}{id:Nat}{o:bO}{L:List (Nat×bO)}(h:bJ Tryz.prog (bm f id) o)(g:LT f L):LT f ((id,o)::L):=λx hx=>by
 rcases List.mem_cons.1 hx with rfl|hx
 ·exact h
 ·exact g x hx
theorem PT:∀ {L:List (Nat×bO)} {k:Nat} {o:bO},yU L k=some o->(k,o)∈L
 | [],_,_,h=>by cases h|x::l,k,o,h=>by
  unfold yU at h;split at h
  ·rename_i e;cases h;subst e;exact List.mem_cons_self ..
  ·exact List.mem_cons_of_mem _ (PT h)
theorem LT.ok{f:FuncId}{id:Nat}{L:List (Nat×bO)}(hid:uh f id=true)(h:LT f L)(hk:∀x∈L,uh f x.1=true):eO Tryz.prog (oY f) L:=λc hc o ho=>by
 unfold ug at ho;cases hq:mJ c with|none=>rw[hq] at ho;cases ho|some k =>
  rw[hq] at ho;have hm:=PT (show yU L k=some o from ho);obtain⟨n1,n2,n3⟩:=PQ (hk _ hm);rw[Pm n1 hc n2 hq n3];exact h _ hm
noncomputable def qG(f:FuncId)(L:List (Nat×bO)):Bool:=L.all λx=>uh f x.1
theorem ui{f:FuncId}{L:List (Nat×bO)}(h:qG f L=true):∀x∈L,uh f x.1=true:=by
 unfold qG at h;exact List.all_eq_true.1 h
noncomputable abbrev m9 (X:List Eff) (K:List ah):gw:=kK Tryz.prog (env X) (tab K) 39
theorem od(X:List Eff)(K:List ah):iP Tryz.prog (env X) (m9 X K):=xO qU EK (G0 X) EW E9 (Ek K) 39
def Rnd(X:List Eff)(K:List ah)(f:FuncId)(id:Nat)(L:List (Nat×bO))(n:Nat)(d d':Ds)(e:Ex):Prop:=∃(q:List Bool) (pf:List Pf),wO Tryz.prog (env X) (m9 X K) L (PP (bm f id)) n d d' q=some (e,pf.map Pf.p)
theorem bW{X:List Eff}{K:List ah}{f:FuncId}{id n:Nat}(N:Nat)(D:Nat->Ds)(T:Nat->List (Nat×bO)){e:Ex}{d1:Ds}(hid:(uh f id&&a0C (bm f id))=true)(hk:∀k,qG f (T k)=true)(hT:∀k,k<=N->LT f (T k))
  (hr:∀k,k<N->Rnd X K f id (T k) n (D k) (D (k+1)) .nm) (he:Rnd X K f id (T N) n (D N) d1 e) (hne:e ≠ .nm):bJ Tryz.prog (bm f id) ⟨n,D 0,e,d1⟩:=by
 simp only[Bool.and_eq_true] at hid;obtain⟨h1,h2⟩:=hid;obtain⟨m1,m2,m3⟩:=PQ h1;cases hc:bm f id with
 | loop c =>
  rw[hc] at m2;have hb:PP (bm f id)=c:=by rw[hc];rfl
  have sub:∀k,k<=N->eO Tryz.prog (eB c) (T k):=λk hk' d hd=>(LT.ok h1 (hT k hk') (ui (hk k))) d (uf m2 (List.mem_cons_of_mem _ hd))
  refine a2R (od X K) D T sub (λk hk'=>?_) ?_ hne
  ·obtain ⟨q, pf, h⟩ := hr k hk';rw[hb] at h;exact⟨q,_,h,ku pf⟩
  ·obtain ⟨q, pf, h⟩ := he;rw[hb] at h;exact⟨q,_,h,ku pf⟩
 | _=>rw[hc] at h2;cases h2
theorem ZR{f:FuncId}{args:List V1}{res:AV×List Mb}(X:List Eff)(K:List ah)(L:List (Nat×bO))(hL:LT f L)(q:List Bool)(pf:List Pf)(h:(if qG f L then xN Tryz.prog (env X) (tab K) L 39 f args q else none)=some (res,pf.map Pf.p,[])):pU Tryz.prog f args res.1 res.2:=by
 split at h
 ·rename_i hk;cases L with
  | nil=>exact LR (od X K) eO.nil h (ku pf)
  | cons x L =>
   have g:eO Tryz.prog (oY f) (x::L):=LT.ok (ui hk x (List.mem_cons_self ..)) hL (ui hk);rw[Iq] at g;exact LR (od X K) g h (ku pf)
 ·cases h
theorem cD{f:FuncId}{args:List V1}{res:AV}(X:List Eff)(K:List ah)(L:List (Nat×bO))(hL:LT f L)(q:List Bool)(pf:List Pf)(h:(if qG f L then xN Tryz.prog (env X) (tab K) L 39 f args q else none).map (λz=>((B8 z.1.1,z.1.2),z.2))=some ((res,[]),pf.map Pf.p,[])):ae Tryz.prog f args res:=by
 cases hz:(if qG f L then xN Tryz.prog (env X) (tab K) L 39 f args q else none) with|none=>rw[hz] at h;cases h|some z =>
  obtain⟨⟨z0,z1⟩,z2,z3⟩:=z;rw[hz] at h;simp only[Option.map_some,Option.some.injEq,Prod.mk.injEq] at h;obtain⟨⟨rfl,rfl⟩,rfl,rfl⟩:=h;exact (pU.toO (ZR X K L hL q pf hz)).mono λ_ _ _ h=>Pv h
structure Sh where
 k:Int
 n:Nat
 e:Nat->Ed
 r:Int
def cV(e:Ed):List It:=[.i e.k lim,.i e.ax lim,.i e.ay lim,.i e.bx lim,.i e.by' lim,.i e.cx lim,.i e.cy lim]
def pE(n:Nat)(e:Nat->Ed):It:=.ro 7 n λi=>cV (e i)
def bh(s:Sh):V1:=⟨true,[.i s.k lim,pE s.n s.e,.i s.r lim]⟩
def BH(l:List It):Option Ed :=
 match jV l with|some [k,ax,ay,bx,by',cx,cy]=>some ⟨k.1,ax.1,ay.1,bx.1,by'.1,cx.1,cy.1⟩|_=>none
def qj(l:List It):Ed:=(BH l).getD ⟨0,0,0,0,0,0,0⟩
def qz(l:List It):Bool:=(BH l).isSome
def td:It->Option (Nat×(Nat->List It))
 | .ro z n f=>if z=7 then some (n,f) else none|.fs _ l n z=>if z=7/\(l.all λi=>i.n==1)=true then some (n,λi=>(l.drop (i*7)).take 7) else none|.v (.slice none 0 0)=>some (0,λ_=>[])|_=>none
def oe:List It->Option (Sh×List Prop)
 | [i,j,k]=>match asI i,td j,asI k with
  | some x,some (n,f),some y=>some (⟨x.1,n,λi=>qj (f i),y.1⟩,[∀i,i<n->qz (f i)=true])
  | _,_,_=>none
 | _=>none
theorem aQ{z:Int}(h:I64 z):z.natAbs<=lim:=by unfold I64 at h;unfold lim;omega
theorem Oe{V:World}{l:List It}{cs:List Value}(h:qz l=true)(hr:aE V l cs):aE V (cV (qj l)) cs:=by
 unfold qz qj at *;cases he:BH l with|none=>rw[he] at h;cases h|some e =>
  unfold BH at he;split at he
  ·rename_i k ax ay bx by' cx cy hx
   cases he;have hup:∀ {l:List It} {xs:List (Int×Nat)} {cs:List Value},jV l=some xs->aE V l cs->aA V V (λ_=>0) 0 l cs:=by
    intro l;induction l with|nil=>intro xs cs _ e;exact e|cons i l ih =>
     intro xs cs h ⟨c,d,e,h1,h2⟩;unfold jV at h;split at h
     ·rename_i y z hy hz;refine⟨c,d,e,?_,ih hz h2⟩;cases i<;>first|exact h1|cases hy
     ·cases h
   obtain⟨e1,e2⟩:=xW hx (hup hx hr);rw[e1];have b:∀x ∈ [k,ax,ay,bx,by',cx,cy],I64 x.1:=λx hx=>(e2 x hx).2
   simp only[List.mem_cons,List.not_mem_nil,or_false,forall_eq_or_imp,forall_eq] at b;obtain⟨b0,b1,b2,b3,b4,b5,b6⟩:=b;exact⟨[_],_,rfl,⟨rfl,aQ b0,b0⟩,[_],_,rfl,⟨rfl,aQ b1,b1⟩,[_],_,rfl,⟨rfl,aQ b2,b2⟩,[_],_,rfl,⟨rfl,aQ b3,b3⟩,[_],_,rfl,⟨rfl,aQ b4,b4⟩,[_],_,rfl,⟨rfl,aQ b5,b5⟩,[_],_,rfl,⟨rfl,aQ b6,b6⟩,rfl⟩
  ·cases he
theorem RO{V:World}:∀ {l:List It} {m:Nat} {cs:List Value},(l.all λi=>i.n==1)=true->aE V l cs->aE V (l.drop m) (cs.drop m)
 | l,0,cs,_,h=>by simpa using h|[],m+1,cs,_,h=>by cases h;simp[aE]|i::l,m+1,cs,hl,⟨c,d,e,h1,h2⟩=>by
  simp only[List.all_cons,Bool.and_eq_true,beq_iff_eq] at hl;have:=h1.n;subst e;rw[List.drop_succ_cons,show m+1=c.length+m by omega,<- List.drop_drop,List.drop_left];exact RO (by simpa using hl.2) h2
theorem RP{V:World}:∀ {l:List It} {m:Nat} {cs:List Value},(l.all λi=>i.n==1)=true->aE V l cs->aE V (l.take m) (cs.take m)
 | l,0,cs,_,h=>by simp[aE]|[],m+1,cs,_,h=>by cases h;simp[aE]|i::l,m+1,cs,hl,⟨c,d,e,h1,h2⟩=>by
  simp only[List.all_cons,Bool.and_eq_true,beq_iff_eq] at hl;have hc:=h1.n;subst e;refine⟨c,d.take m,?_,h1,RP (by simpa using hl.2) h2⟩;rw[List.take_append,List.take_of_length_le (by omega),show m+1-c.length=m by omega]
theorem KT{V W:World}{r:Nat->Nat}{k:Nat}{i:It}{n:Nat}{f:Nat->List It}{cs:List Value}(h:td i=some (n,f))(hp:∀i,i<n->qz (f i)=true)(hr:af V W r k i cs):af V W r k (pE n λi=>qj (f i)) cs:=by
 unfold td at h;split at h
 ·split at h <;> cases h;rename_i hz;subst hz;obtain⟨v,e,a,c,e2,h1,h2,h3⟩:=hr;refine⟨v,e,a,c,e2,h1,h2,λj hj=>?_⟩;obtain⟨g,o,xs,T,k1,k2,k3,cs,d,k4,k5⟩:=h3 j hj;exact⟨g,o,xs,T,k1,k2,k3,cs,d,k4,Oe (hp j hj) k5⟩
 ·split at h <;> cases h;rename_i l z hb;obtain⟨rfl,hl⟩:=hb;obtain⟨g,q,xs,T,e,h1,h2,h3,h4,c,d,h5,h6,h7⟩:=hr;refine⟨_,e,_,q,rfl,h2,h3,λj hj=>?_⟩;have hlen:=congrArg List.length h5;rw[List.length_drop,List.length_append,Array.length_toList] at hlen;refine⟨g,_,xs,T,rfl,h1,by omega,(c.drop (j*7)).take 7,(c.drop (j*7)).drop 7++d,?_,Oe (hp j hj) (RP (by rw[List.all_eq_true] at hl ⊢;exact λx hx=>hl x (List.mem_of_mem_drop hx)) (RO hl h6))⟩;rw[<- List.drop_drop,h5,List.drop_append_of_le_length (by omega),<- List.append_assoc,List.take_append_drop]
 ·cases h;obtain⟨e,_⟩:=hr;exact⟨_,e,none,0,rfl,Nat.le_refl _,Nat.zero_le _,λj hj=>absurd hj (Nat.not_lt_zero _)⟩
 ·cases h
theorem vc{V W:World}{r:Nat->Nat}{k:Nat}{i:It}{x:Int×Nat}{cs:List Value}(h:asI i=some x)(hr:af V W r k i cs):af V W r k (.i x.1 lim) cs:=by
 obtain⟨z,B⟩:=x;unfold asI at h;split at h<;>cases h
 ·exact⟨hr.1,aQ hr.2.2,hr.2.2⟩
 ·exact⟨hr.1,aQ hr.2,hr.2⟩
theorem wZ{V W:World}{r:Nat->Nat}{k:Nat}{l:List It}{s:Sh}{ps:List Prop}{x:Value}(h:oe l=some (s,ps))(hp:aw ps)(hr:au V W r k ⟨true,l⟩ x):au V W r k (bh s) x:=by
 unfold oe at h;split at h
 ·rename_i i j z;split at h<;>cases h;rename_i x1 n f y hx hj hy;obtain⟨cs,⟨c1,d1,e1,h1,c2,d2,e2,h2,c3,d3,e3,h3,h4⟩,h5,_⟩:=hr;cases h4;subst e3 e2 e1;refine⟨_,⟨c1,_,rfl,vc hx h1,c2,_,rfl,KT hj hp.1 h2,c3,[],rfl,vc hy h3,rfl⟩,by simpa[bh] using h5,nofun⟩
 ·cases h
def eh(p:Nat->Bool):Nat->Bool
 | 0=>true|n+1=>eh p n&&p n
theorem md{p:Nat->Bool}:∀ {n:Nat},eh p n=true <-> ∀k,k<n->p k=true
 | 0=>⟨λ_ k hk=>absurd hk (Nat.not_lt_zero k),λ_=>rfl⟩|n+1=>by
  unfold eh;rw[Bool.and_eq_true,md];exact⟨λ⟨h1,h2⟩ k hk=>(Nat.lt_or_eq_of_le (Nat.le_of_lt_succ hk)).elim (h1 k) λh=>h ▸ h2,λh=>⟨λk hk=>h k (by omega),h n (by omega)⟩⟩
theorem AL{p:Nat->Bool}:∀ {n:Nat},eh p n=false->∃m,m<n/\p m=false/\∀k,k<m->p k=true
 | 0,h=>by cases h|n+1,h=>by
  cases h1:eh p n with|false =>
   obtain⟨m,k1,k2⟩:=AL h1;exact⟨m,by omega,k2⟩|true =>
   unfold eh at h;rw[h1,Bool.true_and] at h;exact⟨n,by omega,h,md.1 h1⟩
def pI(j:Nat)(h:j+1<=2000):Pf:=⟨((j:Nat):Int)+1=((j+1:Nat):Int)/\(((j:Nat):Int)+1).natAbs<=2000,by omega⟩
def pR(v:V1):Pf:=⟨v=v,rfl⟩
noncomputable def nF(f:FuncId):Nat:=((Tryz.prog.funcs[f]?).map (·.ntmps)).getD 0
set_option maxHeartbeats 2000000
set_option maxRecDepth 100000
section
theorem a4H{a b:Int}(h:a=b):Value.int .u64 a=Value.int .u64 b:=by rw[h]
end
set_option maxHeartbeats 1000000
set_option maxRecDepth 100000
section
theorem a6L{a b:List Nat}(da:ao a)(tb:ee b)(h:val b<=val a):b.length<=a.length:=by
 rcases Nat.lt_or_ge a.length b.length with g|g
 ·have := K4 da tb g;omega
 ·exact g
end
theorem UD(o:List Nat)(j d q:Nat)(hj:j<o.length)(hq:o[j]?.getD 0=q):val (o.set j d)+4294967296 ^ j*q=val o+4294967296 ^ j*d:=by
 induction o generalizing j with|nil=>simp at hj|cons x o ih =>
  cases j with|zero =>
   simp only[List.getElem?_cons_zero,Option.getD_some] at hq;subst hq;simp only[List.set_cons_zero,jL,Nat.pow_zero,Nat.one_mul];omega|succ j =>
   simp only[List.getElem?_cons_succ] at hq;have h:=ih j (by simpa using hj) hq;simp only[List.set_cons_succ,jL,Nat.pow_succ];generalize 4294967296 ^ j=p at *;have e1:p*4294967296*q=4294967296*(p*q):=by rw[Nat.mul_comm p,Nat.mul_assoc]
   have e2:p*4294967296*d=4294967296*(p*d):=by rw[Nat.mul_comm p,Nat.mul_assoc]
   rw[e1,e2];generalize p*q=u at *;generalize p*d=v at *;omega
theorem ao.set{o:List Nat}(h:ao o)(j d:Nat)(hd:d<4294967296):ao (o.set j d):=by
 intro x hx;rcases List.mem_or_eq_of_mem_set hx with hx|rfl
 ·exact h x hx
 ·exact hd
theorem getD_set_ne{o:List Nat}{i j d:Nat}(h:i≠j):(o.set i d)[j]?.getD 0=o[j]?.getD 0:=by rw[List.getElem?_set_ne h]
def m7(o:List Nat)(m:Nat):Prop:=∀j,m<=j->o[j]?.getD 0=0
theorem m7.replicate(n m:Nat):m7 (List.replicate n 0) m:=by
 intro j _;rw[List.getElem?_replicate];split<;>rfl
theorem m7.set{o:List Nat}{m j d:Nat}(h:m7 o m)(hj:j<m):m7 (o.set j d) m:=by
 intro i hi;rw[getD_set_ne (by omega)];exact h i hi
theorem m7.mono{o:List Nat}{m n:Nat}(h:m7 o m)(hm:m<=n):m7 o n:=λj hj=>h j (by omega)
theorem K8(d:List Nat)(k x:Nat)(hx:d[k]?.getD 0=x):val (d.take (k+1))=val (d.take k)+4294967296 ^ k*x:=by
 subst hx;by_cases h:k<d.length
 ·rw [List.take_succ_eq_append_getElem h, val_append];have:d[k]?.getD 0=d[k]:=by rw[List.getElem?_eq_getElem h];rfl
  rw[this];simp only[List.length_take,Nat.min_eq_left (Nat.le_of_lt h),jL,K5];simp
 ·rw [List.take_of_length_le (by omega), List.take_of_length_le (by omega), List.getElem?_eq_none (by omega)];simp
def mY(a b o:List Nat)(i k x c:Nat):Prop :=
 ao o/\c<4294967296/\val o+4294967296 ^ (i+k)*c=val (a.take i)*val b+x*(4294967296 ^ i*val (b.take k))
theorem mY.step{a b o:List Nat}{i k x c y q m:Nat}(h:mY a b o i k x c)(hj:i+k<o.length)(hx:x<4294967296)(hy:b[k]?.getD 0=y)(hyd:y<4294967296)(hq:o[i+k]?.getD 0=q)(hqd:q<4294967296)(hm:x*y=m) :
  mY a b (o.set (i+k) ((c+(q+m))%4294967296)) i (k+1) x ((c+(q+m))/4294967296):=by
 obtain⟨h1,h2,h3⟩:=h;have hb:m<=4294967295*4294967295:=by rw[<- hm];exact Nat.mul_le_mul (by omega) (by omega)
 refine⟨h1.set _ _ (Nat.mod_lt _ (by decide)),by omega,?_⟩;have hv:=UD o (i+k) ((c+(q+m))%4294967296) q hj hq;have hd:=Nat.mod_add_div (c+(q+m)) 4294967296;rw[K8 b k y hy];generalize (c+(q+m))%4294967296=d at *;generalize (c+(q+m))/4294967296=e at *;have hp:(4294967296:Nat) ^ (i+(k+1))=4294967296 ^ (i+k)*4294967296:=by rw[<- Nat.add_assoc,Nat.pow_succ]
 have hp2:x*(4294967296 ^ i*(val (b.take k)+4294967296 ^ k*y))=x*(4294967296 ^ i*val (b.take k))+4294967296 ^ (i+k)*m:=by
  rw[Nat.mul_add,Nat.mul_add,<- hm,Nat.pow_add];congr 1;generalize 4294967296 ^ i=u;generalize 4294967296 ^ k=v;rw[Nat.mul_left_comm x u,Nat.mul_assoc u v,Nat.mul_left_comm x v]
 rw[hp,hp2];generalize val (o.set (i+k) d)=v' at *;generalize 4294967296 ^ (i+k)=p at *;generalize x*(4294967296 ^ i*val (b.take k))=r at *;generalize val (a.take i)*val b=s at *;have h4:p*d+p*4294967296*e=p*c+(p*q+p*m):=by
  rw[Nat.mul_assoc,<- Nat.mul_add,hd,Nat.mul_add,Nat.mul_add]
 generalize p*4294967296*e=w1 at *;generalize p*d=w2 at *;generalize p*c=w3 at *;generalize p*q=w4 at *;generalize p*m=w5 at *;omega
theorem mY.start{a b o:List Nat}{i x:Nat}(hd:ao o)(h:val o=val (a.take i)*val b):mY a b o i 0 x 0 :=
 ⟨hd,by decide,by simp[val,h]⟩
theorem mY.finish{a b o:List Nat}{i k x c:Nat}(h:mY a b o i k x c)(hk:b.length<=k)(hx:a[i]?.getD 0=x)(hz:o[i+k]?.getD 0=0)(hj:i+k<o.length) :
  ao (o.set (i+k) c)/\val (o.set (i+k) c)=val (a.take (i+1))*val b:=by
 obtain⟨h1,h2,h3⟩:=h;refine⟨h1.set _ _ h2,?_⟩;have hv:=UD o (i+k) c 0 hj hz;rw[List.take_of_length_le hk] at h3;rw[K8 a i x hx,Nat.add_mul,Nat.mul_comm (4294967296 ^ i) x,Nat.mul_assoc];omega
theorem mY.done{a b o:List Nat}{i k x:Nat}(h:mY a b o i k x 0)(hk:b.length<=k)(hx:a[i]?.getD 0=x):val o=val (a.take (i+1))*val b:=by
 obtain⟨h1,h2,h3⟩:=h;rw[List.take_of_length_le hk] at h3;rw[K8 a i x hx,Nat.add_mul,Nat.mul_comm (4294967296 ^ i) x,Nat.mul_assoc];omega
end Go.Proofs.YtghemgdfmldoeaaGreat
