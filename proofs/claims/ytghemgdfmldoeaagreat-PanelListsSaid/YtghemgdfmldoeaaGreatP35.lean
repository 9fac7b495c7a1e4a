import Derived.Test.YtghemgdfmldoeaaGreatP34
set_option linter.unusedVariables false
set_option linter.unusedSimpArgs false
namespace Go.Proofs.YtghemgdfmldoeaaGreat
open Go.RowKit
def eT(s:Sh)(i:Nat):Ed:=if i<s.n then s.e i else ⟨0,0,0,0,0,0,0⟩
theorem N9{W:World}{s:Sh}{p:Option Addr}{c:Nat}(h:ShAt W s p c)(i:Nat):oj (eT s i):=by
 unfold eT;split
 ·rename_i hi;obtain⟨_,_,_,_,_,h3⟩:=h.row;obtain⟨g',o,xs,T,k1,k2,k3,cs,d,k4,k5⟩:=h3 i hi;obtain⟨_,_,rfl,⟨rfl,_,a0⟩,_,_,rfl,⟨rfl,_,a1⟩,_,_,rfl,⟨rfl,_,a2⟩,_,_,rfl,⟨rfl,_,a3⟩,_,_,rfl,⟨rfl,_,a4⟩,_,_,rfl,⟨rfl,_,a5⟩,_,_,rfl,⟨rfl,_,a6⟩,rfl⟩:=k5;exact⟨a0,a1,a2,a3,a4,a5,a6⟩
 ·have z : I64 0 := by unfold I64; omega
  exact⟨z,z,z,z,z,z,z⟩
theorem Oc{v:Nat}{W:World}{s:Sh}{p:Option Addr}(h:jP v W p s.n s.e):jP v W p s.n (eT s):=λi hi=>by
 obtain⟨g,o,h1,h2,h3⟩:=h i hi;exact⟨g,o,h1,h2,by unfold eT;rw[if_pos hi];exact h3⟩
def yg(a b:Sh)(i:Nat):Pr:=gC (eT a (i/b.n)) (eT b (i%b.n))
def wT(a b:Sh)(i:Nat):Bool:=bK (eT a (i/b.n)) (eT b (i%b.n))==0
theorem Oa{a b:Sh}{i:Nat}(hi:i<a.n*b.n):eT a (i/b.n)=a.e (i/b.n)/\eT b (i%b.n)=b.e (i%b.n):=by
 have hb:0<b.n:=Nat.pos_of_ne_zero λe=>by rw[e,Nat.mul_zero] at hi;omega
 unfold eT;rw[if_pos ((Nat.div_lt_iff_lt_mul hb).2 hi),if_pos (Nat.mod_lt _ hb)];exact⟨rfl,rfl⟩
theorem XN{a b:Sh}{i:Nat}(hi:i<a.n*b.n):yg a b i=tw a b i:=by
 obtain⟨h1,h2⟩:=Oa hi;unfold yg tw;rw[h1,h2]
theorem TN{a b:Sh}{i:Nat}(hi:i<a.n*b.n):wT a b i=sep a b i:=by
 obtain⟨h1,h2⟩:=Oa hi;unfold wT sep;rw[h1,h2]
def rW(c:Nat->Pr)(l:List Nat):Bool×Gp:=l.foldl (λs x=>(true,if (!s.1||decide (eE (c x).d s.2.d<0))=true then (c x).gp else s.2)) (false,Gp.no)
theorem Hj(c:Nat->Pr)(l:List Nat)(x:Nat):rW c (l++[x])=(true,if (!(rW c l).1||decide (eE (c x).d (rW c l).2.d<0))=true then (c x).gp else (rW c l).2):=by
 unfold rW;rw[List.foldl_append];rfl
theorem O0(c c':Nat->Pr):∀k,(∀i,i<k->c i=c' i)->rW c (cP k)=(!(k==0),tR c' k)
 | 0,_=>rfl|k+1,h=>by
  rw[uP,Hj,O0 c c' k λi hi=>h i (by omega),h k (by omega)];simp only[Bool.not_not];rfl
structure LI (w W:World) (a b:Sh) (p q:Option Addr) (c d B6 B7 Bs Bl:Nat) (m:Bool):Prop where
 ps:PS w W a b p q c d
 b6:W.heap[B6]? = some (.cells #[.bool m] 4)
 b7:W.heap[B7]? = some (.cells #[jm Bs Bl] 132)
theorem LI.kp{w W W':World}{a b:Sh}{p q:Option Addr}{c d B6 B7 Bs Bl:Nat}{m:Bool}(h:LI w W a b p q c d B6 B7 Bs Bl m)(hk:di [] W W')(hx:ac w W'):LI w W' a b p q c d B6 B7 Bs Bl m :=
 ⟨⟨hx,hk.same _ _ h.ps.b2 rfl (by simp),hk.same _ _ h.ps.b3 rfl (by simp),hk.same _ _ h.ps.b4 rfl (by simp)⟩,hk.same _ _ h.b6 rfl (by simp),hk.same _ _ h.b7 rfl (by simp)⟩
theorem Ih{W W':World}{row:Option Nat}(hg:W.grownBy W' row)(hr:∀r,row=some r->∃o:Obj,W.heap[r]? = some o/\o.isCells=false):di [] W W':=⟨hg.size,λ_ _ hk ho _=>(grownBy_keeps_cells hg hr hk ho).trans hk⟩
theorem di.mono{X Y:List Nat}{A B:World}(h:di X A B)(hs:∀x∈X,x∈Y):di Y A B:=⟨h.size,λk o hk ho hx=>h.same k o hk ho λg=>hx (hs k g)⟩
theorem iu.kp{W W':World}{B:Nat}{g:Gp}(h:iu W B g)(hk:di [] W W'):iu W' B g:=by
 obtain⟨cs,h1,h2⟩:=h;exact⟨cs,hk.same _ _ h1 rfl (by simp),h2.kp (X:=[]) (λx hx=>by simp at hx) hk⟩
theorem OO{w W W':World}{row:Option Nat}{B:Nat}(hx:ac w W)(hg:W.grownBy W' row)(hB:w.heap.size<=B)(hr:∀r,row=some r->B<=r):ac w W':=hx.trans ((Below.refl _ W).grown hg hx.size λk e=>by have:=hr k e;omega)
structure RI (w w3:World) (a b:Sh) (p q:Option Addr) (c d B6 B7 Bs Bl:Nat) (m0:Bool) (pre:List Nat) (W:World):Prop where
 li:LI w W a b p q c d B6 B7 Bs Bl m0
 bs:W.heap[Bs]? = some (.cells #[.bool (rW (yg a b) pre).1] 4)
 bl:iu W Bl (rW (yg a b) pre).2
 sz:w3.heap.size<=W.heap.size
 m:pre ≠ []->m0=false
 sp:∀i∈pre,wT a b i=true
theorem RI.own(w w3:World)(a b:Sh)(p q:Option Addr)(c d B6 B7 Bs Bl:Nat)(m0:Bool)(h3:w.heap.size<=w3.heap.size):OwnFrom w3.heap.size (RI w w3 a b p q c d B6 B7 Bs Bl m0):=λ_ A B row hs hg hr=>by
 have kp:=Ih hg λr e=>(hr r e).2
 exact⟨hs.li.kp kp (OO hs.li.ps.ex hg h3 λr e=>(hr r e).1),kp.same _ _ hs.bs rfl (by simp),hs.bl.kp kp,Nat.le_trans hs.sz hg.size,hs.m,hs.sp⟩
structure XI (w w3:World) (a b:Sh) (p q:Option Addr) (c d B6 B7 Bs Bl:Nat) (m0:Bool) (cc:Code) (pre:List Nat) (W:World):Prop where
 cc:cc=.exit 0
 li:LI w W a b p q c d B6 B7 Bs Bl true
 sz:w3.heap.size<=W.heap.size
 why:m0=true\/∃i∈pre,wT a b i=false
theorem XI.own(w w3:World)(a b:Sh)(p q:Option Addr)(c d B6 B7 Bs Bl:Nat)(m0:Bool)(cc:Code)(h3:w.heap.size<=w3.heap.size):OwnFrom w3.heap.size (XI w w3 a b p q c d B6 B7 Bs Bl m0 cc):=λ_ A B row hs hg hr=>by
 have kp:=Ih hg λr e=>(hr r e).2
 exact⟨hs.cc,hs.li.kp kp (OO hs.li.ps.ex hg h3 λr e=>(hr r e).1),Nat.le_trans hs.sz hg.size,hs.why⟩
def AI(w3:World)(a b:Sh)(B6 B7:Nat)(x:Nat)(a':Act)(W:World):Prop:=∃P9 P10,a'.tmps.size=94/\a'.tmps.getD 6 undef=aT B6/\a'.tmps.getD 7 undef=aT B7/\a'.tmps.getD 9 undef=aT P9/\a'.tmps.getD 10 undef=aT P10/\(w3.heap.size<=P9/\w3.heap.size<=P10) /\
 W.heap[P9]? = some (.cells (eo (eT a (x/b.n))).toArray 108)/\W.heap[P10]? = some (.cells (eo (eT b (x%b.n))).toArray 108)
theorem AI.own(w3:World)(a b:Sh)(B6 B7:Nat)(x:Nat)(a':Act):OwnFrom w3.heap.size (λ(_:Unit) W=>AI w3 a b B6 B7 x a' W):=λ_ A B row ⟨P9,P10,s,h6,h7,h9,h10,hl,g9,g10⟩ hg hr=>by
 have kp:=Ih hg λr e=>(hr r e).2
 exact⟨P9,P10,s,h6,h7,h9,h10,hl,kp.same _ _ g9 rfl (by simp),kp.same _ _ g10 rfl (by simp)⟩
theorem a42{w w3:World}{a b:Sh}{p q:Option Addr}{c d B6 B7 Bs Bl:Nat}{m0:Bool}(ha:ShAt w a p c)(hb:ShAt w b q d)(h3:w.heap.size+1+1<B6/\B6<Bl/\Bl<Bs/\Bs<B7/\B7<w3.heap.size)(l m:Nat)(pre:List Nat)(x:Nat)(a':Act)(W:World)(hI:RI w w3 a b p q c d B6 B7 Bs Bl m0 pre W)(hA:AI w3 a b B6 B7 x a' W) :
  D4.wpIn (Fence.wide.inRound l) m Tryz.prog (ownPostG w3.heap.size (di [B6,Bs,Bl]) (RI w w3 a b p q c d B6 B7 Bs Bl m0) (XI w w3 a b p q c d B6 B7 Bs Bl m0) (pre++[x]) W) a' W:=by
 obtain⟨P9,P10,s,h6,h7,h9,h10,⟨l9,l10⟩,g9,g10⟩:=hA;obtain⟨k1,k2,k3,k4,k5⟩:=h3;have hX:∀k ∈ [B6,Bs,Bl],∃o,W.heap[k]? = some o/\o.isCells=true:=λk hk=>by
  simp only[List.mem_cons,List.not_mem_nil,or_false] at hk;rcases hk with rfl|rfl|rfl
  ·exact⟨_,hI.li.b6,rfl⟩
  ·exact⟨_,hI.bs,rfl⟩
  ·obtain⟨cs,h,_⟩:=hI.bl;exact⟨_,h,rfl⟩
 have li':∀ {W':World} {t:Bool},eZ [B6,Bs,Bl] W W'->W'.heap[B6]? = some (.cells #[.bool t] 4)->LI w W' a b p q c d B6 B7 Bs Bl t:=λ{W' t} hb h=>by
  have no:∀k,(k<B6\/Bs<k)->k ∉ [B6,Bs,Bl]:=λk hk hm=>by
   simp only[List.mem_cons,List.not_mem_nil,or_false] at hm;omega
  refine⟨⟨hI.li.ps.ex.trans (hb.below hI.li.ps.ex.size λx hx=>?_),hb.at hI.li.ps.b2 (no _ (by omega)),hb.at hI.li.ps.b3 (no _ (by omega)),hb.at hI.li.ps.b4 (no _ (by omega))⟩,h,hb.at hI.li.b7 (no _ (by omega))⟩;simp only[List.mem_cons,List.not_mem_nil,or_false] at hx;omega
 refine VY l m a' W (eT a (x/b.n)) (eT b (x%b.n)) m0 _ _ B6 B7 Bs Bl P9 P10 _ s h6 h7 h9 h10 hI.li.b6 hI.li.b7 g9 g10 (N9 ha _) (N9 hb _) hI.bs hI.bl (by omega) (by omega) (by omega) (by omega) (by omega) (by omega) ?_ ?_
 ·intro a2 W' bx h1 h2;refine⟨bx.keeps _ hX,rfl,li' bx h1,Nat.le_trans hI.sz bx.size,?_⟩;cases m0 with|true=>exact .inl rfl|false=>exact .inr ⟨x,by simp,by unfold wT;simpa using h2⟩
 ·intro a2 W' bx h1 h2 h4 h5;simp only[Bool.or_eq_false_iff] at h5;obtain⟨m1,m2⟩:=h5;subst m1;refine⟨bx.keeps _ hX,bx.kp,li' bx h1,by rw[Hj];exact h2,by rw[Hj];exact h4,Nat.le_trans hI.sz bx.size,λ_=>rfl,λi hi=>?_⟩;rcases List.mem_append.1 hi with hi|hi
  ·exact hI.sp i hi
  ·rw[List.mem_singleton.1 hi];unfold wT;simpa using m2
set_option maxHeartbeats 4000000
set_option maxRecDepth 100000
section
theorem get_put{a:Act}{d t:Nat}{v:Value}:(a.put (some d) v).tmps.getD t undef=if d=t then (if d<a.tmps.size then v else undef) else a.tmps.getD t undef:=by
 by_cases h:d=t
 ·subst h;by_cases h2:d<a.tmps.size
  ·rw[if_pos rfl,if_pos h2,ij h2]
  ·rw[if_pos rfl,if_neg h2];simp[Act.put,h2]
 ·rw[if_neg h,cT h]
theorem jr{a:Act}{d:Nat}{v:Value}:(a.put (some d) v).tmps.size=a.tmps.size:=by simp[Act.put]
theorem zr{a:Act}{v:Value}:a.put none v=a:=rfl
theorem a3P{a:Act}{d:Nat}{v:Value}:(a.put (some d) v).defers=a.defers:=rfl
theorem OJ{P:Program}{o:Oper}{a:Act}{x:Operand}{j:Nat}{vs:List Value}{v:Value}(ho:o.op=.extract x j)(hx:a.eval x=.tuple vs.toArray)(hv:vs[j]? = some v)(w:World):(execOp a.eval o).run P w=.ok (.value v) w:=by
 refine lF (m:=Instr.extract (a.eval x) j) (by unfold execOp;rw[ho]) ?_;rw[hx];simp only[Instr.extract,List.getElem?_toArray,hv,Sem.run_pure]
theorem ZG{P:Program}{o:Oper}{a:Act}{t:TypeId}{i:TypeInfo}{z:Value}(ho:o.op=.alloc t)(hi:P.info? t=some i)(hz:i.zero=some z)(w:World):(execOp a.eval o).run P w=.ok (.value (aT w.heap.size)) (w.alloc (.cells z.cells t)) :=
 lF (m:=Instr.alloc t true (.tuple #[])) (by unfold execOp;rw[ho]) (Kq hi hz w)
theorem a0t{P:Program}{t:TypeId}{z:Value}(h:((P.info? t).bind (·.zero))=some z):∃i,P.info? t=some i/\i.zero=some z:=by
 cases hi:P.info? t with|none=>rw[hi] at h;cases h|some i=>rw[hi] at h;exact⟨i,rfl,h⟩
theorem Fo{ops:Array Oper}{o1 o2:Oper}{l:List Oper}(a:Act)(W:World)(t n d s:Nat)(z:Value)(old vs:List Value)(Q:Act->World->Prop)(h1:o1.op=.alloc t)(h2:o2.op=.store t (.tmp d) (.tmp s))(d1:o1.dst=some d)(d2:o2.dst=none)(g1:o1.guard=none)(g2:o2.guard=none)(hi:((Tryz.prog.info? t).bind (·.zero))=some z)(hz:z.cells=old.toArray)(hn:bV Tryz.prog t=some n)(ho:old.length=n)(hd:d<a.tmps.size)(hds:d≠s)
  (hs:(a.tmps.getD s undef).cells=vs.toArray) (hl:vs.length=n) (hv:∀v∈vs,v.oneCell'=true) (hQ:∀W',ac W W'->W.heap.size<W'.heap.size->W'.heap[W.heap.size]? = some (.cells vs.toArray t)->aF Tryz.prog ops Q l (a.put (some d) (aT W.heap.size)) W'):aF Tryz.prog ops Q (o1::o2::l) a W:=by
 obtain⟨i,i1,i2⟩:=a0t hi;refine jN (by unfold Region.wanted;rw[g1]) (ZG h1 i1 i2 W) ?_;rw[d1,hz];have hg:(W.alloc (.cells old.toArray t)).heap[W.heap.size]? = some (.cells old.toArray t):=World.alloc_heap_new _ _;obtain⟨k1,k2⟩:=lP (cs':=(old.take 0++(vs++old.drop (0+vs.length))).toArray) hg;have ec:(old.take 0++(vs++old.drop (0+vs.length)))=vs:=by rw[List.take_zero,List.nil_append,Nat.zero_add,List.drop_eq_nil_of_le (by omega),List.append_nil]
 refine Aj (W:=(W.alloc (.cells old.toArray t)).setRow W.heap.size (old.take 0++(vs++old.drop (0+vs.length))).toArray) (by unfold Region.wanted;rw[g2]) ?_ ?_
 ·exact oQ h2 (show (a.put (some d) (aT W.heap.size)).tmps.getD d undef=_ from ij hd) hg (by rw[show (a.put (some d) (aT W.heap.size)).eval (.tmp s)=(a.put (some d) (aT W.heap.size)).tmps.getD s undef from rfl,cT hds];exact hs) hn hl (by omega) hv
 ·rw [d2, zr];have hx:ac W ((W.alloc (.cells old.toArray t)).setRow W.heap.size (old.take 0++(vs++old.drop (0+vs.length))).toArray):=(iR W _).trans (k1.below (Nat.le_refl _));exact hQ _ hx (by rw[k1.size];simp) (by rw[k2,ec])
theorem r4(a:Act)(W:World)(Q:Act->World->Prop)(hsz:a.tmps.size=94)
  (hQ:∀a' W1 W2,a'.tmps.size=94->a'.defers=a.defers->(∀t,35≠t->34≠t->36≠t->37≠t->7≠t->8≠t->a'.tmps.getD t undef=a.tmps.getD t undef)->a'.tmps.getD 7 undef=aT W1.heap.size->a'.tmps.getD 8 undef=nH W.heap.size->ac W W1->ac W1 W2->W1.heap[W.heap.size+1]? = some (.cells #[.bool false] 4)->W1.heap[W.heap.size]? = some (.cells dS.toArray 89)->W2.heap[W1.heap.size]? = some (.cells #[jm (W.heap.size+1) W.heap.size] 132)->Q a' W2):aF Tryz.prog (gR 4).toArray Q (gR 4) a W:=by
 have es:gR 4=[gO 4 0,gO 4 1,gO 4 2,gO 4 3,gO 4 4,gO 4 5,gO 4 6]:=by kernel_rfl
 have d0:(gO 4 0).dst=some 35:=by kernel_rfl
 have d1:(gO 4 1).dst=some 34:=by kernel_rfl
 have d2:(gO 4 2).dst=some 36:=by kernel_rfl
 have d3:(gO 4 3).dst=some 37:=by kernel_rfl
 have d6:(gO 4 6).dst=some 8:=by kernel_rfl
 rw[show aF Tryz.prog (gR 4).toArray Q (gR 4) a W=aF Tryz.prog (gR 4).toArray Q [gO 4 0,gO 4 1,gO 4 2,gO 4 3,gO 4 4,gO 4 5,gO 4 6] a W by rw[<- es]];have en:(execOp a.eval (gO 4 0)).run Tryz.prog W=.ok (.enter 91 #[]) W:=by
  simpa using sX (P:=Tryz.prog) (o:=gO 4 0) (a:=a) (f:=91) (x:=.func 91) (caps:=#[]) (cl:={ callee:=.value (.func 91),args:=#[],argTypes:=#[] }) qU Tryz.func91 rfl (by kernel_rfl) rfl rfl W
 refine Ey (by kernel_rfl) en (ZX W) (λe W h=>⟨_,h.1⟩) λv W1 ⟨e,hx1,hs,hl⟩=>?_
 cases e;rw[d0];refine jN (by kernel_rfl) (OL (x:=.tmp 35) (by kernel_rfl) W1) ?_;rw[d1,show (a.put (some 35) _).eval (.tmp 35)=_ from ij (by rw[hsz];decide)];refine jN (by kernel_rfl) (OJ (x:=.tmp 34) (j:=0) (vs:=[jm (W.heap.size+1) W.heap.size,nH W.heap.size]) (by kernel_rfl) (ij (by simp[jr,hsz])) rfl W1) ?_;rw[d2];refine jN (by kernel_rfl) (OJ (x:=.tmp 34) (j:=1) (vs:=[jm (W.heap.size+1) W.heap.size,nH W.heap.size]) (by kernel_rfl) (by rw[show ∀b:Act,b.eval (.tmp 34)=b.tmps.getD 34 undef from λ_=>rfl,cT (show 36≠34 by decide)];exact ij (by simp[jr,hsz])) rfl W1) ?_;rw[d3]
 refine Fo _ W1 132 1 7 36 .nilFunc [.nilFunc] [jm (W.heap.size+1) W.heap.size] Q (by kernel_rfl) (by kernel_rfl) (by kernel_rfl) (by kernel_rfl) (by kernel_rfl) (by kernel_rfl) (by kernel_rfl) (by kernel_rfl) (by kernel_rfl) rfl (by simp[jr,hsz]) (by decide) (by rw[cT (show 37≠36 by decide),ij (by simp[jr,hsz])];rfl) rfl (λv hv=>by rw[List.mem_singleton.1 hv];rfl) λW2 hx2 hlt h7=>?_
 refine jN (by kernel_rfl) (OI (x:=.tmp 37) (by kernel_rfl) W2) ?_;rw[d6];refine hQ _ W1 W2 (by simp[jr,hsz]) rfl (λt n1 n2 n3 n4 n5 n6=>?_) (by rw[cT (show 8≠7 by decide)];exact ij (by simp[jr,hsz])) ?_ hx1 hx2 hs hl h7
 ·rw[cT n6,cT n5,cT n4,cT n3,cT n2,cT n1]
 ·rw [ij (by simp [jr, hsz])];show (Act.put _ (some 7) _).tmps.getD 37 undef=_;rw[cT (show 7≠37 by decide),ij (by simp[jr,hsz])]
end
set_option maxHeartbeats 4000000
set_option maxRecDepth 100000
section
theorem r5(a:Act)(W:World)(s u:Sh)(p q:Option Addr)(c d B2 B3:Nat)(Q:Act->World->Prop)(hsz:a.tmps.size=94)(h2:a.tmps.getD 2 undef=aT B2)(h3:a.tmps.getD 3 undef=aT B3)(g2:W.heap[B2]? = some (.cells (eY s p c) 30))(g3:W.heap[B3]? = some (.cells (eY u q d) 30))
  (hQ:∀a' W',a'.tmps.size=94->a'.defers=a.defers->(∀t,38≠t->39≠t->40≠t->a'.tmps.getD t undef=a.tmps.getD t undef)->a'.tmps.getD 40 undef=.func (.func 131) #[] #[aT W.heap.size,aT (W.heap.size+1)]->ac W W'->W'.cell? ⟨W.heap.size,1,none⟩=some (.slice p s.n c)->W'.cell? ⟨W.heap.size+1,1,none⟩=some (.slice q u.n d)->W.heap.size+1<W'.heap.size->Q a' W'):aF Tryz.prog (gR 5).toArray Q (gR 5) a W:=by
 have es:gR 5=[gO 5 0,gO 5 1,gO 5 2]:=by kernel_rfl
 have d0:(gO 5 0).dst=some 38:=by kernel_rfl
 have d1:(gO 5 1).dst=some 39:=by kernel_rfl
 have d2:(gO 5 2).dst=some 40:=by kernel_rfl
 rw[show aF Tryz.prog (gR 5).toArray Q (gR 5) a W=aF Tryz.prog (gR 5).toArray Q [gO 5 0,gO 5 1,gO 5 2] a W by rw[<- es]];have v1:=vB (P:=Tryz.prog) (o:=gO 5 0) (a:=a) (w:=W) (t:=30) (x:=.tmp 2) (j:=0) (n:=3) (b:=true) (cs:=(eY s p c).toList) (by kernel_rfl) h2 (by simpa using g2) (by kernel_rfl) (by kernel_rfl) (by simp[eY]) nofun
 refine jN (x:=.agg (eY s p c)) (W:=W) (by kernel_rfl) v1 ?_;rw[d0];have v2:=vB (P:=Tryz.prog) (o:=gO 5 1) (a:=a.put (some 38) (.agg (eY s p c))) (w:=W) (t:=30) (x:=.tmp 3) (j:=0) (n:=3) (b:=true) (cs:=(eY u q d).toList) (by kernel_rfl) (show (a.put (some 38) (.agg (eY s p c))).tmps.getD 3 undef=_ by rw[cT (show 38≠3 by decide)];exact h3) (by simpa using g3) (by kernel_rfl) (by kernel_rfl) (by simp[eY]) nofun
 refine jN (x:=.agg (eY u q d)) (W:=W) (by kernel_rfl) v2 ?_;rw[d1];have en:(execOp ((a.put (some 38) (.agg (eY s p c))).put (some 39) (.agg (eY u q d))).eval (gO 5 2)).run Tryz.prog W=.ok (.enter 92 #[.agg (eY s p c),.agg (eY u q d)]) W:=by
  have:=sX (P:=Tryz.prog) (o:=gO 5 2) (a:=(a.put (some 38) (.agg (eY s p c))).put (some 39) (.agg (eY u q d))) (f:=92) (x:=.func 92) (caps:=#[]) (cl:={ callee:=.value (.func 92),args:=#[.tmp 38,.tmp 39],argTypes:=#[30,30] }) qU Tryz.func92 rfl (by kernel_rfl) rfl rfl W;rw[this];simp only[List.map_toArray,List.map_cons,List.map_nil]
  rw[show ((a.put (some 38) (.agg (eY s p c))).put (some 39) (.agg (eY u q d))).eval (.tmp 38)=.agg (eY s p c) from (cT (by decide)).trans (ij (by rw[hsz];decide)),show ((a.put (some 38) (.agg (eY s p c))).put (some 39) (.agg (eY u q d))).eval (.tmp 39)=.agg (eY u q d) from ij (by rw[jr,hsz];decide)];rfl
 refine Ey (by kernel_rfl) en (ZY s.k s.r u.k u.r p q s.n c u.n d W) (λe W h=>⟨_,h.1⟩) λv W1 ⟨e,hx1,c0,c1,hz⟩=>?_
 cases e;rw[d2];exact hQ _ W1 (by rw[jr,jr,jr,hsz]) rfl (λt n1 n2 n3=>by rw[cT n3,cT n2,cT n1]) (ij (by rw[jr,jr,hsz];decide)) hx1 c0 c1 hz
theorem BI(e:Ed):∀v∈eo e,v.oneCell'=true:=λv hv=>by
 simp only[eo,List.mem_cons,List.not_mem_nil,or_false] at hv;rcases hv with rfl|rfl|rfl|rfl|rfl|rfl|rfl<;>rfl
theorem r6(a:Act)(W:World)(x:Ed)(Q:Act->World->Prop)(hsz:a.tmps.size=94)(h41:a.tmps.getD 41 undef=fi x)(hQ:∀W',ac W W'->W.heap.size<W'.heap.size->W'.heap[W.heap.size]? = some (.cells (eo x).toArray 108)->Q (a.put (some 9) (aT W.heap.size)) W'):aF Tryz.prog (gR 6).toArray Q (gR 6) a W:=by
 have es:gR 6=[gO 6 0,gO 6 1]:=by kernel_rfl
 rw[show aF Tryz.prog (gR 6).toArray Q (gR 6) a W=aF Tryz.prog (gR 6).toArray Q [gO 6 0,gO 6 1] a W by rw[<- es]];exact Fo a W 108 7 9 41 (.agg #[.int .i64 0,.int .i64 0,.int .i64 0,.int .i64 0,.int .i64 0,.int .i64 0,.int .i64 0]) [.int .i64 0,.int .i64 0,.int .i64 0,.int .i64 0,.int .i64 0,.int .i64 0,.int .i64 0] (eo x) Q (by kernel_rfl) (by kernel_rfl) (by kernel_rfl) (by kernel_rfl) (by kernel_rfl) (by kernel_rfl) (by kernel_rfl) rfl (by kernel_rfl) rfl (by rw[hsz];decide) (by decide) (by rw[h41];rfl) rfl (BI x) hQ
theorem r7(a:Act)(W:World)(x:Ed)(Q:Act->World->Prop)(hsz:a.tmps.size=94)(h42:a.tmps.getD 42 undef=fi x)(hQ:∀W',ac W W'->W.heap.size<W'.heap.size->W'.heap[W.heap.size]? = some (.cells (eo x).toArray 108)->Q (a.put (some 10) (aT W.heap.size)) W'):aF Tryz.prog (gR 7).toArray Q (gR 7) a W:=by
 have es:gR 7=[gO 7 0,gO 7 1]:=by kernel_rfl
 rw[show aF Tryz.prog (gR 7).toArray Q (gR 7) a W=aF Tryz.prog (gR 7).toArray Q [gO 7 0,gO 7 1] a W by rw[<- es]];exact Fo a W 108 7 10 42 (.agg #[.int .i64 0,.int .i64 0,.int .i64 0,.int .i64 0,.int .i64 0,.int .i64 0,.int .i64 0]) [.int .i64 0,.int .i64 0,.int .i64 0,.int .i64 0,.int .i64 0,.int .i64 0,.int .i64 0] (eo x) Q (by kernel_rfl) (by kernel_rfl) (by kernel_rfl) (by kernel_rfl) (by kernel_rfl) (by kernel_rfl) (by kernel_rfl) rfl (by kernel_rfl) rfl (by rw[hsz];decide) (by decide) (by rw[h42];rfl) rfl (BI x) hQ
end
set_option maxHeartbeats 4000000
set_option maxRecDepth 100000
section
open Go.RowKit Go.Shelf
theorem JY{W:World}{n:Nat}{e:Nat->Ed}{v:Value}(h:fU (aE W) W 7 n (λi=>cV (e i)) v):fU (jf W) W 7 n (λi=>cV (e i)) v:=by
 obtain⟨a,c,e1,h1,h2,h3⟩:=h;refine⟨a,c,e1,h1,h2,λi hi=>?_⟩;obtain⟨g,o,xs,T,k1,k2,k3,cs,d,k4,k5⟩:=h3 i hi;obtain⟨c0,d0,e0,a0,c1,d1,e1,a1,c2,d2,e2,a2,c3,d3,e3,a3,c4,d4,e4,a4,c5,d5,e5,a5,c6,d6,e6,a6,e7⟩:=k5;exact⟨g,o,xs,T,k1,k2,k3,cs,d,k4,c0,d0,e0,a0,c1,d1,e1,a1,c2,d2,e2,a2,c3,d3,e3,a3,c4,d4,e4,a4,c5,d5,e5,a5,c6,d6,e6,a6,e7⟩
theorem ShAt.repF{W:World}{s:Sh}{p:Option Addr}{c:Nat}(h:ShAt W s p c):aE W (jb s) [.int .i64 s.k,.slice p s.n c,.int .i64 s.r] :=
 ⟨[_],_,rfl,⟨rfl,aQ h.k,h.k⟩,[_],_,rfl,⟨_,rfl,JY h.row⟩,[_],[],rfl,⟨rfl,aQ h.r,h.r⟩,rfl⟩
theorem a4D:D1=.seq (.region 4 (gR 4).toArray false) (.seq (.label 0) (.seq (.seq (.region 5 (gR 5).toArray false) (.block 0 (.rangeFunc (.tmp 40) #[41,42] (.seq (.region 6 (gR 6).toArray false) (.region 7 (gR 7).toArray false)) D4))) DZ)):=by kernel_rfl
def uv(a b:Sh):Gp:=if yX a b=true then P6 a b else { tR (tw a b) (a.n*b.n) with d:=(kD (tR (tw a b) (a.n*b.n)).d (q9 a b)).1 }
theorem a0K{X:List Nat}{W:World}{l:Nat}{o o':Obj}(h:W.heap[l]? = some o)(ho:o.isCells=false):di X W (W.putObj l o'):=(Po h ho).mono (λx hx=>by simp at hx)
theorem a4E(w W:World)(A:Act)(a b:Sh)(p q:Option Addr)(c d B6:Nat)(m0:Bool)(ha:ShAt w a p c)(hb:ShAt w b q d)(na:1<=a.n/\a.n<=1000)(nb:1<=b.n/\b.n<=1000)(hm:(m8 a b||m8 b a)=m0)(hsz:A.tmps.size=94)(hd:A.defers=[])
  (h2:A.tmps.getD 2 undef=aT w.heap.size) (h3:A.tmps.getD 3 undef=aT (w.heap.size+1)) (h4:A.tmps.getD 4 undef=aT (w.heap.size+1+1)) (h6:A.tmps.getD 6 undef=aT B6) (ps:PS w W a b p q c d) (g6:W.heap[B6]? = some (.cells #[.bool m0] 4)) (hB6:w.heap.size+1+1<B6) :
  D1.wp Tryz.prog (Exit.noGoto (bodyPostM Fence.wide 6 Tryz.prog Tryz.f32 (xF w (uv a b) true))) A W:=by
 rw[a4D];refine wp_seq (wp_region_lit (aF.wp (r4 A W _ hsz λa1 W1 W2 s1 df1 of1 e7 e8 x1 x2 cs cl c7=>?_)));refine wp_seq (wp_label ?_);have x12:=ac.step x1 x2;have ps2:=ps.step x12;refine wp_seq (wp_seq (wp_region_lit (aF.wp (r5 a1 W2 a b p q c d w.heap.size (w.heap.size+1) _ s1 (by rw[of1 2 (by decide) (by decide) (by decide) (by decide) (by decide) (by decide)];exact h2) (by rw[of1 3 (by decide) (by decide) (by decide) (by decide) (by decide) (by decide)];exact h3) ps2.b2 ps2.b3 λa2 W3 s2 df2 of2 e40 x3 c0 c1 hz=>?_))))
 have of12:∀t,35≠t->34≠t->36≠t->37≠t->7≠t->8≠t->38≠t->39≠t->40≠t->a2.tmps.getD t undef=A.tmps.getD t undef:=λt n1 n2 n3 n4 n5 n6 n7 n8 n9=>by rw[of2 t n7 n8 n9,of1 t n1 n2 n3 n4 n5 n6]
 have x13:=ac.step x12 x3;have ps3:=ps.step x13;have zW:B6<W.heap.size:=(Array.getElem?_eq_some_iff.1 g6).1;have z1:W.heap.size+1<W1.heap.size:=(Array.getElem?_eq_some_iff.1 cs).1;have z2:W1.heap.size<W2.heap.size:=(Array.getElem?_eq_some_iff.1 c7).1;have z3:=x3.size;have zw:=ps.ex.size;have LI3:LI w W3 a b p q c d B6 W1.heap.size (W.heap.size+1) W.heap.size m0:=⟨ps3,aH g6 x13,aH c7 x3⟩;have h0:RI w W3 a b p q c d B6 W1.heap.size (W.heap.size+1) W.heap.size m0 [] W3:=⟨LI3,aH cs (ac.step x2 x3),⟨dS,aH cl (ac.step x2 x3),ED W3⟩,Nat.le_refl _,λh=>absurd rfl h,λi hi=>by cases hi⟩
 have bw:Below w.heap.size w W3:=ps3.ex;have t2:a2.tmps.getD 2 undef=aT w.heap.size:=by rw[of12 2 (by decide) (by decide) (by decide) (by decide) (by decide) (by decide) (by decide) (by decide) (by decide)];exact h2
 have t3:a2.tmps.getD 3 undef=aT (w.heap.size+1):=by rw[of12 3 (by decide) (by decide) (by decide) (by decide) (by decide) (by decide) (by decide) (by decide) (by decide)];exact h3
 have t4:a2.tmps.getD 4 undef=aT (w.heap.size+1+1):=by rw[of12 4 (by decide) (by decide) (by decide) (by decide) (by decide) (by decide) (by decide) (by decide) (by decide)];exact h4
 have t6:a2.tmps.getD 6 undef=aT B6:=by rw[of12 6 (by decide) (by decide) (by decide) (by decide) (by decide) (by decide) (by decide) (by decide) (by decide)];exact h6
 have t7:a2.tmps.getD 7 undef=aT W1.heap.size:=by rw[of2 7 (by decide) (by decide) (by decide)];exact e7
 have t8:a2.tmps.getD 8 undef=nH W.heap.size:=by rw[of2 8 (by decide) (by decide) (by decide)];exact e8
 have fin:∀(D:Nat) (W4:World) (met:Bool) (g:Gp),W3.heap.size<=D->W4.heap[D]? = some (.deferred (some []))->LI w W4 a b p q c d B6 W1.heap.size (W.heap.size+1) W.heap.size met->(met=false->iu W4 W.heap.size g)->(if met=true then (⟨true,xi a b,Sp.no,Sp.no⟩:Gp) else { g with d:=(kD g.d (q9 a b)).1 })=uv a b ->
   DZ.wp Tryz.prog (Exit.noGoto (bodyPostM Fence.wide 6 Tryz.prog Tryz.f32 (xF w (uv a b) true))) { a2 with defers:={ target:=.collected D,args:=#[] }::a2.defers } W4:=λD W4 met g hD hK hl hg he=>by
  have f2:eL W4 w.heap.size (jb a):=.of (cs:=(eY a p c).toList) (by simpa using hl.ps.b2) (ha.ext hl.ps.ex).repF;have f3:eL W4 (w.heap.size+1) (jb b):=.of (cs:=(eY b q d).toList) (by simpa using hl.ps.b3) (hb.ext hl.ps.ex).repF;rw[<- he];exact a4C w W4 _ a b met g w.heap.size (w.heap.size+1) (w.heap.size+1+1) B6 W.heap.size D s2 (by show _::a2.defers=_;rw[df2,df1,hd]) t2 t3 t4 t6 t8 f2 f3 hl.ps.b4 hl.b6 hg hl.ps.ex (by omega) hK (by omega)
 refine wp_block ?_;refine (wpIn_wide (n:=6)).1 ?_;refine wpIn_rangeFunc_ownH rfl (by omega) (gf:=131) (lb:=#[aT W2.heap.size,aT (W2.heap.size+1)]) e40 trivial (enters_of Tryz.func131 (by kernel_rfl) rfl)
  (pairs_stops 5 (by omega) [B6,W.heap.size+1,W.heap.size] a.n b.n (eT a) (eT b) w.heap.size W2.heap.size (W2.heap.size+1) c d p q W3 (by omega) hz (by omega) (λx hx=>by simp only[List.mem_cons,List.not_mem_nil,or_false] at hx;omega) (λh=>by simp only[List.mem_cons,List.not_mem_nil,or_false] at h;omega) (λh=>by simp only[List.mem_cons,List.not_mem_nil,or_false] at h;omega) c0 c1 ((Oc ha.edr).below bw) ((Oc hb.edr).below bw) na.2 nb.2) di.trans
  (λW l o o' _ ho hc _=>a0K ho hc)
  (Below.refl _ _) (λ_=>rfl)
  (RI w W3 a b p q c d B6 W1.heap.size (W.heap.size+1) W.heap.size m0) (XI w W3 a b p q c d B6 W1.heap.size (W.heap.size+1) W.heap.size m0)
  (RI.own w W3 a b p q c d B6 _ _ _ m0 (by omega)) (λcc=>XI.own w W3 a b p q c d B6 _ _ _ m0 cc (by omega)) h0
  (AI W3 a b B6 W1.heap.size) (AI.own W3 a b B6 W1.heap.size) ?assign ?body ?done ?stop
 case assign =>
  rintro l pre x V K hI hK;have e41:(fi (eT a (x/b.n)))=fi (eT a (x/b.n)):=rfl;refine wpIn_seq (vI (by kernel_rfl) (r6 _ V (eT a (x/b.n)) _ ?_ ?_ λV1 y1 v1 q1=>?_))
  ·simp[s2]
  ·simp[s2]
  refine vI (by kernel_rfl) (r7 _ V1 (eT b (x%b.n)) _ ?_ ?_ λV2 y2 v2 q2=>?_)
  ·simp[s2,jr]
  ·rw[cT (by decide)];simp[s2]
  have y12:=ac.step y1 y2;have hVs:=hI.sz;refine hK _ _ (eZ.keeps (X:=[]) (.ext y12) _ (λx hx=>by simp at hx)) (.ext y12) ?_ ?_
  ·exact⟨hI.li.kp (.ext y12) (ac.step hI.li.ps.ex y12),aH hI.bs y12,hI.bl.ext y12,Nat.le_trans hVs y12.size,hI.m,hI.sp⟩
  ·refine ⟨V.heap.size, V1.heap.size, ?_, ?_, ?_, ?_, ?_, ⟨by omega, by omega⟩, aH q1 y2, q2⟩
   ·simp[s2,jr]
   ·rw[cT (by decide),cT (by decide)];simpa using t6
   ·rw[cT (by decide),cT (by decide)];simpa using t7
   ·rw[cT (by decide)];exact ij (by simp[s2])
   ·exact ij (by simp[s2,jr])
 case body =>
  rintro l pre x a' V hl hr hI hA hlen;exact a42 ha hb ⟨by omega,by omega,by omega,by omega,by omega⟩ l _ pre x a' V hI hA
 case done =>
  rintro D xs V hD rfl hI hK;have hne:cP (a.n*b.n) ≠ []:=λe=>by
   have:=congrArg List.length e;rw[Es] at this;have:=Nat.mul_pos (show 0<a.n by omega) (show 0<b.n by omega);simp at *;omega
  have m1:=hI.m hne;subst m1;have hs:eh (sep a b) (a.n*b.n)=true:=md.2 λk hk=>by rw[<- TN hk];exact hI.sp k (by unfold cP;exact List.mem_range.2 hk)
  have hg:=O0 (yg a b) (tw a b) (a.n*b.n) λi hi=>XN hi
  have bl:=hI.bl;rw[hg] at bl;refine fin D V false _ hD hK hI.li (λ_=>bl) ?_;unfold uv yX;rw[hm,hs];rfl
 case stop =>
  rintro D cc pre V hD ⟨k,hk,rfl⟩ hX hK;obtain rfl:=hX.cc;refine wpIn_exit ?_;refine fin D V true Gp.no hD hK hX.li (λh=>by cases h) ?_;have:yX a b=true:=by
   unfold yX;rcases hX.why with h|⟨i,hi,hs⟩
   ·rw[hm,h];rfl
   ·have hik : i < a.n * b.n := by unfold cP at hi; have := List.mem_range.1 hi; omega
    rw[TN hik] at hs;cases hA:eh (sep a b) (a.n*b.n) with|true=>rw[md.1 hA i hik] at hs;cases hs|false=>simp
  unfold uv;rw[if_pos rfl,if_pos this];rfl
end
set_option maxHeartbeats 4000000
set_option maxRecDepth 100000
section
open Go.RowKit Go.Shelf
attribute [local go_sem] Oper.semAt_some
attribute [local go_sem] aL dz
theorem ZW(a b:Sh)(h1:bD a=0)(h2:bD b=0):ae Tryz.prog 32 [bh a,bh b] (we (uv a b,true)):=by
 intro w vals hv;obtain⟨va,ha,_,rfl,hv1⟩:=aK.1 hv;obtain⟨vb,hb,_,rfl,hv2⟩:=aK.1 hv1;cases hv2;obtain⟨p,c,rfl,Ha⟩:=ShAt.of ha;obtain⟨q,d,rfl,Hb⟩:=ShAt.of hb;have ga:=FV h1;have gb:=FV h2;have na:1<=a.n/\a.n<=1000:=⟨ga.n1,by have:=ga.n40;omega⟩;have nb:1<=b.n/\b.n<=1000:=⟨gb.n1,by have:=gb.n40;omega⟩;have C1:=Lib.hid (D5 a Ha);have C2:=Lib.hid (D5 b Hb);have C3:=Lib.hid (MA a b Ha Hb na.2 (by omega));have C4:=Lib.hid (MA b a Hb Ha nb.2 (by omega));have HA:=Lib.hid Ha;have HB:=Lib.hid Hb;have NA:=Lib.hid na;have NB:=Lib.hid nb;clear ha hb hv hv1 Ha Hb ga gb na nb
 have b1:(bD a==0)=true:=by simpa using h1
 have b2:(bD b==0)=true:=by simpa using h2
 clear h1 h2;have z0:∀w:World,(w.alloc (.cells dS.toArray 89)).heap[w.heap.size]? = some (.cells dS.toArray 89):=λw=>World.alloc_heap_new _ _
 have hx0:ac w (((w.alloc (.cells #[.int .i64 a.k,.slice p a.n c,.int .i64 a.r] 30)).alloc (.cells #[.int .i64 b.k,.slice q b.n d,.int .i64 b.r] 30)).alloc (.cells dS.toArray 89)):=ag;have P0:PS w (((w.alloc (.cells #[.int .i64 a.k,.slice p a.n c,.int .i64 a.r] 30)).alloc (.cells #[.int .i64 b.k,.slice q b.n d,.int .i64 b.r] 30)).alloc (.cells dS.toArray 89)) a b p q c d :=
  ⟨hx0,(iR _ _).trans ((iR _ _).mono (by simp)) |> aH (World.alloc_heap_new _ _),aH (by have:=World.alloc_heap_new (w.alloc (.cells #[.int .i64 a.k,.slice p a.n c,.int .i64 a.r] 30)) (.cells #[.int .i64 b.k,.slice q b.n d,.int .i64 b.r] 30);simpa[eY] using this) (iR _ _),by have:=z0 ((w.alloc (.cells #[.int .i64 a.k,.slice p a.n c,.int .i64 a.r] 30)).alloc (.cells #[.int .i64 b.k,.slice q b.n d,.int .i64 b.r] 30));simpa using this⟩
 have HP:=Lib.hid P0;clear hx0 z0 P0;refine (callsIn_wide (n:=6)).1 ?_;refine callsIn_of_wp_marks Tryz.func32 rfl trivial ?_ rfl;refine wpIn_wide.2 ?_;simp only[Tryz.ntmps32,List.size_toArray,List.length_cons,List.length_nil,Nat.reduceAdd,Nat.reduceSub,Array.replicate_succ,Array.replicate_zero,List.push_toArray,List.append_toArray,List.nil_append,List.cons_append];go_wp2_with fail;go_step3;go_wp2_with fail;refine (C1.out _ HP.out.ex).mono ?_;rintro e W1 ⟨rfl,hx1⟩;rw[b1];have P1:=Lib.hid (HP.out.step hx1);clear hx1;obtain⟨⟨k0,k1,k2⟩,k3,k4,k5⟩:=P1.out.cells;have kz:=P1.out.sz;go_wp2_with fail
 refine (C2.out _ P1.out.ex).mono ?_;rintro e W2 ⟨rfl,hx2⟩;rw[b2];have P2:=Lib.hid (P1.out.step hx2);clear hx2 k0 k1 k2 k3 k4 k5 kz;obtain⟨⟨k0,k1,k2⟩,k3,k4,k5⟩:=P2.out.cells;have kz:=P2.out.sz;go_wp2_with fail;rename_i K1 HK1 K2 HK2;have FIN:=Lib.hid (λ(A:Act) (W:World) (m0:Bool) (B6:Nat) (hm:(m8 a b||m8 b a)=m0) hsz hd h2 h3 h4 h6 ps g6 hB6=>HK1 A W (rh (c':=D1) (by kernel_rfl) (a4E w W A a b p q c d B6 m0 HA.out HB.out NA.out NB.out hm hsz hd h2 h3 h4 h6 ps g6 hB6)));clear HK1;cases h3:m8 a b with
 | true =>
  rw[h3] at C3 FIN;refine (C3.out _ P2.out.ex).mono ?_;rintro e W3 ⟨rfl,hx3⟩;have P3:=Lib.hid (P2.out.step hx3);clear hx3 k0 k1 k2 k3 k4 k5 kz C1 C2 C3 C4;go_wp2;exact FIN.out _ _ true W3.heap.size rfl rfl rfl rfl rfl rfl rfl (P3.out.step (iR _ _)) (World.alloc_heap_new _ _) P3.out.sz
 | false =>
  rw[h3] at C3 FIN;refine (C3.out _ P2.out.ex).mono ?_;rintro e W3 ⟨rfl,hx3⟩;have P3:=Lib.hid (P2.out.step hx3);clear hx3 k0 k1 k2 k3 k4 k5 kz C1 C2 C3;obtain⟨⟨k0,k1,k2⟩,k3,k4,k5⟩:=P3.out.cells;have kz:=P3.out.sz;go_wp2_with fail;refine (C4.out _ P3.out.ex).mono ?_;rintro e W4 ⟨rfl,hx4⟩;have P4:=Lib.hid (P3.out.step hx4);clear hx4 k0 k1 k2 k3 k4 k5 kz C4;go_wp2;exact FIN.out _ _ (m8 b a) W4.heap.size rfl rfl rfl rfl rfl rfl rfl (P4.out.step (iR _ _)) (World.alloc_heap_new _ _) P4.out.sz
theorem ZU(a b:Sh):ae Tryz.prog 32 [bh a,bh b] (we (sF a b)):=by
 by_cases h:bD a≠0\/bD b≠0
 ·unfold sF;rw[if_pos h];exact ZV a b h
 ·unfold sF;rw[if_neg h];have h1:bD a=0:=Classical.not_not.1 λg=>h (.inl g)
  have h2:bD b=0:=Classical.not_not.1 λg=>h (.inr g)
  have:=ZW a b h1 h2;unfold uv at this;split at this
  ·rename_i hm;rw[if_pos hm];exact this
  ·rename_i hm;rw[if_neg hm];exact this
end
set_option maxHeartbeats 1000000
set_option maxRecDepth 100000
section
def cY(e:Nat->Ed):Nat->List Value
 | 0=>[]|n+1=>cY e n++eo (e n)
theorem GQ(e:Ed):(eo e).length=7:=rfl
theorem lS(e:Nat->Ed):∀n,(cY e n).length=n*7
 | 0=>rfl|n+1=>by rw[cY,List.length_append,lS e n,GQ,Nat.succ_mul]
theorem JZ(e:Nat->Ed):∀(n i t:Nat),i<n->t<7->(cY e n)[i*7+t]? = (eo (e i))[t]?
 | 0,_,_,h,_=>absurd h (Nat.not_lt_zero _)|n+1,i,t,h,ht=>by
  rw[cY];by_cases hi:i<n
  ·rw [List.getElem?_append_left (by rw [lS]; omega)];exact JZ e n i t hi ht
  ·obtain rfl : i = n := by omega
   rw[List.getElem?_append_right (by rw[lS];omega),lS];congr 1;omega
theorem S7(e:Nat->Ed):∀n,∀v∈cY e n,v.oneCell'=true
 | 0,v,h=>by cases h|n+1,v,h=>by
  rw[cY] at h;rcases List.mem_append.1 h with h|h
  ·exact S7 e n v h
  ·exact BI (e n) v h
theorem YX{w:World}{g o t:Nat}{e:Ed}{u:Value}(h:km w g o e)(hu:(eo e)[t]? = some u):w.cell? ⟨g,o+t,none⟩=some u:=by
 obtain⟨h0,h1,h2,h3,h4,h5,h6⟩:=h;have ht:t<7:=by have:=(List.getElem?_eq_some_iff.1 hu).1;simpa[eo] using this
 obtain rfl|rfl|rfl|rfl|rfl|rfl|rfl:t=0\/t=1\/t=2\/t=3\/t=4\/t=5\/t=6:=by omega
 all_goals (simp only[eo,List.getElem?_cons_succ,List.getElem?_cons_zero,Option.some.injEq] at hu;subst hu;assumption)
theorem a0r:(Tryz.prog.info? 108).map (λi=>(i.zero,i.size,i.bytes))=some (some (.agg #[.int .i64 0,.int .i64 0,.int .i64 0,.int .i64 0,.int .i64 0,.int .i64 0,.int .i64 0]),7,56):=by kernel_rfl
def LM(w:World)(e:Nat->Ed)(n:Nat)(v:Value)(w':World):Prop:=∃g c cur,v=.slice (some ⟨g,0,none⟩) n c/\w.heap.size<=g/\w'.heap[g]? = some (.cells cur 108)/\n<=c/\c<=maxLen/\cur.toList.take (n*7)=cY e n/\ac w w'
theorem Nr(n:Nat)(e:Nat->Ed)(p:Option Addr)(c:Nat)(w:World)(hR:jP w.heap.size w p n e)(h1:1<=n)(hn:n<=1000) :
  Calls Tryz.prog 61 #[.slice p n c] w λx w'=>∃v,x=.returned v/\LM w e n v w':=by
 obtain⟨b,o,rfl,hb,_⟩:=hR 0 (by omega);obtain⟨i,hi,hz0,hz1,hz2⟩:=info_parts a0r;have qT:∀(w:World) (a:Option Addr) (n c n' c':Nat),(binOp .eql 28 (.slice a n c) (.slice none n' c')).run Tryz.prog w=.ok (.bool a.isNone) w :=
  λw a n c n' c'=>Lib.run_eql_slice_nil w _ _ a n c n' c' Tryz.underlying28
 have hnews:∀j u,(cY e n)[j]? = some u->w.cell? ⟨b,o+j,none⟩=some u:=by
  intro j u hu;have hj:j<n*7:=by have:=(List.getElem?_eq_some_iff.1 hu).1;rwa [lS] at this
  obtain⟨g,o',hp,hg,hE⟩:=hR (j/7) (by omega);cases hp;have hd:j/7*7+j%7=j:=by omega
  rw[<- hd] at hu;rw[JZ e n _ _ (by omega) (by omega)] at hu;have:=YX hE hu;rw[Nat.add_assoc,hd] at this;exact this
 have HN:=Lib.hid hnews;have H1:=Lib.hid h1;have HR:=Lib.hid hR;clear hnews hR h1;go_enter Tryz.func61,Tryz.ntmps61;go_wp2_with (at_builtin;refine wpList_append_own _ rfl _ _ 28 rfl w.heap.size 108 i (.agg #[.int .i64 0,.int .i64 0,.int .i64 0,.int .i64 0,.int .i64 0,.int .i64 0,.int .i64 0]) 7 56 Tryz.underlying28 hi hz0 hz1 hz2 rfl (by decide) _ _ _ rfl (World.ownsRow_made w #[] 0 (Nat.le_refl _) (by decide) rfl) ⟨b,o,none⟩ n c (cY e n) rfl (lS e n) ?c2 (S7 e n) ?c3 ?c4 ?c5 ?_)
 case c2=>exact λj u hu=>by rw[u6];exact (cell_later ((Below.refl _ _).alloc (Nat.le_refl _) _) (HN.out j u hu))
 case c3=>unfold maxLen;omega
 case c4=>omega
 case c5=>simp
 intro v' w1 hown hgr _;obtain⟨_,⟨_,h0⟩|⟨g,cp,cur,rfl,hbg,hc,hcp,hmx,hsz,htk⟩⟩:=hown
 ·have:=H1.out;omega
 have fin:Hid (LM w e n (.slice (some ⟨g,0,none⟩) n cp) w1):=Lib.hid ⟨g,cp,cur,rfl,hbg,hc,by omega,hmx,by simpa using htk,((Below.refl _ _).alloc (Nat.le_refl _) _).grown hgr (by simp) (λk hk=>by simp[Value.ownBlock] at hk;omega)⟩;go_wp2;go_ret;exact⟨_,rfl,fin.out⟩
end
section
attribute [local go_sem] aL dz
def Iu(s:Sh)(x y t:Int)(m:Bool):Sh:=⟨s.k,s.n,λi=>vW (s.e i) x y (am t 4) m,s.r⟩
def fG(e f:Nat->Ed)(k i:Nat):Ed:=if i<k then f i else e i
theorem J0{e e':Nat->Ed}:∀ {n:Nat},(∀i,i<n->e i=e' i)->cY e n=cY e' n
 | 0,_=>rfl|n+1,h=>by rw[cY,cY,J0 λi hi=>h i (by omega),h n (by omega)]
theorem zO(e:Nat->Ed){k:Nat}:∀ {n:Nat},k<n->cY e n=cY e k++(eo (e k)++cY (λi=>e (k+1+i)) (n-k-1))
 | 0,h=>absurd h (Nat.not_lt_zero _)|n+1,h=>by
  by_cases hk:k=n
  ·subst hk;rw[show k+1-k-1=0 by omega];simp[cY]
  ·rw [show n + 1 - k - 1 = (n - k - 1) + 1 by omega, cY, cY, zO e (show k < n by omega), show k + 1 + (n - k - 1) = n by omega];simp only[List.append_assoc]
theorem a49(e:Nat->Ed){k n:Nat}(h:k<n)(sl:List Value):(cY e n++sl).take (k*7)=cY e k:=by
 rw[zO e h,List.append_assoc,<- lS e k,List.take_left]
theorem S9(e:Nat->Ed){k n:Nat}(h:k<n)(sl:List Value):((cY e n++sl).drop (k*7)).take 7=eo (e k):=by
 rw[zO e h,List.append_assoc,<- lS e k,List.drop_left,List.append_assoc];exact List.take_left' rfl
theorem a47(e f:Nat->Ed){k n:Nat}(h:k<n)(sl:List Value):(cY (fG e f k) n++sl).take (k*7)++(eo (f k)++(cY (fG e f k) n++sl).drop (k*7+(eo (f k)).length))=cY (fG e f (k+1)) n++sl:=by
 rw[a49 _ h,zO (fG e f (k+1)) h,zO (fG e f k) h,GQ];rw[show cY (fG e f (k+1)) k=cY (fG e f k) k from J0 λi hi=>by unfold fG;rw[if_pos (by omega),if_pos hi]];rw[show fG e f (k+1) k=f k by unfold fG;rw[if_pos (by omega)]];rw[show (λi=>fG e f (k+1) (k+1+i))=(λi=>fG e f k (k+1+i)) by funext i;unfold fG;rw[if_neg (by omega),if_neg (by omega)]];simp only[List.append_assoc];congr 2;rw[<- List.drop_drop,<- lS (fG e f k) k,List.drop_left];exact List.drop_left' rfl
theorem a48{W:World}{B i:Nat}{xs:Array Value}{T:TypeId}(v:Value)(h:W.heap[B]? = some (.cells xs T)):(W.setCell ⟨B,i,none⟩ v).heap[B]? = some (.cells (xs.setIfInBounds i v) T):=by
 have hB:=(Array.getElem?_eq_some_iff.1 h).1;have e:=(Array.getElem?_eq_some_iff.1 h).2;rw[Array.getElem?_eq_some_iff];refine⟨by simpa[World.setCell] using hB,?_⟩;simp only[World.setCell,Array.getElem_modify,if_true,e];simp
theorem wM{W:World}{B g i:Nat}(v:Value)(h:B≠g):(W.setCell ⟨B,i,none⟩ v).heap[g]? = W.heap[g]? := by
 simp[World.setCell,Array.getElem?_modify,h]
structure MI (w W:World) (s:Sh) (x y t:Int) (m:Bool) (f:Nat->Ed) (g cp:Nat) (sl:List Value) (k:Nat):Prop where
 ex:ac w W
 b2:W.heap[w.heap.size]? = some (.cells #[.int .i64 s.k,.slice (some ⟨g,0,none⟩) s.n cp,.int .i64 s.r] 30)
 b3:W.heap[w.heap.size+1]? = some (.cells #[.int .i64 x,.int .i64 y,.int .i64 t,.bool m] 74)
 b4:W.heap[w.heap.size+1+1]? = some (.cells #[.int .i64 0,.slice none 0 0,.int .i64 0] 30)
 bg:W.heap[g]? = some (.cells (cY (fG s.e f k) s.n++sl).toArray 108)
 lt:w.heap.size+1+1<g
theorem MI.ext{w W W':World}{s:Sh}{x y t:Int}{m:Bool}{f:Nat->Ed}{g cp:Nat}{sl:List Value}{k:Nat}(h:MI w W s x y t m f g cp sl k)(hx:ac W W'):MI w W' s x y t m f g cp sl k:=⟨ac.step h.ex hx,aH h.b2 hx,aH h.b3 hx,aH h.b4 hx,aH h.bg hx,h.lt⟩
theorem MI.cells{w W:World}{s:Sh}{x y t:Int}{m:Bool}{f:Nat->Ed}{g cp:Nat}{sl:List Value}{k:Nat}(h:MI w W s x y t m f g cp sl k):(W.cell? ⟨w.heap.size,0,none⟩=some (.int .i64 s.k)/\W.cell? ⟨w.heap.size,1,none⟩=some (.slice (some ⟨g,0,none⟩) s.n cp)/\W.cell? ⟨w.heap.size,2,none⟩=some (.int .i64 s.r)) /\
  W.cell? ⟨w.heap.size+1,0,none⟩=some (.int .i64 x)/\W.cell? ⟨w.heap.size+1,1,none⟩=some (.int .i64 y)/\W.cell? ⟨w.heap.size+1,2,none⟩=some (.int .i64 t)/\W.cell? ⟨w.heap.size+1,3,none⟩=some (.bool m):=by
 have e2:=h.b2;have e3:=h.b3;have c2:∀i,W.cell? ⟨w.heap.size,i,none⟩=(#[.int .i64 s.k,.slice (some ⟨g,0,none⟩) s.n cp,.int .i64 s.r]:Array Value)[i]? := λi=>by rw[cell_of_row _ _ _ _ _ _ e2]
 have c3:∀i,W.cell? ⟨w.heap.size+1,i,none⟩=(#[.int .i64 x,.int .i64 y,.int .i64 t,.bool m]:Array Value)[i]? := λi=>by rw[cell_of_row _ _ _ _ _ _ e3]
 exact⟨⟨(c2 0).trans rfl,(c2 1).trans rfl,(c2 2).trans rfl⟩,(c3 0).trans rfl,(c3 1).trans rfl,(c3 2).trans rfl,(c3 3).trans rfl⟩
theorem MI.edge{w W:World}{s:Sh}{x y t:Int}{m:Bool}{f:Nat->Ed}{g cp:Nat}{sl:List Value}{k:Nat}(h:MI w W s x y t m f g cp sl k)(hk:k<s.n):km W g (k*7) (s.e k):=by
 have key:∀j u,(eo (s.e k))[j]? = some u->W.cell? ⟨g,k*7+j,none⟩=some u:=λj u hu=>by
  have hj:j<7:=by have:=(List.getElem?_eq_some_iff.1 hu).1;simpa[eo] using this
  rw[cell_of_row _ _ _ _ _ _ h.bg];simp only[List.getElem?_toArray];rw[List.getElem?_append_left (by rw[lS];omega),JZ _ _ _ _ hk hj];unfold fG;rw[if_neg (Nat.lt_irrefl _)];exact hu
 exact⟨key 0 _ rfl,key 1 _ rfl,key 2 _ rfl,key 3 _ rfl,key 4 _ rfl,key 5 _ rfl,key 6 _ rfl⟩
end
end Go.Proofs.YtghemgdfmldoeaaGreat
