import Derived.Test.YtghemgdfmldoeaaGreatP39
import Derived.Test.YtghemgdfmldoeaaGreatP31
set_option linter.unusedVariables false
set_option linter.unusedSimpArgs false
namespace Go.Proofs.YtghemgdfmldoeaaGreat.K
open Go.RowKit
section
variable {P:Program} {ops:Array Oper} {S:World->Prop} {Q:Act->World->Prop} {o:Oper} {l:List Oper} {a:Act} {own:List Nat} {F:World->Prop} {C:Act->List Nat->(World->Prop)->Prop} {n:Nat} {D:List Deferred} {L:List (Nat×Value)}
theorem K_ev{d:Nat}{v:Value}(H:Kn a n D L)(h:∀b,Kn b n D ((d,v)::L)->C b own F)(hr:∀W,(execOp (tO L) o).run P W=.ok (.value v) W:=by intro W;kernel_rfl)
  (hi:sK L o=true:=by kernel_rfl) (hd:o.dst=some d:=by kernel_rfl) (hg:o.guard=none:=by kernel_rfl) (hn:d<n:=by decide):aW P ops S C o a own F :=
 aW.pure v (.inl ⟨jM hg,λW _=>by rw[H.ev hi];exact hr W⟩) (by rw[hd];exact h _ (H.put hn))
theorem K_ld{d x g j m:Nat}(t:TypeId){b:Bool}{T:TypeId}{fr:Nat×Nat}{cs:List Value}{v:Value}(H:Kn a n D L)(hx:L.lookup x=some (.pointer (some ⟨g,j,none⟩)))(hm:∀W,S W->W.heap[g]? = some (.cells cs.toArray T fr))(hl:j+m<=cs.length)(hv:dj b ((cs.drop j).take m)=v)
  (h:∀b,Kn b n D ((d,v)::L)->C b own F) (ho:o.op=.load t (.tmp x):=by kernel_rfl) (h1:bV P t=some m:=by kernel_rfl) (h2:jU P t=some b:=by kernel_rfl) (h4:b=false->m=1:=by simp)
  (hd:o.dst=some d:=by kernel_rfl) (hg:o.guard=none:=by kernel_rfl) (hn:d<n:=by decide):aW P ops S C o a own F:=by
 subst hv;refine aW.pure (dj b ((cs.drop j).take m)) (.inl ⟨jM hg,λW hW=>lF (m:=Instr.loadAt t (a.eval (.tmp x))) (by unfold execOp;rw[ho]) ?_⟩) (by rw[hd];exact h _ (H.put hn));rw[show a.eval (.tmp x)=_ from H.at_ x _ hx];simp only[Instr.loadAt,Instr.sureAddr,Sem.run_bind,Sem.run_pure,Result.andThen_ok];exact pG (hm W hW) h1 h2 hl h4
theorem K_al{d:Nat}(obj:Obj)(sv:Nat->Value)(H:Kn a n D L)(h:∀g b,g∉own->Kn b n D ((d,sv g)::L)->C b (g::own) (λw=>F w/\w.heap[g]? = some obj))(hr:∀W,(execOp (tO L) o).run P W=.ok (.value (sv W.heap.size)) (W.alloc obj):=by intro W;kernel_rfl)
  (hs:∀g,gq o g=sv g:=by intro g;kernel_rfl) (hk:av o=1:=by kernel_rfl)
  (hi:sK L o=true:=by kernel_rfl) (hd:o.dst=some d:=by kernel_rfl) (hg:o.guard=none:=by kernel_rfl) (hn:d<n:=by decide):aW P ops S C o a own F :=
 .flo hk (jM hg) obj (λW _=>by rw[H.ev hi,hs];exact hr W) λg hg' _=>by rw[hd,hs];exact h g _ hg' (H.put hn)
theorem K_ap{d s x:Nat}{u v:Value}(t:TypeId)(T:Value->World->Prop)(hm:∀v,dh (T v))(H:Kn a n D L)(hu:L.lookup s=some u)(hv:L.lookup x=some v)
  (hap:∀W,F W->∃z W',(Builtin.append_ #[t,t] o.type #[u,v]).run P W=.ok z W'/\ac W W'/\T z W')
  (h:∀z b,(∃W,F W/\T z W)->Kn b n D ((d,z)::L)->C b own (λw=>F w/\T z w)) (ho:o.op=.call { callee:=.builtin .append,args:=#[.tmp s,.tmp x],argTypes:=#[t,t] }:=by kernel_rfl) (hk:av o=2:=by kernel_rfl)
  (hd:o.dst=some d:=by kernel_rfl) (hg:o.guard=none:=by kernel_rfl) (hn:d<n:=by decide):aW P ops S C o a own F:=by
 refine .eff hk (jM hg) Value (λv=>v) T hm (λW hW=>?_) λz hz=>by rw[hd];exact h z _ hz (H.put hn)
 obtain⟨z,W',h1,h2,h3⟩:=hap W hW;refine kC (W:=W') (x:=z) ?_ ⟨z,rfl,h2,h3⟩;unfold execOp;simp only[ho,resolve,invoke,builtin,Sem.run_bind,Sem.run_pure,Result.andThen_ok,List.map_toArray,List.map_cons,List.map_nil,show a.eval (.tmp s)=_ from H.at_ s _ hu,show a.eval (.tmp x)=_ from H.at_ x _ hv,h1]
theorem K_st{x y g j m:Nat}(t:TypeId){U:TypeId}{u:Value}{old vs:List Value}(T:World->Prop)(hm:dh T)(hS:∀W,T W->S W)(H:Kn a n D L)(hx:L.lookup x=some (.pointer (some ⟨g,j,none⟩)))(hy:L.lookup y=some u)(hu:u.cells=vs.toArray)
  (hF:∀W,F W->W.heap[g]? = some (.cells old.toArray U)/\(fR g W (W.setRow g (old.take j++(vs++old.drop (j+vs.length))).toArray)->(W.setRow g (old.take j++(vs++old.drop (j+vs.length))).toArray).heap[g]? = some (.cells (old.take j++(vs++old.drop (j+vs.length))).toArray U)->T (W.setRow g (old.take j++(vs++old.drop (j+vs.length))).toArray)))
  (hl:vs.length=m) (hj:j+vs.length<=old.length) (h1:∀v∈vs,v.oneCell'=true)
  (h:C a own (λw=>T w/\∀g∈own,g<w.heap.size)) (ho:o.op=.store t (.tmp x) (.tmp y):=by kernel_rfl) (hz:bV P t=some m:=by kernel_rfl) (hk:av o=3:=by kernel_rfl)
  (hd:o.dst=none:=by kernel_rfl) (hg:o.guard=none:=by kernel_rfl):aW P ops S C o a own F:=by
 refine aW.sto hk (jM hg) Unit (λ_=>undef) (λ_=>T) (λ_=>hm) (λ_=>hS) (λW hW=>?_) λ_ _=>(by rw[hd,zr];exact h)
 obtain⟨k1,k2⟩:=hF W hW;obtain⟨o1,o2⟩:=lP (cs':=(old.take j++(vs++old.drop (j+vs.length))).toArray) k1;exact qw (W:=W.setRow g (old.take j++(vs++old.drop (j+vs.length))).toArray) (oQ ho (H.at_ x _ hx) k1 (by rw[show a.eval (.tmp y)=_ from H.at_ y _ hy];exact hu) hz hl hj h1) ⟨(),rfl,by rw[o1.size];exact Nat.le_refl _,k2 o1 o2⟩
end
end Go.Proofs.YtghemgdfmldoeaaGreat.K
namespace Go.Proofs.YtghemgdfmldoeaaGreat
open Go.RowKit
set_option maxHeartbeats 4000000
set_option maxRecDepth 100000
section
def bZ:FuncId:=14
noncomputable def kY(id:Nat):List Oper:=match bm bZ (2*id+1) with | .region _ ops _=>ops.toList|_=>[]
noncomputable def bA (id i : Nat) : Oper := ((kY id)[i]?).getD ⟨none, .move (.tmp 0), 0, "", #[], none⟩
def An:List It:=[g8,g8,g8,.k 0]
def a2e(a b c:Int):Option Mb:=some ⟨35,[.i a lim,.i b lim,.i c lim]⟩
def QG(p:Pnl)(a b c:Int):List (Option Mb):=[some ⟨43,lQ p⟩,a2e a b c,some ⟨43,An⟩]
def QC(p:Pnl)(a b c:Int):Ds:=⟨[(2,.eq (ak 0)),(3,.eq (ak 1)),(4,.eq (ak 2))],QG p a b c⟩
def a2y(p:Pnl)(a b c:Int)(x:Pnl):List (Option Mb):=QG p a b c++[some ⟨43,(ff x).l⟩]
def IM(p:Pnl)(a b c:Int):Ds:=⟨[(3,.eq (ak 1)),(4,.eq (ak 2)),(5,.eq (ak 3))],a2y p a b c p⟩
theorem a1o(p:Pnl):∀j,j<p.nc->(aX (p.c j)).all It.isN=true/\((aX (p.c j)).map It.n).sum=4:=λ_ _=>⟨rfl,rfl⟩
theorem a5T(p:Pnl):∀j,j<p.nt->(bY (p.t j)).all It.isN=true/\((bY (p.t j)).map It.n).sum=3:=λ_ _=>⟨rfl,rfl⟩
theorem a3I(p:Pnl):∀j,j<p.nm->(ptI (p.m j)).all It.isN=true/\((ptI (p.m j)).map It.n).sum=2:=λ_ _=>⟨rfl,rfl⟩
structure rA (p:Pnl):Prop where
 c:p.nc<=900
 t:p.nt<=900
 m:p.nm<=900
structure xm (P:Program) (t e:TypeId) (z:Nat):Prop where
 u:P.underlying t=some (.slice e)
 i:∃i zv,P.info? e=some i/\i.zero=some zv/\i.size=z/\zv.cells.size=z/\(∀v∈zv.cells.toList,nd v)/\i.bytes<=4096
 z:0<z
 e:e≠tE
def Ol(P:Program)(t e:TypeId)(z:Nat):Bool:=match P.underlying t,P.info? e with
 | some (.slice e'),some i=>(match i.zero with|some zv=>Nat.beq e' e&&Nat.beq i.size z&&Nat.beq zv.cells.size z&&(zv.cells.toList.all okV)&&Nat.ble i.bytes 4096&&Nat.blt 0 z&&!(e==tE)|none=>false)|_,_=>false
theorem GU{P:Program}{t e:TypeId}{z:Nat}(h:Ol P t e z=true):xm P t e z:=by
 unfold Ol at h;split at h
 ·rename_i e' i hu hi;split at h
  ·rename_i zv hz;simp only[Bool.and_eq_true,List.all_eq_true,Nat.beq_eq,Nat.ble_eq,Nat.blt_eq,Bool.not_eq_true',beq_eq_false_iff_ne] at h;obtain⟨⟨⟨⟨⟨⟨rfl,h2⟩,h3⟩,h4⟩,h5⟩,h6⟩,h7⟩:=h;exact⟨hu,⟨i,zv,hi,hz,h2,h3,λv hv=>(IY (h4 v hv)).1,h5⟩,h6,h7⟩
  ·cases h
 ·cases h
theorem Zb:xm Tryz.prog 39 74 4:=GU (by kernel_rfl)
theorem Zd:xm Tryz.prog 40 30 3:=GU (by kernel_rfl)
theorem Zc:xm Tryz.prog 41 24 2:=GU (by kernel_rfl)
theorem Fp{P:Program}{V w W:World}{t ty e:TypeId}{z m g0:Nat}{f:Nat->List It}{v2:Value}(he:xm P t e z)(hV:ac V w)(hx:ac w W)(h2:fU (aE V) V z m f v2)(hN:∀j,j<m->(f j).all It.isN=true/\((f j).map It.n).sum=z)(hm:m<=1000)(hg0:W.heap[g0]? = some (.cells #[] e))(hB:w.heap.size<=g0) :
  ∃u W',(Builtin.append_ #[t,t] ty #[.slice (some ⟨g0,0,none⟩) 0 0,v2]).run P W=.ok u W'/\ac W W'/\NL w.heap.size W' e z m f u:=by
 obtain⟨i,zv,hi,hz,hsz,hzc,hzn,hb⟩:=he.i;exact VH (P:=P) (B:=w.heap.size) (ty:=ty) he.u hi hz hsz hzc he.z hzn hb (ac.step hV hx) h2 hN hm hg0 hB hx.size he.e
theorem mP(p:Pnl)(a b c:Int)(hp:rA p):bJ Tryz.prog (bm bZ (2*1+1)) ⟨nF bZ,QC p a b c,.nm,IM p a b c⟩:=by
 intro V A w Q hJ hQ;obtain⟨r,cm,⟨hM,hd⟩,hsz,hT⟩:=hJ;have hn:A.tmps.size=170:=hsz.trans (by kernel_rfl);have e2:A.tmps.getD 2 undef=.pointer (some ⟨r 0,0,none⟩):=by have t:au V w r 3 (ak 0) (A.tmps.getD 2 undef):=hT 2 (.one (ak 0)) (by kernel_rfl);simpa using t.scal.2
 have t3:au V w r 3 (ak 1) (A.tmps.getD 3 undef):=hT 3 (.one (ak 1)) (by kernel_rfl);have e3:A.tmps.getD 3 undef=.pointer (some ⟨r 1,0,none⟩):=by simpa using t3.scal.2
 have t4:au V w r 3 (ak 2) (A.tmps.getD 4 undef):=hT 4 (.one (ak 2)) (by kernel_rfl);have e4:A.tmps.getD 4 undef=.pointer (some ⟨r 2,0,none⟩):=by simpa using t4.scal.2
 obtain⟨hh0,c0,dd0,hc0,⟨_,_,rfl,⟨v1,rfl,h1⟩,_,_,rfl,⟨v2,rfl,h2⟩,_,_,rfl,⟨v3,rfl,h3⟩,_,_,rfl,⟨rfl,_,i4⟩,rfl⟩,_⟩:=hM.blk 0 ⟨43,lQ p⟩ (by kernel_rfl);have hh:w.heap[r 0]? = some (.cells (v1::v2::v3::.int .i64 p.r::dd0).toArray 43):=by rw[hh0,hc0];rfl
 have H0:Kn A 170 [] [(2,.pointer (some ⟨r 0,0,none⟩)),(3,.pointer (some ⟨r 1,0,none⟩)),(4,.pointer (some ⟨r 2,0,none⟩))]:=⟨hn,hd,λx v h=>by
  simp only[List.lookup_cons,List.lookup_nil] at h;split at h
  ·rename_i e; obtain rfl : x = 2 := by simpa using e
   cases h;exact e2
  split at h
  ·rename_i e; obtain rfl : x = 3 := by simpa using e
   cases h;exact e3
  split at h
  ·rename_i e; obtain rfl : x = 4 := by simpa using e
   cases h;exact e4
  ·cases h⟩
 refine rh (c':=Code.region 1 (kY 1).toArray true) (by kernel_rfl) ?_;refine K.wp_region_F (λW=>ac w W) (by kernel_rfl) (by kernel_rfl) (λW W' h hb=>ac.step h hb) (λW h=>h.size) (Below.refl _ _) ?_;rw[show kY 1=[bA 1 0,bA 1 1,bA 1 2,bA 1 3,bA 1 4,bA 1 5,bA 1 6,bA 1 7,bA 1 8,bA 1 9,bA 1 10,bA 1 11,bA 1 12,bA 1 13,bA 1 14,bA 1 15,bA 1 16] by kernel_rfl];refine K.K_al (d:=10) (.cells #[] 74) (λg=>.slice (some ⟨g,0,none⟩) 0 0) H0 λg1 b1 n1 H1=>?_
 have l1:w.heap.size<=g1:=Nat.le_of_not_lt λh=>n1 (List.mem_range.2 h)
 refine K.K_ev (d:=11) (v:=.pointer (some ⟨r 0,0,none⟩)) H1 λb2 H2=>?_
 refine K.K_ld (d:=12) (x:=11) 39 (m:=1) (b:=false) (v:=v1) H2 rfl (λW hW=>aH hh hW) (by simp) rfl λb3 H3=>?_
 refine K.K_ap (d:=13) (s:=10) (x:=12) 39 (λu W=>NL w.heap.size W 74 4 p.nc (λi=>aX (p.c i)) u) (λu W W' h hb=>h.ext hb) H3 rfl rfl (λW hW=>?_) λu1 b4 ex1 H4=>?_
 ·exact Fp Zb hM.ext hW.1 h1 (a1o p) (by have:=hp.c;omega) hW.2 l1
 refine K.K_al (d:=14) (.cells #[] 30) (λg=>.slice (some ⟨g,0,none⟩) 0 0) H4 λg2 b5 n2 H5=>?_
 have l2:w.heap.size<=g2:=Nat.le_of_not_lt λh=>n2 (List.mem_cons_of_mem _ (List.mem_range.2 h))
 refine K.K_ev (d:=15) (v:=.pointer (some ⟨r 0,1,none⟩)) H5 λb6 H6=>?_
 refine K.K_ld (d:=16) (x:=15) 40 (m:=1) (b:=false) (v:=v2) H6 rfl (λW hW=>aH hh hW) (by simp) rfl λb7 H7=>?_
 refine K.K_ap (d:=17) (s:=14) (x:=16) 40 (λu W=>NL w.heap.size W 30 3 p.nt (λi=>bY (p.t i)) u) (λu W W' h hb=>h.ext hb) H7 rfl rfl (λW hW=>?_) λu2 b8 ex2 H8=>?_
 ·exact Fp Zd hM.ext hW.1.1.1 h2 (a5T p) (by have:=hp.t;omega) hW.2 l2
 refine K.K_al (d:=18) (.cells #[] 24) (λg=>.slice (some ⟨g,0,none⟩) 0 0) H8 λg3 b9 n3 H9=>?_
 have l3:w.heap.size<=g3:=Nat.le_of_not_lt λh=>n3 (List.mem_cons_of_mem _ (List.mem_cons_of_mem _ (List.mem_range.2 h)))
 refine K.K_ev (d:=19) (v:=.pointer (some ⟨r 0,2,none⟩)) H9 λb10 H10=>?_
 refine K.K_ld (d:=20) (x:=19) 41 (m:=1) (b:=false) (v:=v3) H10 rfl (λW hW=>aH hh hW) (by simp) rfl λb11 H11=>?_
 refine K.K_ap (d:=21) (s:=18) (x:=20) 41 (λu W=>NL w.heap.size W 24 2 p.nm (λi=>ptI (p.m i)) u) (λu W W' h hb=>h.ext hb) H11 rfl rfl (λW hW=>?_) λu3 b12 ex3 H12=>?_
 ·exact Fp Zc hM.ext hW.1.1.1.1.1 h3 (a3I p) (by have:=hp.m;omega) hW.2 l3
 obtain⟨⟨q1,d1,rfl⟩,⟨q2,d2,rfl⟩,q3,d3,rfl⟩:(∃q d,u1=.slice (some ⟨q,0,none⟩) p.nc d)/\(∃q d,u2=.slice (some ⟨q,0,none⟩) p.nt d)/\∃q d,u3=.slice (some ⟨q,0,none⟩) p.nm d:=by
  obtain⟨W0,h⟩:=ex3;exact⟨h.1.1.1.1.2.sl,h.1.1.2.sl,h.2.sl⟩
 refine K.K_ev (d:=22) (v:=.pointer (some ⟨r 0,3,none⟩)) H12 λb13 H13=>?_
 refine K.K_ld (d:=23) (x:=22) 3 (m:=1) (b:=false) (v:=.int .i64 p.r) H13 rfl (λW hW=>aH hh hW) (by simp) rfl λb14 H14=>?_
 refine K.K_ev (d:=24) (v:=.agg #[.slice (some ⟨q1,0,none⟩) p.nc d1,.slice (some ⟨q2,0,none⟩) p.nt d2,.slice (some ⟨q3,0,none⟩) p.nm d3,.int .i64 p.r]) H14 λb16 H16=>?_
 refine K.K_al (d:=5) (.cells #[.slice none 0 0,.slice none 0 0,.slice none 0 0,.int .i64 0] 43) (λg=>.pointer (some ⟨g,0,none⟩)) H16 λg5 b15 n5 H15=>?_
 have l5:w.heap.size<=g5:=Nat.le_of_not_lt λh=>n5 (List.mem_cons_of_mem _ (List.mem_cons_of_mem _ (List.mem_cons_of_mem _ (List.mem_range.2 h))))
 refine K.K_st (x:=5) (y:=24) (g:=g5) (j:=0) 43 (U:=43) (old:=[.slice none 0 0,.slice none 0 0,.slice none 0 0,.int .i64 0]) (vs:=[.slice (some ⟨q1,0,none⟩) p.nc d1,.slice (some ⟨q2,0,none⟩) p.nt d2,.slice (some ⟨q3,0,none⟩) p.nm d3,.int .i64 p.r])
  (λW=>(((ac w W/\NL w.heap.size W 74 4 p.nc (λi=>aX (p.c i)) (.slice (some ⟨q1,0,none⟩) p.nc d1))/\NL w.heap.size W 30 3 p.nt (λi=>bY (p.t i)) (.slice (some ⟨q2,0,none⟩) p.nt d2))/\NL w.heap.size W 24 2 p.nm (λi=>ptI (p.m i)) (.slice (some ⟨q3,0,none⟩) p.nm d3))/\W.heap[g5]? = some (.cells [.slice (some ⟨q1,0,none⟩) p.nc d1,.slice (some ⟨q2,0,none⟩) p.nt d2,.slice (some ⟨q3,0,none⟩) p.nm d3,.int .i64 p.r].toArray 43))
  (λW W' h hb=>⟨⟨⟨⟨ac.step h.1.1.1.1 hb,h.1.1.1.2.ext hb⟩,h.1.1.2.ext hb⟩,h.1.2.ext hb⟩,aH h.2 hb⟩) (λ_ h=>h.1.1.1.1) H15 rfl rfl rfl (λW hW=>⟨hW.2,λho h2=>?_⟩) rfl (by simp) (by simp[Value.oneCell']) ?_
 ·obtain ⟨⟨⟨⟨⟨⟨⟨x1, _⟩, N1⟩, _⟩, N2⟩, _⟩, N3⟩, hg⟩ := hW;have hnd:∀v ∈ [Value.slice none 0 0,.slice none 0 0,.slice none 0 0,.int .i64 0],nd v:=by
   intro v hv;simp only[List.mem_cons,List.not_mem_nil,or_false] at hv;rcases hv with rfl|rfl|rfl|rfl<;>exact λz e=>nomatch e
  exact⟨⟨⟨⟨x1.trans (ho.below l5),N1.only ho hg hnd (by decide) (by decide)⟩,N2.only ho hg hnd (by decide) (by decide)⟩,N3.only ho hg hnd (by decide) (by decide)⟩,h2⟩
 rintro W ⟨⟨⟨⟨⟨x1,N1⟩,N2⟩,N3⟩,hg⟩,_⟩;have hr:∀T:TypeId,43≠T->∀b,b<4->up r 3 g5 b<w.heap.size\/∃ys U,W.heap[up r 3 g5 b]? = some (.cells ys U)/\U≠T:=λT hT b hb=>by
  rcases Nat.lt_or_ge b 3 with h|h
  ·rw[ge h];exact .inl (hM.bd b h)
  ·obtain rfl : b = 3 := by omega
   rw[lk];exact .inr ⟨_,_,hg,hT⟩
 have hM2:=hM.new (T:=43) (l:=(ff p).l) (ac.step hM.ext x1) x1.size (λb x hb=>x1.block _ (Array.getElem?_eq_some_iff.1 (hM.blk b x hb).1).1) (λ_ _ _ i _=>u7 x1 l5 i) hg
  (aA.pre ⟨[_],_,rfl,⟨_,rfl,N1.ol hM.ext.size (hr _ (by decide))⟩,[_],_,rfl,⟨_,rfl,N2.ol hM.ext.size (hr _ (by decide))⟩,[_],_,rfl,⟨_,rfl,N3.ol hM.ext.size (hr _ (by decide))⟩,[_],[],rfl,⟨rfl,aQ i4,i4⟩,rfl⟩) (Nat.le_trans hM.ext.size l5)
  (λb x hb e=>by have:=(Array.getElem?_eq_some_iff.1 (hM.blk b x hb).1).1;omega)
 refine hQ _ _ ⟨up r 3 g5,cz cm 3 _,⟨hM2,H15.df⟩,H15.sz.trans (by kernel_rfl),λi v hv=>?_⟩;rcases Tr.sets_get (Tm.get_lt hv).2 with rfl|⟨x,hx',rfl⟩
 ·trivial
 ·simp only [IM, List.mem_cons, List.not_mem_nil, or_false, Prod.mk.injEq] at hx';rcases hx' with⟨rfl,rfl⟩|⟨rfl,rfl⟩|⟨rfl,rfl⟩
  ·rw[H15.at_ 3 _ rfl];exact af.val (i:=.p 1 0) ⟨show 1<4 by decide,by rw[ge (by decide)]⟩
  ·rw[H15.at_ 4 _ rfl];exact af.val (i:=.p 2 0) ⟨show 2<4 by decide,by rw[ge (by decide)]⟩
  ·rw[H15.at_ 5 _ rfl];exact af.val (i:=.p 3 0) ⟨show 3<4 by decide,by rw[lk]⟩
end
set_option maxRecDepth 100000
section
theorem UQ(z:Int):I64 (IntKind.i64.wrap z):=by
 rw[IntKind.wrap_i64];unfold I64;omega
theorem a1K(b:Bool):∀z,Value.bool b ≠ .int .u32 z:=λ_ e=>nomatch e
theorem Iz(y:Int):∀z,Value.int .i64 y ≠ .int .u32 z:=λ_ e=>nomatch e
theorem a5b{W w:World}{z n i j:Nat}{f:Nat->List It}{l':List It}{xs:List Value}{u:Value}(hz:j<z)(hrow:∀q,q<n->∃cs d,xs.drop (q*z)=cs++d/\cs.length=z/\cE w (f q) cs)(hm:∀l cs,cE w l cs->cE W l cs)(hnew:∀cs,cE w (f i) cs->cE W l' (cs.set j u)):∀q,q<n->∃cs d,(xs.set (i*z+j) u).drop (q*z)=cs++d/\cs.length=z/\cE W (if q=i then l' else f q) cs:=by
 intro q hq;obtain⟨cs,d,e1,e2,e3⟩:=hrow q hq;rcases Nat.lt_trichotomy q i with h|h|h
 ·have := Nat.mul_le_mul_right z (show q + 1 <= i from h);rw[Nat.succ_mul] at this;rw[List.drop_set,if_neg (by omega),e1,List.set_append_right _ _ (by omega)];exact⟨cs,_,rfl,e2,by rw[if_neg (by omega)];exact hm _ _ e3⟩
 ·subst h;rw[List.drop_set,if_neg (by omega),Nat.add_sub_cancel_left,e1,List.set_append_left _ _ (by omega)];exact⟨cs.set j u,d,rfl,by rw[List.length_set,e2],by rw[if_pos rfl];exact hnew _ e3⟩
 ·have := Nat.mul_le_mul_right z (show i + 1 <= q from h);rw[Nat.succ_mul] at this;rw[List.drop_set,if_pos (by omega)];exact⟨cs,d,e1,e2,by rw[if_neg (by omega)];exact hm _ _ e3⟩
theorem a5O{xs:List Value}{p:Nat}{u:Value}(h:p<xs.length):xs.take p++([u]++xs.drop (p+[u].length))=xs.set p u:=by
 rw[List.set_eq_take_append_cons_drop,if_pos h];rfl
def uu(x:Pnl):List (Option Mb):=[none,none,some ⟨43,An⟩,some ⟨43,(ff x).l⟩]
def nO(n k:Int)(x:Pnl):Ds:=⟨[(4,.eq (ak 2)),(5,.eq (ak 3)),(6,.le (aj n lim)),(7,.le (aj k lim))],uu x⟩
def iI(x:Pnl):Ds:=⟨[(4,.eq (ak 2)),(5,.eq (ak 3))],uu x⟩
def QE(r2 r3:Nat)(n k:Int):List (Nat×Value):=[(4,.pointer (some ⟨r2,0,none⟩)),(5,.pointer (some ⟨r3,0,none⟩)),(6,.int .i64 n),(7,.int .i64 k)]
structure EY (V w:World) (r:Nat->Nat) (cm:Nat->List Value) (A:Act) (n k:Int) (x:Pnl) (u1 u2 u3:Value) (dd:List Value):Prop where
 kn:Kn A 170 [] (QE (r 2) (r 3) n k)
 hM:RM V r cm (uu x) w
 hn:I64 n
 hr:I64 x.r
 h3:w.heap[r 3]? = some (.cells (u1::u2::u3::.int .i64 x.r::dd).toArray 43)
 c3:cm 3=u1::u2::u3::.int .i64 x.r::dd
 hd:∀v∈dd,nd v
 o1:eb V w r 4 74 4 x.nc (λi=>aX (x.c i)) u1
 o2:eb V w r 4 30 3 x.nt (λi=>bY (x.t i)) u2
 o3:eb V w r 4 24 2 x.nm (λi=>ptI (x.m i)) u3
theorem zc{V w:World}{A:Act}{n k:Int}{x:Pnl}(hJ:JJ V (bI (nF bZ) (nO n k x)) A w):∃r cm u1 u2 u3 dd,EY V w r cm A n k x u1 u2 u3 dd:=by
 obtain⟨r,cm,⟨hM,hd⟩,hsz,hT⟩:=hJ;have hn:A.tmps.size=170:=hsz.trans (by kernel_rfl);have e4:A.tmps.getD 4 undef=.pointer (some ⟨r 2,0,none⟩):=by have t:au V w r 4 (ak 2) (A.tmps.getD 4 undef):=hT 4 (.one (ak 2)) (by kernel_rfl);simpa using t.scal.2
 have e5:A.tmps.getD 5 undef=.pointer (some ⟨r 3,0,none⟩):=by have t:au V w r 4 (ak 3) (A.tmps.getD 5 undef):=hT 5 (.one (ak 3)) (by kernel_rfl);simpa using t.scal.2
 have t6:au V w r 4 (aj n lim) (A.tmps.getD 6 undef):=hT 6 (.one (aj n lim)) (by kernel_rfl);have t7:au V w r 4 (aj k lim) (A.tmps.getD 7 undef):=hT 7 (.one (aj k lim)) (by kernel_rfl);obtain⟨hh0,c0,dd0,hc0,⟨_,_,rfl,⟨v1,rfl,h1⟩,_,_,rfl,⟨v2,rfl,h2⟩,_,_,rfl,⟨v3,rfl,h3⟩,_,_,rfl,⟨rfl,_,i4⟩,rfl⟩,hdd⟩:=hM.blk 3 ⟨43,(ff x).l⟩ (by kernel_rfl);have hc:cm 3=v1::v2::v3::.int .i64 x.r::dd0:=by rw[hc0];rfl
 refine⟨r,cm,v1,v2,v3,dd0,⟨⟨hn,hd,λy v h=>?_⟩,hM,(dL.1 t6).1.2,i4,by rw[hh0,hc],hc,hdd,h1,h2,h3⟩⟩;simp only[QE,List.lookup_cons,List.lookup_nil] at h;split at h
 ·rename_i e; obtain rfl : y = 4 := by simpa using e
  cases h;exact e4
 split at h
 ·rename_i e; obtain rfl : y = 5 := by simpa using e
  cases h;exact e5
 split at h
 ·rename_i e; obtain rfl : y = 6 := by simpa using e
  cases h;exact (dL.1 t6).2
 split at h
 ·rename_i e; obtain rfl : y = 7 := by simpa using e
  cases h;exact (dL.1 t7).2
 ·cases h
section
variable {V w W:World} {r:Nat->Nat} {cm:Nat->List Value} {A:Act} {n k:Int} {x:Pnl} {u1 u2 u3:Value} {dd:List Value}
theorem Ci{x:Pnl}{b:Nat}{y:Mb}(h:mb (uu x) b=some y):b=2/\y=⟨43,An⟩\/b=3/\y=⟨43,(ff x).l⟩:=by
 rw[cf] at h;unfold uu at h;match b,h with|0,h=>simp at h|1,h=>simp at h|2,h=>simp at h;exact .inl ⟨rfl,h.symm⟩|3,h=>simp at h;exact .inr ⟨rfl,h.symm⟩|b+4,h=>simp at h
theorem a7m{i:It}(h:i∈An):i=g8\/i=.k 0:=by
 simp only[An,List.mem_cons,List.not_mem_nil,or_false] at h;rcases h with h|h|h|h<;>simp[h]
theorem QF(s:EY V w r cm A n k x u1 u2 u3 dd){x':Pnl}{u1':Value}{b:Act}{L:List (Nat×Value)}(hb:Kn b 170 [] L)(h4:L.lookup 4=some (.pointer (some ⟨r 2,0,none⟩)))(h5:L.lookup 5=some (.pointer (some ⟨r 3,0,none⟩)))
  (hx:ac V W) (hs:w.heap.size<=W.heap.size) (h2:W.heap[r 2]? = w.heap[r 2]?) (h3:W.heap[r 3]? = some (.cells (u1'::u2::u3::.int .i64 x.r::dd).toArray 43)) (o1:eb V W r 4 74 4 x'.nc (λi=>aX (x'.c i)) u1') (o2:eb V W r 4 30 3 x'.nt (λi=>bY (x'.t i)) u2) (o3:eb V W r 4 24 2 x'.nm (λi=>ptI (x'.m i)) u3) (hr:x'.r=x.r) :
  JJ V (bI (nF bZ) (iI x')) b W:=by
 have hM:=s.hM;refine⟨r,λb=>if b=3 then u1'::u2::u3::.int .i64 x.r::dd else cm b,⟨⟨hx,λb y hy=>?_,λb y hy=>?_,λb c y z hy hz e=>?_,λb hb=>Nat.lt_of_lt_of_le (hM.bd b hb) hs⟩,hb.df⟩,hb.sz.trans (by kernel_rfl),λi v hv=>?_⟩
 ·rcases Ci hy with ⟨rfl, rfl⟩ | ⟨rfl, rfl⟩
  ·obtain ⟨q1, q2⟩ := hM.blk 2 _ rfl;refine⟨by rw[h2];exact q1,?_⟩;rw[if_neg (by decide)];refine q2.impM λi hi cs h=>?_
   rcases a7m hi with rfl|rfl
   ·exact h
   ·exact h
  ·refine ⟨by rw [if_pos rfl]; exact h3, ?_⟩;rw[if_pos rfl];exact⟨[u1',u2,u3,.int .i64 x.r],dd,rfl,⟨[_],_,rfl,⟨_,rfl,o1⟩,[_],_,rfl,⟨_,rfl,o2⟩,[_],_,rfl,⟨_,rfl,o3⟩,[_],[],rfl,⟨by rw[hr],by rw[hr];exact aQ s.hr,by rw[hr];exact s.hr⟩,rfl⟩,s.hd⟩
 ·rcases Ci hy with ⟨rfl, rfl⟩ | ⟨rfl, rfl⟩
  ·exact hM.lo 2 _ rfl
  ·exact hM.lo 3 _ rfl
 ·rcases Ci hy with ⟨rfl, rfl⟩ | ⟨rfl, rfl⟩ <;> rcases Ci hz with ⟨rfl, rfl⟩ | ⟨rfl, rfl⟩
  ·rfl
  ·exact hM.inj 2 3 _ _ rfl rfl e
  ·exact hM.inj 3 2 _ _ rfl rfl e
  ·rfl
 ·rcases Tr.sets_get (Tm.get_lt hv).2 with rfl | ⟨y, hy', rfl⟩
  ·trivial
  ·simp only [iI, List.mem_cons, List.not_mem_nil, or_false, Prod.mk.injEq] at hy';rcases hy' with⟨rfl,rfl⟩|⟨rfl,rfl⟩
   ·rw[hb.at_ 4 _ h4];exact af.val (i:=.p 2 0) ⟨show 2<4 by decide,rfl⟩
   ·rw[hb.at_ 5 _ h5];exact af.val (i:=.p 3 0) ⟨show 3<4 by decide,rfl⟩
def ja(x:Pnl)(k:Nat)(m:bG):Pnl:={ x with c:=λi=>if i=k then m else x.c i }
theorem CQ(hk:0<=k/\k<x.nc)(s:EY V w r cm A n k x u1 u2 u3 dd):∃g c,∃xs:List Value,u1=.slice (some ⟨g,0,none⟩) x.nc c/\w.heap[g]? = some (.cells xs.toArray 74)/\k.toNat*4+4<=xs.length/\(∃d,xs.drop (k.toNat*4)=[.int .i64 (x.c k.toNat).x,.int .i64 (x.c k.toNat).y,.int .i64 (x.c k.toNat).t,.bool (x.c k.toNat).m]++d)/\I64 (x.c k.toNat).x/\I64 (x.c k.toNat).y/\I64 (x.c k.toNat).t/\(∀b,b<4->r b≠g) /\
  ∀(j:Nat) (u:Value) (m:bG) (W0 W:World) (b:Act) (L:List (Nat×Value)),ac w W0->j<4->(∀z,u ≠ .int .u32 z)->(∀cs,cE W0 (aX (x.c k.toNat)) cs->cE W (aX m) (cs.set j u))->fR g W0 W->W.heap[g]? = some (.cells (xs.take (k.toNat*4+j)++([u]++xs.drop (k.toNat*4+j+[u].length))).toArray 74) ->
   Kn b 170 [] L->L.lookup 4=some (.pointer (some ⟨r 2,0,none⟩))->L.lookup 5=some (.pointer (some ⟨r 3,0,none⟩))->JJ V (bI (nF bZ) (iI (ja x k.toNat m))) b W:=by
 have hkn:k.toNat<x.nc:=by omega
 rcases s.o1 with⟨_,h0⟩|⟨g,c,xs,rfl,⟨h1,h2⟩,h3,h4,h5,h6,h7,h8⟩
 ·omega
 have hlen:k.toNat*4+4<=xs.toList.length:=by
  have:=Nat.mul_le_mul_right 4 (show k.toNat+1<=c by omega);rw[Array.length_toList,h6];omega
 obtain⟨cs,d,e1,e2,e3⟩:=h8 k.toNat hkn;have e4:=e3;obtain⟨_,_,rfl,⟨rfl,_,i1⟩,_,_,rfl,⟨rfl,_,i2⟩,_,_,rfl,⟨rfl,_,i3⟩,_,_,rfl,⟨rfl,_⟩,rfl⟩:=e3;refine⟨g,c,xs.toList,rfl,by simpa using h3,hlen,⟨d,e1⟩,i1,i2,i3,h2,λj u m W0 W b L hx hj hu hnew ho hW hb l4 l5=>?_⟩;rw[a5O (by omega)] at hW;have hxs:W0.heap[g]? = some (.cells xs.toList.toArray 74):=by simpa using aH h3 hx
 have tM:(74:TypeId)≠tE:=by decide
 have dat:∀(D:Dat) cs,D.R w cs->D.R W cs:=λD cs h=>Dat.keep hxs h7 ho (.inr tM) (Dat.ext hx h)
 refine QF s (x':=ja x k.toNat m) hb l4 l5 ((ac.step s.hM.ext hx).trans (ho.below h1)) (by rw[ho.size];exact hx.size) ((ho.block _ (h2 2 (by decide))).trans (hx.block _ (s.hM.bd 2 (show 2<4 by decide)))) (by rw[ho.block _ (h2 3 (by decide))];exact aH s.h3 hx) ?_ ((s.o2.fr (Fr.ext hx)).only ho hxs h7 (by decide) tM) ((s.o3.fr (Fr.ext hx)).only ho hxs h7 (by decide) tM) rfl;refine .inr ⟨g,c,_,rfl,⟨h1,h2⟩,hW,h4,h5,by simp[h6],λv hv=>?_,?_⟩
 ·rcases List.mem_or_eq_of_mem_set (by simpa using hv) with h | h
  ·exact h7 v h
  ·subst h;exact hu
 ·have := a5b (W := W) (i := k.toNat) (l' := aX m) (u := u) hj h8 (λl cs h => h.mono dat) λcs h => hnew cs (h.mono λD cs h => Dat.ext hx h)
  intro q hq;obtain⟨cs,d,a1,a2,a3⟩:=this q hq;refine⟨cs,d,by simpa using a1,a2,?_⟩;show cE W (aX (if q=k.toNat then m else x.c q)) cs;split
  ·rename_i e;rw[if_pos e] at a3;exact a3
  ·rename_i e;rw[if_neg e] at a3;exact a3
end
theorem Qe{w W:World}{m:bG}{z:Int}(hz:I64 z){cs:List Value}(h:cE w (aX m) cs):cE W (aX { m with x:=z }) (cs.set 0 (.int .i64 z)):=by
 obtain⟨_,_,rfl,⟨rfl,_,i1⟩,_,_,rfl,⟨rfl,_,i2⟩,_,_,rfl,⟨rfl,_,i3⟩,_,_,rfl,⟨rfl,hb⟩,rfl⟩:=h;exact⟨[_],_,rfl,⟨rfl,aQ hz,hz⟩,[_],_,rfl,⟨rfl,aQ i2,i2⟩,[_],_,rfl,⟨rfl,aQ i3,i3⟩,[_],[],rfl,⟨rfl,hb⟩,rfl⟩
theorem a1r{w W:World}{m:bG}{z:Int}(hz:I64 z){cs:List Value}(h:cE w (aX m) cs):cE W (aX { m with t:=z }) (cs.set 2 (.int .i64 z)):=by
 obtain⟨_,_,rfl,⟨rfl,_,i1⟩,_,_,rfl,⟨rfl,_,i2⟩,_,_,rfl,⟨rfl,_,i3⟩,_,_,rfl,⟨rfl,hb⟩,rfl⟩:=h;exact⟨[_],_,rfl,⟨rfl,aQ i1,i1⟩,[_],_,rfl,⟨rfl,aQ i2,i2⟩,[_],_,rfl,⟨rfl,aQ hz,hz⟩,[_],[],rfl,⟨rfl,hb⟩,rfl⟩
theorem a1q{w W:World}{m:bG}{z:Bool}{cs:List Value}(h:cE w (aX m) cs):cE W (aX { m with m:=z }) (cs.set 3 (.bool z)):=by
 obtain⟨_,_,rfl,⟨rfl,_,i1⟩,_,_,rfl,⟨rfl,_,i2⟩,_,_,rfl,⟨rfl,_,i3⟩,_,_,rfl,⟨rfl,hb⟩,rfl⟩:=h;exact⟨[_],_,rfl,⟨rfl,aQ i1,i1⟩,[_],_,rfl,⟨rfl,aQ i2,i2⟩,[_],_,rfl,⟨rfl,aQ i3,i3⟩,[_],[],rfl,⟨rfl,rfl⟩,rfl⟩
section
variable (n k:Int) (x:Pnl) (hk:0<=k/\k<x.nc)
include hk
theorem a2j:bJ Tryz.prog (bm bZ (2*8+1)) ⟨nF bZ,nO n k x,.nm,iI (ja x k.toNat { x.c k.toNat with m:=true })⟩:=by
 intro V A w Q hJ hQ;obtain⟨r,cm,u1,u2,u3,dd,s⟩:=zc hJ;obtain⟨g,c,xs,rfl,hg,hl,_,_,_,_,_,fin⟩:=CQ hk s;refine rh (c':=Code.region 8 (kY 8).toArray false) (by kernel_rfl) (DX ?_);rw[show kY 8=[bA 8 0,bA 8 1,bA 8 2,bA 8 3,bA 8 4,bA 8 5] by kernel_rfl];refine jS (d:=45) (v:=.pointer (some ⟨r 3,0,none⟩)) s.kn λb1 H1=>?_
 refine AC (d:=46) (x:=45) 39 (m:=1) (b:=false) H1 rfl s.h3 (by simp) rfl λb2 H2=>?_
 refine jS (d:=47) (v:=.int .i64 k) H2 λb3 H3=>?_
 refine E5 (d:=48) (s:=46) (x:=47) (z:=4) 39 74 H3 rfl rfl hk λb4 H4=>?_
 refine jS (d:=49) (v:=.pointer (some ⟨g,0+k.toNat*4+3,none⟩)) H4 λb5 H5=>?_
 refine Vo (x:=49) (g:=g) 4 (u:=.bool true) (vs:=[.bool true]) H5 rfl rfl hg rfl (by simp;omega) (by simp[Value.oneCell']) λW ho hW=>?_
 rw[Nat.zero_add] at hW;exact hQ _ _ (fin 3 _ _ w W b5 _ (Below.refl _ _) (by decide) (a1K true) (λcs h=>a1q h) ho hW H5 rfl rfl)
theorem a2f:bJ Tryz.prog (bm bZ (2*10+1)) ⟨nF bZ,nO n k x,.nm,iI (ja x k.toNat { x.c k.toNat with t:=n })⟩:=by
 intro V A w Q hJ hQ;obtain⟨r,cm,u1,u2,u3,dd,s⟩:=zc hJ;obtain⟨g,c,xs,rfl,hg,hl,_,_,_,_,_,fin⟩:=CQ hk s;refine rh (c':=Code.region 10 (kY 10).toArray false) (by kernel_rfl) (DX ?_);rw[show kY 10=[bA 10 0,bA 10 1,bA 10 2,bA 10 3,bA 10 4,bA 10 5,bA 10 6] by kernel_rfl];refine jS (d:=52) (v:=.pointer (some ⟨r 3,0,none⟩)) s.kn λb1 H1=>?_
 refine AC (d:=53) (x:=52) 39 (m:=1) (b:=false) H1 rfl s.h3 (by simp) rfl λb2 H2=>?_
 refine jS (d:=54) (v:=.int .i64 k) H2 λb3 H3=>?_
 refine jS (d:=55) (v:=.int .i64 n) H3 λb4 H4=>?_
 refine E5 (d:=56) (s:=53) (x:=54) (z:=4) 39 74 H4 rfl rfl hk λb5 H5=>?_
 refine jS (d:=57) (v:=.pointer (some ⟨g,0+k.toNat*4+2,none⟩)) H5 λb6 H6=>?_
 refine E6 (x:=57) (y:=55) (g:=g) 3 (u:=.int .i64 n) (vs:=[.int .i64 n]) H6 rfl rfl rfl hg rfl (by simp;omega) (by simp[Value.oneCell']) λW ho hW=>?_
 rw[Nat.zero_add] at hW;exact hQ _ _ (fin 2 _ _ w W b6 _ (Below.refl _ _) (by decide) (Iz _) (λcs h=>a1r s.hn h) ho hW H6 rfl rfl)
theorem a2h:bJ Tryz.prog (bm bZ (2*14+1)) ⟨nF bZ,nO n k x,.nm,iI (ja x k.toNat { x.c k.toNat with x:=IntKind.i64.wrap (67108864+n) })⟩:=by
 intro V A w Q hJ hQ;obtain⟨r,cm,u1,u2,u3,dd,s⟩:=zc hJ;obtain⟨g,c,xs,rfl,hg,hl,_,_,_,_,_,fin⟩:=CQ hk s;refine rh (c':=Code.region 14 (kY 14).toArray false) (by kernel_rfl) (DX ?_);rw[show kY 14=[bA 14 0,bA 14 1,bA 14 2,bA 14 3,bA 14 4,bA 14 5,bA 14 6,bA 14 7,bA 14 8] by kernel_rfl];refine jS (d:=77) (v:=.pointer (some ⟨r 3,0,none⟩)) s.kn λb1 H1=>?_
 refine AC (d:=78) (x:=77) 39 (m:=1) (b:=false) H1 rfl s.h3 (by simp) rfl λb2 H2=>?_
 refine jS (d:=79) (v:=.int .i64 k) H2 λb3 H3=>?_
 refine jS (d:=80) (v:=.int .i64 n) H3 λb4 H4=>?_
 refine jS (d:=81) (v:=.int .i64 (IntKind.i64.wrap (67108864+n))) H4 λb5 H5=>?_
 refine E5 (d:=82) (s:=78) (x:=79) (z:=4) 39 74 H5 rfl rfl hk λb6 H6=>?_
 refine jS (d:=83) (v:=.pointer (some ⟨g,0+k.toNat*4+0,none⟩)) H6 λb7 H7=>?_
 refine jS (d:=84) (v:=.pointer (some ⟨g,0+k.toNat*4+0,none⟩)) H7 λb8 H8=>?_
 refine E6 (x:=84) (y:=81) (g:=g) 3 (u:=.int .i64 (IntKind.i64.wrap (67108864+n))) (vs:=[.int .i64 (IntKind.i64.wrap (67108864+n))]) H8 rfl rfl rfl hg rfl (by simp;omega) (by simp[Value.oneCell']) λW ho hW=>?_
 rw[Nat.zero_add] at hW;exact hQ _ _ (fin 0 _ _ w W b8 _ (Below.refl _ _) (by decide) (Iz _) (λcs h=>Qe (UQ _) h) ho hW H8 rfl rfl)
theorem a2g:bJ Tryz.prog (bm bZ (2*12+1)) ⟨nF bZ,nO n k x,.nm,iI (ja x k.toNat { x.c k.toNat with x:=IntKind.i64.wrap ((x.c k.toNat).x+n) })⟩:=by
 intro V A w Q hJ hQ;obtain⟨r,cm,u1,u2,u3,dd,s⟩:=zc hJ;obtain⟨g,c,xs,rfl,hg,hl,⟨d,he⟩,_,_,_,_,fin⟩:=CQ hk s;refine rh (c':=Code.region 12 (kY 12).toArray true) (by kernel_rfl) ?_;refine UL 15 (λW=>ac w W) (by kernel_rfl) (by kernel_rfl) (by kernel_rfl) (Below.refl _ _) (λW W' h hb=>ac.step h hb) (λW h=>h.size) ?_;rw[show (kY 12).take 15=[bA 12 0,bA 12 1,bA 12 2,bA 12 3,bA 12 4,bA 12 5,bA 12 6,bA 12 7,bA 12 8,bA 12 9,bA 12 10,bA 12 11,bA 12 12,bA 12 13,bA 12 14] by kernel_rfl,show (kY 12).drop 15=[bA 12 15] by kernel_rfl];refine K_ev (d:=60) (v:=.pointer (some ⟨r 3,0,none⟩)) s.kn λb1 H1=>?_
 refine K_ld (d:=61) (x:=60) 39 (m:=1) (b:=false) (v:=.slice (some ⟨g,0,none⟩) x.nc c) H1 rfl (λW hW=>aH s.h3 hW) (by simp) rfl λb2 H2=>?_
 refine K_ev (d:=62) (v:=.int .i64 k) H2 λb3 H3=>?_
 refine K_ev (d:=63) (v:=.pointer (some ⟨r 3,0,none⟩)) H3 λb4 H4=>?_
 refine K_ld (d:=64) (x:=63) 39 (m:=1) (b:=false) (v:=.slice (some ⟨g,0,none⟩) x.nc c) H4 rfl (λW hW=>aH s.h3 hW) (by simp) rfl λb5 H5=>?_
 refine K_ev (d:=65) (v:=.int .i64 k) H5 λb6 H6=>?_
 refine LL (d:=66) (s:=64) (x:=65) (z:=4) 39 74 H6 rfl rfl hk λb7 H7=>?_
 refine K_ev (d:=67) (v:=.pointer (some ⟨g,0+k.toNat*4+0,none⟩)) H7 λb8 H8=>?_
 refine K_ev (d:=68) (v:=.pointer (some ⟨g,0+k.toNat*4+0,none⟩)) H8 λb9 H9=>?_
 refine K_ld (d:=69) (x:=68) 3 (m:=1) (b:=false) (cs:=xs) (v:=.int .i64 (x.c k.toNat).x) H9 rfl (λW hW=>aH hg hW) (by omega) (by rw[show 0+k.toNat*4+0=k.toNat*4 by omega,he];rfl) λb10 H10=>?_
 refine K_ev (d:=70) (v:=.int .i64 n) H10 λb11 H11=>?_
 refine K_ev (d:=71) (v:=.int .i64 (IntKind.i64.wrap ((x.c k.toNat).x+n))) H11 λb12 H12=>?_
 refine LL (d:=72) (s:=61) (x:=62) (z:=4) 39 74 H12 rfl rfl hk λb13 H13=>?_
 refine K_ev (d:=73) (v:=.pointer (some ⟨g,0+k.toNat*4+0,none⟩)) H13 λb14 H14=>?_
 refine K_ev (d:=74) (v:=.pointer (some ⟨g,0+k.toNat*4+0,none⟩)) H14 λb15 H15=>?_
 refine K_st (x:=74) (y:=71) (g:=g) 3 (u:=.int .i64 (IntKind.i64.wrap ((x.c k.toNat).x+n))) (vs:=[.int .i64 (IntKind.i64.wrap ((x.c k.toNat).x+n))]) (U:=74) (old:=xs)
  (λW=>JJ V (bI (nF bZ) (iI (ja x k.toNat { x.c k.toNat with x:=IntKind.i64.wrap ((x.c k.toNat).x+n) }))) b15 W) (λW W' ⟨r,cm,h⟩ hb=>⟨r,cm,J.mono _ _ h hb⟩) (λ_ _=>trivial) H15 rfl rfl rfl (λW hW=>⟨aH hg hW,λho h2=>?_⟩) rfl (by simp;omega) (by simp[Value.oneCell']) (λW hW=>hQ _ _ hW.1)
 have e0:0+k.toNat*4+0=k.toNat*4+0:=by omega
 rw[e0] at h2 ho ⊢;exact fin 0 _ _ W _ b15 _ hW (by decide) (Iz _) (λcs h=>Qe (UQ _) h) ho h2 H15 rfl rfl
end
theorem a2i(n k:Int)(x:Pnl)(hk:0<=k/\k<x.nc):bJ Tryz.prog (bm bZ (2*16+1)) ⟨nF bZ,nO n k x,.nm,iI { x with nc:=k.toNat }⟩:=by
 intro V A w Q hJ hQ;obtain⟨r,cm,u1,u2,u3,dd,s⟩:=zc hJ;have o1:=s.o1;rcases o1 with⟨_,h0⟩|⟨g,c,xs,rfl,⟨h1,h2⟩,h3,h4,h5,h6,h7,h8⟩
 ·omega
 refine rh (c':=Code.region 16 (kY 16).toArray false) (by kernel_rfl) (DX ?_);rw[show kY 16=[bA 16 0,bA 16 1,bA 16 2,bA 16 3,bA 16 4,bA 16 5] by kernel_rfl];refine jS (d:=87) (v:=.pointer (some ⟨r 3,0,none⟩)) s.kn λb1 H1=>?_
 refine AC (d:=88) (x:=87) 39 (m:=1) (b:=false) H1 rfl s.h3 (by simp) rfl λb2 H2=>?_
 refine jS (d:=89) (v:=.int .i64 k) H2 λb3 H3=>?_
 refine Vp (d:=90) (s:=88) (x:=89) (z:=4) 39 74 H3 rfl rfl (by omega) (by omega) λb4 H4=>?_
 refine jS (d:=91) (v:=.pointer (some ⟨r 3,0,none⟩)) H4 λb5 H5=>?_
 refine E6 (x:=91) (y:=90) (g:=r 3) 39 (u:=.slice (some ⟨g,0,none⟩) k.toNat c) (vs:=[.slice (some ⟨g,0,none⟩) k.toNat c]) H5 rfl rfl rfl s.h3 rfl (by simp) (by simp[Value.oneCell']) λW ho hW=>?_
 have n3:=s.hM.lo 3 _ rfl;have i23:r 2≠r 3:=λe=>by have:=s.hM.inj 2 3 _ _ rfl rfl e;omega
 have nd3:∀v∈Value.slice (some ⟨g,0,none⟩) x.nc c::u2::u3::.int .i64 x.r::dd,nd v:=by rw[<- s.c3];exact (s.hM.blk 3 _ rfl).2.nd
 have tP:(43:TypeId)≠tE:=by decide
 have o1:eb V W r 4 74 4 x.nc (λi=>aX (x.c i)) (.slice (some ⟨g,0,none⟩) x.nc c):=s.o1.only ho s.h3 nd3 (by decide) tP;refine hQ _ _ (QF s (x':={ x with nc:=k.toNat }) (u1':=.slice (some ⟨g,0,none⟩) k.toNat c) H5 rfl rfl (s.hM.ext.trans (ho.below n3)) (by rw[ho.size];exact Nat.le_refl _) (ho.block _ i23) hW ?_ (s.o2.only ho s.h3 nd3 (by decide) tP) (s.o3.only ho s.h3 nd3 (by decide) tP) rfl);rcases o1 with⟨e,_⟩|⟨g',c',ys,e,q1,q2,q3,q4,q5,q6,q7⟩
 ·cases e
 ·cases e;exact .inr ⟨g,c,ys,rfl,q1,q2,by show k.toNat<=c;omega,q4,q5,q6,λi hi=>q7 i (by have:i<k.toNat:=hi;omega)⟩
end
end Go.Proofs.YtghemgdfmldoeaaGreat
