import Derived.Test.YtghemgdfmldoeaaGreatS33
set_option linter.unusedVariables false
set_option linter.unusedSimpArgs false

namespace Go.Proofs.YtghemgdfmldoeaaGreat
open Go.RowKit

set_option maxHeartbeats 4000000
set_option maxRecDepth 100000
section
theorem put_size{a:Act}{d:Nat}{v:Value}:(a.put (some d) v).tmps.size=a.tmps.size:=by simp[Act.put]
theorem put_none{a:Act}{v:Value}:a.put none v=a:=rfl
theorem ex_extract{P:Program}{o:Oper}{a:Act}{x:Operand}{j:Nat}{vs:List Value}{v:Value}(ho:o.op=.extract x j)(hx:a.eval x=.tuple vs.toArray)(hv:vs[j]? = some v)(w:World):(execOp a.eval o).run P w=.ok (.value v) w:=by
 refine exec_val (m:=Instr.extract (a.eval x) j) (by unfold execOp;rw[ho]) ?_
 rw[hx]
 simp only[Instr.extract,List.getElem?_toArray,hv,Sem.run_pure]
theorem ex_alloc{P:Program}{o:Oper}{a:Act}{t:TypeId}{i:TypeInfo}{z:Value}(ho:o.op=.alloc t)(hi:P.info? t=some i)(hz:i.zero=some z)(w:World):(execOp a.eval o).run P w=.ok (.value (ptrA w.heap.size)) (w.alloc (.cells z.cells t)) :=
 exec_val (m:=Instr.alloc t true (.tuple #[])) (by unfold execOp;rw[ho]) (run_allocA hi hz w)
theorem info_of{P:Program}{t:TypeId}{z:Value}(h:((P.info? t).bind (·.zero))=some z):∃i,P.info? t=some i/\i.zero=some z:=by
 cases hi:P.info? t with
 | none=>rw[hi] at h;cases h
 | some i=>rw[hi] at h;exact⟨i,rfl,h⟩
theorem al_sto{ops:Array Oper}{o1 o2:Oper}{l:List Oper}(a:Act)(W:World)(t n d s:Nat)(z:Value)(old vs:List Value)(Q:Act->World->Prop)(h1:o1.op=.alloc t)(h2:o2.op=.store t (.tmp d) (.tmp s))(d1:o1.dst=some d)(d2:o2.dst=none)(g1:o1.guard=none)(g2:o2.guard=none)(hi:((Tryz.prog.info? t).bind (·.zero))=some z)(hz:z.cells=old.toArray)(hn:szT Tryz.prog t=some n)(ho:old.length=n)(hd:d<a.tmps.size)(hds:d≠s)
  (hs:(a.tmps.getD s undef).cells=vs.toArray) (hl:vs.length=n) (hv:∀v∈vs,v.oneCell'=true) (hQ:∀W',Ext W W'->W.heap.size<W'.heap.size->W'.heap[W.heap.size]? = some (.cells vs.toArray t)->WpS Tryz.prog ops Q l (a.put (some d) (ptrA W.heap.size)) W'):WpS Tryz.prog ops Q (o1::o2::l) a W:=by
 obtain⟨i,i1,i2⟩:=info_of hi
 refine wpS_val (by unfold Region.wanted;rw[g1]) (ex_alloc h1 i1 i2 W) ?_
 rw[d1,hz]
 have hg:(W.alloc (.cells old.toArray t)).heap[W.heap.size]? = some (.cells old.toArray t):=World.alloc_heap_new _ _
 obtain⟨k1,k2⟩:=onlyB_setRow (cs':=(old.take 0++(vs++old.drop (0+vs.length))).toArray) hg
 have ec:(old.take 0++(vs++old.drop (0+vs.length)))=vs:=by rw[List.take_zero,List.nil_append,Nat.zero_add,List.drop_eq_nil_of_le (by omega),List.append_nil]
 refine wpS_skip (W:=(W.alloc (.cells old.toArray t)).setRow W.heap.size (old.take 0++(vs++old.drop (0+vs.length))).toArray) (by unfold Region.wanted;rw[g2]) ?_ ?_
 ·exact ex_store h2 (show (a.put (some d) (ptrA W.heap.size)).tmps.getD d undef=_ from put_lt hd) hg (by rw[show (a.put (some d) (ptrA W.heap.size)).eval (.tmp s)=(a.put (some d) (ptrA W.heap.size)).tmps.getD s undef from rfl,put_ne hds];exact hs) hn hl (by omega) hv
 ·rw [d2, put_none]
  have hx:Ext W ((W.alloc (.cells old.toArray t)).setRow W.heap.size (old.take 0++(vs++old.drop (0+vs.length))).toArray):=(below_alloc W _).trans (k1.below (Nat.le_refl _))
  exact hQ _ hx (by rw[k1.size];simp) (by rw[k2,ec])
theorem r4(a:Act)(W:World)(Q:Act->World->Prop)(hsz:a.tmps.size=94)
  (hQ:∀a' W1 W2,a'.tmps.size=94->a'.defers=a.defers->(∀t,35≠t->34≠t->36≠t->37≠t->7≠t->8≠t->a'.tmps.getD t undef=a.tmps.getD t undef)->a'.tmps.getD 7 undef=ptrA W1.heap.size->a'.tmps.getD 8 undef=lsF W.heap.size->Ext W W1->Ext W1 W2->W1.heap[W.heap.size+1]? = some (.cells #[.bool false] 4)->W1.heap[W.heap.size]? = some (.cells zGp.toArray 89)->W2.heap[W1.heap.size]? = some (.cells #[kpF (W.heap.size+1) W.heap.size] 132)->Q a' W2):WpS Tryz.prog (gR 4).toArray Q (gR 4) a W:=by
 have es:gR 4=[gO 4 0,gO 4 1,gO 4 2,gO 4 3,gO 4 4,gO 4 5,gO 4 6]:=by kernel_rfl
 have d0:(gO 4 0).dst=some 35:=by kernel_rfl
 have d1:(gO 4 1).dst=some 34:=by kernel_rfl
 have d2:(gO 4 2).dst=some 36:=by kernel_rfl
 have d3:(gO 4 3).dst=some 37:=by kernel_rfl
 have d6:(gO 4 6).dst=some 8:=by kernel_rfl
 rw[show WpS Tryz.prog (gR 4).toArray Q (gR 4) a W=WpS Tryz.prog (gR 4).toArray Q [gO 4 0,gO 4 1,gO 4 2,gO 4 3,gO 4 4,gO 4 5,gO 4 6] a W by rw[<- es]]
 have en:(execOp a.eval (gO 4 0)).run Tryz.prog W=.ok (.enter 91 #[]) W:=by
  simpa using run_enter (P:=Tryz.prog) (o:=gO 4 0) (a:=a) (f:=91) (x:=.func 91) (caps:=#[]) (cl:={ callee:=.value (.func 91),args:=#[],argTypes:=#[] }) prog_nm Tryz.func91 rfl (by kernel_rfl) rfl rfl W
 refine wpS_call (by kernel_rfl) en (gap_nearest W) (fun e W h=>⟨_,h.1⟩) fun v W1 ⟨e,hx1,hs,hl⟩=>?_
 cases e
 rw[d0]
 refine wpS_val (by kernel_rfl) (ex_move (x:=.tmp 35) (by kernel_rfl) W1) ?_
 rw[d1,show (a.put (some 35) _).eval (.tmp 35)=_ from put_lt (by rw[hsz];decide)]
 refine wpS_val (by kernel_rfl) (ex_extract (x:=.tmp 34) (j:=0) (vs:=[kpF (W.heap.size+1) W.heap.size,lsF W.heap.size]) (by kernel_rfl) (put_lt (by simp[put_size,hsz])) rfl W1) ?_
 rw[d2]
 refine wpS_val (by kernel_rfl) (ex_extract (x:=.tmp 34) (j:=1) (vs:=[kpF (W.heap.size+1) W.heap.size,lsF W.heap.size]) (by kernel_rfl) (by rw[show ∀b:Act,b.eval (.tmp 34)=b.tmps.getD 34 undef from fun _=>rfl,put_ne (show 36≠34 by decide)];exact put_lt (by simp[put_size,hsz])) rfl W1) ?_
 rw[d3]
 refine al_sto _ W1 132 1 7 36 .nilFunc [.nilFunc] [kpF (W.heap.size+1) W.heap.size] Q (by kernel_rfl) (by kernel_rfl) (by kernel_rfl) (by kernel_rfl) (by kernel_rfl) (by kernel_rfl) (by kernel_rfl) (by kernel_rfl) (by kernel_rfl) rfl (by simp[put_size,hsz]) (by decide) (by rw[put_ne (show 37≠36 by decide),put_lt (by simp[put_size,hsz])];rfl) rfl (fun v hv=>by rw[List.mem_singleton.1 hv];rfl) fun W2 hx2 hlt h7=>?_
 refine wpS_val (by kernel_rfl) (ex_assign (x:=.tmp 37) (by kernel_rfl) W2) ?_
 rw[d6]
 refine hQ _ W1 W2 (by simp[put_size,hsz]) rfl (fun t n1 n2 n3 n4 n5 n6=>?_) (by rw[put_ne (show 8≠7 by decide)];exact put_lt (by simp[put_size,hsz])) ?_ hx1 hx2 hs hl h7
 ·rw[put_ne n6,put_ne n5,put_ne n4,put_ne n3,put_ne n2,put_ne n1]
 ·rw [put_lt (by simp [put_size, hsz])]
  show (Act.put _ (some 7) _).tmps.getD 37 undef=_
  rw[put_ne (show 7≠37 by decide),put_lt (by simp[put_size,hsz])]
end

set_option maxHeartbeats 4000000
set_option maxRecDepth 100000
section
theorem r5(a:Act)(W:World)(s u:Sh)(p q:Option Addr)(c d B2 B3:Nat)(Q:Act->World->Prop)(hsz:a.tmps.size=94)(h2:a.tmps.getD 2 undef=ptrA B2)(h3:a.tmps.getD 3 undef=ptrA B3)(g2:W.heap[B2]? = some (.cells (shC3 s p c) 30))(g3:W.heap[B3]? = some (.cells (shC3 u q d) 30))
  (hQ:∀a' W',a'.tmps.size=94->a'.defers=a.defers->(∀t,38≠t->39≠t->40≠t->a'.tmps.getD t undef=a.tmps.getD t undef)->a'.tmps.getD 40 undef=.func (.func 131) #[] #[ptrA W.heap.size,ptrA (W.heap.size+1)]->Ext W W'->W'.cell? ⟨W.heap.size,1,none⟩=some (.slice p s.n c)->W'.cell? ⟨W.heap.size+1,1,none⟩=some (.slice q u.n d)->W.heap.size+1<W'.heap.size->Q a' W'):WpS Tryz.prog (gR 5).toArray Q (gR 5) a W:=by
 have es:gR 5=[gO 5 0,gO 5 1,gO 5 2]:=by kernel_rfl
 have d0:(gO 5 0).dst=some 38:=by kernel_rfl
 have d1:(gO 5 1).dst=some 39:=by kernel_rfl
 have d2:(gO 5 2).dst=some 40:=by kernel_rfl
 rw[show WpS Tryz.prog (gR 5).toArray Q (gR 5) a W=WpS Tryz.prog (gR 5).toArray Q [gO 5 0,gO 5 1,gO 5 2] a W by rw[<- es]]
 have v1:=ex_load (P:=Tryz.prog) (o:=gO 5 0) (a:=a) (w:=W) (t:=30) (x:=.tmp 2) (j:=0) (n:=3) (b:=true) (cs:=(shC3 s p c).toList) (by kernel_rfl) h2 (by simpa using g2) (by kernel_rfl) (by kernel_rfl) (by simp[shC3]) nofun
 refine wpS_val (x:=.agg (shC3 s p c)) (W:=W) (by kernel_rfl) v1 ?_
 rw[d0]
 have v2:=ex_load (P:=Tryz.prog) (o:=gO 5 1) (a:=a.put (some 38) (.agg (shC3 s p c))) (w:=W) (t:=30) (x:=.tmp 3) (j:=0) (n:=3) (b:=true) (cs:=(shC3 u q d).toList) (by kernel_rfl) (show (a.put (some 38) (.agg (shC3 s p c))).tmps.getD 3 undef=_ by rw[put_ne (show 38≠3 by decide)];exact h3) (by simpa using g3) (by kernel_rfl) (by kernel_rfl) (by simp[shC3]) nofun
 refine wpS_val (x:=.agg (shC3 u q d)) (W:=W) (by kernel_rfl) v2 ?_
 rw[d1]
 have en:(execOp ((a.put (some 38) (.agg (shC3 s p c))).put (some 39) (.agg (shC3 u q d))).eval (gO 5 2)).run Tryz.prog W=.ok (.enter 92 #[.agg (shC3 s p c),.agg (shC3 u q d)]) W:=by
  have:=run_enter (P:=Tryz.prog) (o:=gO 5 2) (a:=(a.put (some 38) (.agg (shC3 s p c))).put (some 39) (.agg (shC3 u q d))) (f:=92) (x:=.func 92) (caps:=#[]) (cl:={ callee:=.value (.func 92),args:=#[.tmp 38,.tmp 39],argTypes:=#[30,30] }) prog_nm Tryz.func92 rfl (by kernel_rfl) rfl rfl W
  rw[this]
  simp only[List.map_toArray,List.map_cons,List.map_nil]
  rw[show ((a.put (some 38) (.agg (shC3 s p c))).put (some 39) (.agg (shC3 u q d))).eval (.tmp 38)=.agg (shC3 s p c) from (put_ne (by decide)).trans (put_lt (by rw[hsz];decide)),show ((a.put (some 38) (.agg (shC3 s p c))).put (some 39) (.agg (shC3 u q d))).eval (.tmp 39)=.agg (shC3 u q d) from put_lt (by rw[put_size,hsz];decide)]
  rfl
 refine wpS_call (by kernel_rfl) en (gap_pairs s.k s.r u.k u.r p q s.n c u.n d W) (fun e W h=>⟨_,h.1⟩) fun v W1 ⟨e,hx1,c0,c1,hz⟩=>?_
 cases e
 rw[d2]
 exact hQ _ W1 (by rw[put_size,put_size,put_size,hsz]) rfl (fun t n1 n2 n3=>by rw[put_ne n3,put_ne n2,put_ne n1]) (put_lt (by rw[put_size,put_size,hsz];decide)) hx1 c0 c1 hz
theorem edL_one(e:Ed):∀v∈edL e,v.oneCell'=true:=fun v hv=>by
 simp only[edL,List.mem_cons,List.not_mem_nil,or_false] at hv
 rcases hv with rfl|rfl|rfl|rfl|rfl|rfl|rfl<;>rfl
theorem r6(a:Act)(W:World)(x:Ed)(Q:Act->World->Prop)(hsz:a.tmps.size=94)(h41:a.tmps.getD 41 undef=edA x)(hQ:∀W',Ext W W'->W.heap.size<W'.heap.size->W'.heap[W.heap.size]? = some (.cells (edL x).toArray 108)->Q (a.put (some 9) (ptrA W.heap.size)) W'):WpS Tryz.prog (gR 6).toArray Q (gR 6) a W:=by
 have es:gR 6=[gO 6 0,gO 6 1]:=by kernel_rfl
 rw[show WpS Tryz.prog (gR 6).toArray Q (gR 6) a W=WpS Tryz.prog (gR 6).toArray Q [gO 6 0,gO 6 1] a W by rw[<- es]]
 exact al_sto a W 108 7 9 41 (.agg #[.int .i64 0,.int .i64 0,.int .i64 0,.int .i64 0,.int .i64 0,.int .i64 0,.int .i64 0]) [.int .i64 0,.int .i64 0,.int .i64 0,.int .i64 0,.int .i64 0,.int .i64 0,.int .i64 0] (edL x) Q (by kernel_rfl) (by kernel_rfl) (by kernel_rfl) (by kernel_rfl) (by kernel_rfl) (by kernel_rfl) (by kernel_rfl) rfl (by kernel_rfl) rfl (by rw[hsz];decide) (by decide) (by rw[h41];rfl) rfl (edL_one x) hQ
theorem r7(a:Act)(W:World)(x:Ed)(Q:Act->World->Prop)(hsz:a.tmps.size=94)(h42:a.tmps.getD 42 undef=edA x)(hQ:∀W',Ext W W'->W.heap.size<W'.heap.size->W'.heap[W.heap.size]? = some (.cells (edL x).toArray 108)->Q (a.put (some 10) (ptrA W.heap.size)) W'):WpS Tryz.prog (gR 7).toArray Q (gR 7) a W:=by
 have es:gR 7=[gO 7 0,gO 7 1]:=by kernel_rfl
 rw[show WpS Tryz.prog (gR 7).toArray Q (gR 7) a W=WpS Tryz.prog (gR 7).toArray Q [gO 7 0,gO 7 1] a W by rw[<- es]]
 exact al_sto a W 108 7 10 42 (.agg #[.int .i64 0,.int .i64 0,.int .i64 0,.int .i64 0,.int .i64 0,.int .i64 0,.int .i64 0]) [.int .i64 0,.int .i64 0,.int .i64 0,.int .i64 0,.int .i64 0,.int .i64 0,.int .i64 0] (edL x) Q (by kernel_rfl) (by kernel_rfl) (by kernel_rfl) (by kernel_rfl) (by kernel_rfl) (by kernel_rfl) (by kernel_rfl) rfl (by kernel_rfl) rfl (by rw[hsz];decide) (by decide) (by rw[h42];rfl) rfl (edL_one x) hQ
end

set_option maxHeartbeats 4000000
set_option maxRecDepth 100000
section
open Go.RowKit Go.Shelf
theorem rowG_ed{W:World}{n:Nat}{e:Nat->Ed}{v:Value}(h:RowC (RepF W) W 7 n (fun i=>edI (e i)) v):RowC (RepG W) W 7 n (fun i=>edI (e i)) v:=by
 obtain⟨a,c,e1,h1,h2,h3⟩:=h
 refine⟨a,c,e1,h1,h2,fun i hi=>?_⟩
 obtain⟨g,o,xs,T,k1,k2,k3,cs,d,k4,k5⟩:=h3 i hi
 obtain⟨c0,d0,e0,a0,c1,d1,e1,a1,c2,d2,e2,a2,c3,d3,e3,a3,c4,d4,e4,a4,c5,d5,e5,a5,c6,d6,e6,a6,e7⟩:=k5
 exact⟨g,o,xs,T,k1,k2,k3,cs,d,k4,c0,d0,e0,a0,c1,d1,e1,a1,c2,d2,e2,a2,c3,d3,e3,a3,c4,d4,e4,a4,c5,d5,e5,a5,c6,d6,e6,a6,e7⟩
theorem ShAt.repF{W:World}{s:Sh}{p:Option Addr}{c:Nat}(h:ShAt W s p c):RepF W (shL s) [.int .i64 s.k,.slice p s.n c,.int .i64 s.r] :=
 ⟨[_],_,rfl,⟨rfl,i64_lim h.k,h.k⟩,[_],_,rfl,⟨_,rfl,rowG_ed h.row⟩,[_],[],rfl,⟨rfl,i64_lim h.r,h.r⟩,rfl⟩
theorem rest4_eq:rest4=.seq (.region 4 (gR 4).toArray false) (.seq (.label 0) (.seq (.seq (.region 5 (gR 5).toArray false) (.block 0 (.rangeFunc (.tmp 40) #[41,42] (.seq (.region 6 (gR 6).toArray false) (.region 7 (gR 7).toArray false)) rfBody))) rest12)):=by kernel_rfl
def ofG(a b:Sh):Gp:=if metB a b=true then metR a b else { gapK (cnd a b) (a.n*b.n) with d:=(plusR (gapK (cnd a b) (a.n*b.n)).d (sumR a b)).1 }
theorem kp_obj{X:List Nat}{W:World}{l:Nat}{o o':Obj}(h:W.heap[l]? = some o)(ho:o.isCells=false):KpP X W (W.putObj l o'):=(kp_put h ho).mono (fun x hx=>by simp at hx)
theorem rest4_ok(w W:World)(A:Act)(a b:Sh)(p q:Option Addr)(c d B6:Nat)(m0:Bool)(ha:ShAt w a p c)(hb:ShAt w b q d)(na:1<=a.n/\a.n<=1000)(nb:1<=b.n/\b.n<=1000)(hm:(aroB a b||aroB b a)=m0)(hsz:A.tmps.size=94)(hd:A.defers=[])
  (h2:A.tmps.getD 2 undef=ptrA w.heap.size) (h3:A.tmps.getD 3 undef=ptrA (w.heap.size+1)) (h4:A.tmps.getD 4 undef=ptrA (w.heap.size+1+1)) (h6:A.tmps.getD 6 undef=ptrA B6) (ps:PS w W a b p q c d) (g6:W.heap[B6]? = some (.cells #[.bool m0] 4)) (hB6:w.heap.size+1+1<B6) :
  rest4.wp Tryz.prog (Exit.noGoto (bodyPostM Fence.wide 6 Tryz.prog Tryz.f32 (OfPost w (ofG a b) true))) A W:=by
 rw[rest4_eq]
 refine wp_seq (wp_region_lit (WpS.wp (r4 A W _ hsz fun a1 W1 W2 s1 df1 of1 e7 e8 x1 x2 cs cl c7=>?_)))
 refine wp_seq (wp_label ?_)
 have x12:=Ext.step x1 x2
 have ps2:=ps.step x12
 refine wp_seq (wp_seq (wp_region_lit (WpS.wp (r5 a1 W2 a b p q c d w.heap.size (w.heap.size+1) _ s1 (by rw[of1 2 (by decide) (by decide) (by decide) (by decide) (by decide) (by decide)];exact h2) (by rw[of1 3 (by decide) (by decide) (by decide) (by decide) (by decide) (by decide)];exact h3) ps2.b2 ps2.b3 fun a2 W3 s2 df2 of2 e40 x3 c0 c1 hz=>?_))))
 have of12:∀t,35≠t->34≠t->36≠t->37≠t->7≠t->8≠t->38≠t->39≠t->40≠t->a2.tmps.getD t undef=A.tmps.getD t undef:=fun t n1 n2 n3 n4 n5 n6 n7 n8 n9=>by rw[of2 t n7 n8 n9,of1 t n1 n2 n3 n4 n5 n6]
 have x13:=Ext.step x12 x3
 have ps3:=ps.step x13
 have zW:B6<W.heap.size:=(Array.getElem?_eq_some_iff.1 g6).1
 have z1:W.heap.size+1<W1.heap.size:=(Array.getElem?_eq_some_iff.1 cs).1
 have z2:W1.heap.size<W2.heap.size:=(Array.getElem?_eq_some_iff.1 c7).1
 have z3:=x3.size
 have zw:=ps.ex.size
 have LI3:LI w W3 a b p q c d B6 W1.heap.size (W.heap.size+1) W.heap.size m0:=⟨ps3,heap_ext g6 x13,heap_ext c7 x3⟩
 have h0:RI w W3 a b p q c d B6 W1.heap.size (W.heap.size+1) W.heap.size m0 [] W3:=⟨LI3,heap_ext cs (Ext.step x2 x3),⟨zGp,heap_ext cl (Ext.step x2 x3),zGpC W3⟩,Nat.le_refl _,fun h=>absurd rfl h,fun i hi=>by cases hi⟩
 have bw:Below w.heap.size w W3:=ps3.ex
 have t2:a2.tmps.getD 2 undef=ptrA w.heap.size:=by rw[of12 2 (by decide) (by decide) (by decide) (by decide) (by decide) (by decide) (by decide) (by decide) (by decide)];exact h2
 have t3:a2.tmps.getD 3 undef=ptrA (w.heap.size+1):=by rw[of12 3 (by decide) (by decide) (by decide) (by decide) (by decide) (by decide) (by decide) (by decide) (by decide)];exact h3
 have t4:a2.tmps.getD 4 undef=ptrA (w.heap.size+1+1):=by rw[of12 4 (by decide) (by decide) (by decide) (by decide) (by decide) (by decide) (by decide) (by decide) (by decide)];exact h4
 have t6:a2.tmps.getD 6 undef=ptrA B6:=by rw[of12 6 (by decide) (by decide) (by decide) (by decide) (by decide) (by decide) (by decide) (by decide) (by decide)];exact h6
 have t7:a2.tmps.getD 7 undef=ptrA W1.heap.size:=by rw[of2 7 (by decide) (by decide) (by decide)];exact e7
 have t8:a2.tmps.getD 8 undef=lsF W.heap.size:=by rw[of2 8 (by decide) (by decide) (by decide)];exact e8
 have fin:∀(D:Nat) (W4:World) (met:Bool) (g:Gp),W3.heap.size<=D->W4.heap[D]? = some (.deferred (some []))->LI w W4 a b p q c d B6 W1.heap.size (W.heap.size+1) W.heap.size met->(met=false->GpAt W4 W.heap.size g)->(if met=true then (⟨true,zrt a b,Sp.no,Sp.no⟩:Gp) else { g with d:=(plusR g.d (sumR a b)).1 })=ofG a b ->
   rest12.wp Tryz.prog (Exit.noGoto (bodyPostM Fence.wide 6 Tryz.prog Tryz.f32 (OfPost w (ofG a b) true))) { a2 with defers:={ target:=.collected D,args:=#[] }::a2.defers } W4:=fun D W4 met g hD hK hl hg he=>by
  have f2:FpAt W4 w.heap.size (shL a):=.of (cs:=(shC3 a p c).toList) (by simpa using hl.ps.b2) (ha.ext hl.ps.ex).repF
  have f3:FpAt W4 (w.heap.size+1) (shL b):=.of (cs:=(shC3 b q d).toList) (by simpa using hl.ps.b3) (hb.ext hl.ps.ex).repF
  rw[<- he]
  exact rest12_ok w W4 _ a b met g w.heap.size (w.heap.size+1) (w.heap.size+1+1) B6 W.heap.size D s2 (by show _::a2.defers=_;rw[df2,df1,hd]) t2 t3 t4 t6 t8 f2 f3 hl.ps.b4 hl.b6 hg hl.ps.ex (by omega) hK (by omega)
 refine wp_block ?_
 refine (wpIn_wide (n:=6)).1 ?_
 refine wpIn_rangeFunc_ownH rfl (by omega) (gf:=131) (lb:=#[ptrA W2.heap.size,ptrA (W2.heap.size+1)]) e40 trivial (enters_of Tryz.func131 (by kernel_rfl) rfl)
  (pairs_stops 5 (by omega) [B6,W.heap.size+1,W.heap.size] a.n b.n (eT a) (eT b) w.heap.size W2.heap.size (W2.heap.size+1) c d p q W3 (by omega) hz (by omega) (fun x hx=>by simp only[List.mem_cons,List.not_mem_nil,or_false] at hx;omega) (fun h=>by simp only[List.mem_cons,List.not_mem_nil,or_false] at h;omega) (fun h=>by simp only[List.mem_cons,List.not_mem_nil,or_false] at h;omega) c0 c1 ((eT_row ha.edr).below bw) ((eT_row hb.edr).below bw) na.2 nb.2) KpP.trans
  (fun W l o o' _ ho hc _=>kp_obj ho hc)
  (Below.refl _ _) (fun _=>rfl)
  (RI w W3 a b p q c d B6 W1.heap.size (W.heap.size+1) W.heap.size m0) (XI w W3 a b p q c d B6 W1.heap.size (W.heap.size+1) W.heap.size m0)
  (RI.own w W3 a b p q c d B6 _ _ _ m0 (by omega)) (fun cc=>XI.own w W3 a b p q c d B6 _ _ _ m0 cc (by omega)) h0
  (AI W3 a b B6 W1.heap.size) (AI.own W3 a b B6 W1.heap.size) ?assign ?body ?done ?stop
 case assign =>
  rintro l pre x V K hI hK
  have e41:(edA (eT a (x/b.n)))=edA (eT a (x/b.n)):=rfl
  refine wpIn_seq (inR (by kernel_rfl) (r6 _ V (eT a (x/b.n)) _ ?_ ?_ fun V1 y1 v1 q1=>?_))
  ·simp[s2]
  ·simp[s2]
  refine inR (by kernel_rfl) (r7 _ V1 (eT b (x%b.n)) _ ?_ ?_ fun V2 y2 v2 q2=>?_)
  ·simp[s2,put_size]
  ·rw[put_ne (by decide)];simp[s2]
  have y12:=Ext.step y1 y2
  have hVs:=hI.sz
  refine hK _ _ (ButX.keeps (X:=[]) (.ext y12) _ (fun x hx=>by simp at hx)) (.ext y12) ?_ ?_
  ·exact⟨hI.li.kp (.ext y12) (Ext.step hI.li.ps.ex y12),heap_ext hI.bs y12,hI.bl.ext y12,Nat.le_trans hVs y12.size,hI.m,hI.sp⟩
  ·refine ⟨V.heap.size, V1.heap.size, ?_, ?_, ?_, ?_, ?_, ⟨by omega, by omega⟩, heap_ext q1 y2, q2⟩
   ·simp[s2,put_size]
   ·rw[put_ne (by decide),put_ne (by decide)];simpa using t6
   ·rw[put_ne (by decide),put_ne (by decide)];simpa using t7
   ·rw[put_ne (by decide)];exact put_lt (by simp[s2])
   ·exact put_lt (by simp[s2,put_size])
 case body =>
  rintro l pre x a' V hl hr hI hA hlen
  exact round_ok ha hb ⟨by omega,by omega,by omega,by omega,by omega⟩ l _ pre x a' V hI hA
 case done =>
  rintro D xs V hD rfl hI hK
  have hne:upT (a.n*b.n) ≠ []:=fun e=>by
   have:=congrArg List.length e
   rw[upT_len] at this
   have:=Nat.mul_pos (show 0<a.n by omega) (show 0<b.n by omega)
   simp at *;omega
  have m1:=hI.m hne
  subst m1
  have hs:allB (sep a b) (a.n*b.n)=true:=allB_t.2 fun k hk=>by rw[<- sepT_at hk];exact hI.sp k (by unfold upT;exact List.mem_range.2 hk)
  have hg:=gapS_up (cndT a b) (cnd a b) (a.n*b.n) fun i hi=>cndT_at hi
  have bl:=hI.bl
  rw[hg] at bl
  refine fin D V false _ hD hK hI.li (fun _=>bl) ?_
  unfold ofG metB
  rw[hm,hs]
  rfl
 case stop =>
  rintro D cc pre V hD ⟨k,hk,rfl⟩ hX hK
  obtain rfl:=hX.cc
  refine wpIn_exit ?_
  refine fin D V true Gp.no hD hK hX.li (fun h=>by cases h) ?_
  have:metB a b=true:=by
   unfold metB
   rcases hX.why with h|⟨i,hi,hs⟩
   ·rw[hm,h];rfl
   ·have hik : i < a.n * b.n := by unfold upT at hi; have := List.mem_range.1 hi; omega
    rw[sepT_at hik] at hs
    cases hA:allB (sep a b) (a.n*b.n) with
    | true=>rw[allB_t.1 hA i hik] at hs;cases hs
    | false=>simp
  unfold ofG
  rw[if_pos rfl,if_pos this]
  rfl
end

set_option maxHeartbeats 4000000
set_option maxRecDepth 100000
section
open Go.RowKit Go.Shelf
attribute [local go_sem] Oper.semAt_some
attribute [local go_sem] Gives givesU
theorem gapOf_yes(a b:Sh)(h1:chkS a=0)(h2:chkS b=0):Fok Tryz.prog 32 [shpV a,shpV b] (ofV (ofG a b,true)):=by
 intro w vals hv
 obtain⟨va,ha,_,rfl,hv1⟩:=rvs_cons.1 hv
 obtain⟨vb,hb,_,rfl,hv2⟩:=rvs_cons.1 hv1
 cases hv2
 obtain⟨p,c,rfl,Ha⟩:=ShAt.of ha
 obtain⟨q,d,rfl,Hb⟩:=ShAt.of hb
 have ga:=chk_good h1
 have gb:=chk_good h2
 have na:1<=a.n/\a.n<=1000:=⟨ga.n1,by have:=ga.n40;omega⟩
 have nb:1<=b.n/\b.n<=1000:=⟨gb.n1,by have:=gb.n40;omega⟩
 have C1:=Lib.hid (rightC' a Ha)
 have C2:=Lib.hid (rightC' b Hb)
 have C3:=Lib.hid (aroundC a b Ha Hb na.2 (by omega))
 have C4:=Lib.hid (aroundC b a Hb Ha nb.2 (by omega))
 have HA:=Lib.hid Ha
 have HB:=Lib.hid Hb
 have NA:=Lib.hid na
 have NB:=Lib.hid nb
 clear ha hb hv hv1 Ha Hb ga gb na nb
 have b1:(chkS a==0)=true:=by simpa using h1
 have b2:(chkS b==0)=true:=by simpa using h2
 clear h1 h2
 have z0:∀w:World,(w.alloc (.cells zGp.toArray 89)).heap[w.heap.size]? = some (.cells zGp.toArray 89):=fun w=>World.alloc_heap_new _ _
 have hx0:Ext w (((w.alloc (.cells #[.int .i64 a.k,.slice p a.n c,.int .i64 a.r] 30)).alloc (.cells #[.int .i64 b.k,.slice q b.n d,.int .i64 b.r] 30)).alloc (.cells zGp.toArray 89)):=bxx
 have P0:PS w (((w.alloc (.cells #[.int .i64 a.k,.slice p a.n c,.int .i64 a.r] 30)).alloc (.cells #[.int .i64 b.k,.slice q b.n d,.int .i64 b.r] 30)).alloc (.cells zGp.toArray 89)) a b p q c d :=
  ⟨hx0,(below_alloc _ _).trans ((below_alloc _ _).mono (by simp)) |> heap_ext (World.alloc_heap_new _ _),heap_ext (by have:=World.alloc_heap_new (w.alloc (.cells #[.int .i64 a.k,.slice p a.n c,.int .i64 a.r] 30)) (.cells #[.int .i64 b.k,.slice q b.n d,.int .i64 b.r] 30);simpa[shC3] using this) (below_alloc _ _),by have:=z0 ((w.alloc (.cells #[.int .i64 a.k,.slice p a.n c,.int .i64 a.r] 30)).alloc (.cells #[.int .i64 b.k,.slice q b.n d,.int .i64 b.r] 30));simpa using this⟩
 have HP:=Lib.hid P0
 clear hx0 z0 P0
 refine (callsIn_wide (n:=6)).1 ?_
 refine callsIn_of_wp_marks Tryz.func32 rfl trivial ?_ rfl
 refine wpIn_wide.2 ?_
 simp only[Tryz.ntmps32,List.size_toArray,List.length_cons,List.length_nil,Nat.reduceAdd,Nat.reduceSub,Array.replicate_succ,Array.replicate_zero,List.push_toArray,List.append_toArray,List.nil_append,List.cons_append]
 go_wp2_with fail
 go_step3
 go_wp2_with fail
 refine (C1.out _ HP.out.ex).mono ?_
 rintro e W1 ⟨rfl,hx1⟩
 rw[b1]
 have P1:=Lib.hid (HP.out.step hx1)
 clear hx1
 obtain⟨⟨k0,k1,k2⟩,k3,k4,k5⟩:=P1.out.cells
 have kz:=P1.out.sz
 go_wp2_with fail
 refine (C2.out _ P1.out.ex).mono ?_
 rintro e W2 ⟨rfl,hx2⟩
 rw[b2]
 have P2:=Lib.hid (P1.out.step hx2)
 clear hx2 k0 k1 k2 k3 k4 k5 kz
 obtain⟨⟨k0,k1,k2⟩,k3,k4,k5⟩:=P2.out.cells
 have kz:=P2.out.sz
 go_wp2_with fail
 rename_i K1 HK1 K2 HK2
 have FIN:=Lib.hid (fun (A:Act) (W:World) (m0:Bool) (B6:Nat) (hm:(aroB a b||aroB b a)=m0) hsz hd h2 h3 h4 h6 ps g6 hB6=>HK1 A W (wp_as (c':=rest4) (by kernel_rfl) (rest4_ok w W A a b p q c d B6 m0 HA.out HB.out NA.out NB.out hm hsz hd h2 h3 h4 h6 ps g6 hB6)))
 clear HK1
 cases h3:aroB a b with
 | true =>
  rw[h3] at C3 FIN
  refine (C3.out _ P2.out.ex).mono ?_
  rintro e W3 ⟨rfl,hx3⟩
  have P3:=Lib.hid (P2.out.step hx3)
  clear hx3 k0 k1 k2 k3 k4 k5 kz C1 C2 C3 C4
  go_wp2
  exact FIN.out _ _ true W3.heap.size rfl rfl rfl rfl rfl rfl rfl (P3.out.step (below_alloc _ _)) (World.alloc_heap_new _ _) P3.out.sz
 | false =>
  rw[h3] at C3 FIN
  refine (C3.out _ P2.out.ex).mono ?_
  rintro e W3 ⟨rfl,hx3⟩
  have P3:=Lib.hid (P2.out.step hx3)
  clear hx3 k0 k1 k2 k3 k4 k5 kz C1 C2 C3
  obtain⟨⟨k0,k1,k2⟩,k3,k4,k5⟩:=P3.out.cells
  have kz:=P3.out.sz
  go_wp2_with fail
  refine (C4.out _ P3.out.ex).mono ?_
  rintro e W4 ⟨rfl,hx4⟩
  have P4:=Lib.hid (P3.out.step hx4)
  clear hx4 k0 k1 k2 k3 k4 k5 kz C4
  go_wp2
  exact FIN.out _ _ (aroB b a) W4.heap.size rfl rfl rfl rfl rfl rfl rfl (P4.out.step (below_alloc _ _)) (World.alloc_heap_new _ _) P4.out.sz
theorem gapOf_fok(a b:Sh):Fok Tryz.prog 32 [shpV a,shpV b] (ofV (ofQ a b)):=by
 by_cases h:chkS a≠0\/chkS b≠0
 ·unfold ofQ
  rw[if_pos h]
  exact gapOf_no a b h
 ·unfold ofQ
  rw[if_neg h]
  have h1:chkS a=0:=Classical.not_not.1 fun g=>h (.inl g)
  have h2:chkS b=0:=Classical.not_not.1 fun g=>h (.inr g)
  have:=gapOf_yes a b h1 h2
  unfold ofG at this
  split at this
  ·rename_i hm
   rw[if_pos hm];exact this
  ·rename_i hm
   rw[if_neg hm];exact this
end

set_option maxHeartbeats 1000000
set_option maxRecDepth 100000
section
def rowL(e:Nat->Ed):Nat->List Value
 | 0=>[]
 | n+1=>rowL e n++edL (e n)
theorem edL_len(e:Ed):(edL e).length=7:=rfl
theorem rowL_len(e:Nat->Ed):∀n,(rowL e n).length=n*7
 | 0=>rfl
 | n+1=>by rw[rowL,List.length_append,rowL_len e n,edL_len,Nat.succ_mul]
theorem rowL_at(e:Nat->Ed):∀(n i t:Nat),i<n->t<7->(rowL e n)[i*7+t]? = (edL (e i))[t]?
 | 0,_,_,h,_=>absurd h (Nat.not_lt_zero _)
 | n+1,i,t,h,ht=>by
  rw[rowL]
  by_cases hi:i<n
  ·rw [List.getElem?_append_left (by rw [rowL_len]; omega)]
   exact rowL_at e n i t hi ht
  ·obtain rfl : i = n := by omega
   rw[List.getElem?_append_right (by rw[rowL_len];omega),rowL_len]
   congr 1
   omega
theorem rowL_one(e:Nat->Ed):∀n,∀v∈rowL e n,v.oneCell'=true
 | 0,v,h=>by cases h
 | n+1,v,h=>by
  rw[rowL] at h
  rcases List.mem_append.1 h with h|h
  ·exact rowL_one e n v h
  ·exact edL_one (e n) v h
theorem edAt_cell{w:World}{g o t:Nat}{e:Ed}{u:Value}(h:EdAt w g o e)(hu:(edL e)[t]? = some u):w.cell? ⟨g,o+t,none⟩=some u:=by
 obtain⟨h0,h1,h2,h3,h4,h5,h6⟩:=h
 have ht:t<7:=by have:=(List.getElem?_eq_some_iff.1 hu).1;simpa[edL] using this
 obtain rfl|rfl|rfl|rfl|rfl|rfl|rfl:t=0\/t=1\/t=2\/t=3\/t=4\/t=5\/t=6:=by omega
 all_goals (simp only[edL,List.getElem?_cons_succ,List.getElem?_cons_zero,Option.some.injEq] at hu;subst hu;assumption)
theorem infoEd:(Tryz.prog.info? 108).map (fun i=>(i.zero,i.size,i.bytes))=some (some (.agg #[.int .i64 0,.int .i64 0,.int .i64 0,.int .i64 0,.int .i64 0,.int .i64 0,.int .i64 0]),7,56):=by kernel_rfl
def NewE(w:World)(e:Nat->Ed)(n:Nat)(v:Value)(w':World):Prop:=∃g c cur,v=.slice (some ⟨g,0,none⟩) n c/\w.heap.size<=g/\w'.heap[g]? = some (.cells cur 108)/\n<=c/\c<=maxLen/\cur.toList.take (n*7)=rowL e n/\Ext w w'
theorem cloneEd(n:Nat)(e:Nat->Ed)(p:Option Addr)(c:Nat)(w:World)(hR:EdRow w.heap.size w p n e)(h1:1<=n)(hn:n<=1000) :
  Calls Tryz.prog 61 #[.slice p n c] w fun x w'=>∃v,x=.returned v/\NewE w e n v w':=by
 obtain⟨b,o,rfl,hb,_⟩:=hR 0 (by omega)
 obtain⟨i,hi,hz0,hz1,hz2⟩:=info_parts infoEd
 have qT:∀(w:World) (a:Option Addr) (n c n' c':Nat),(binOp .eql 28 (.slice a n c) (.slice none n' c')).run Tryz.prog w=.ok (.bool a.isNone) w :=
  fun w a n c n' c'=>Lib.run_eql_slice_nil w _ _ a n c n' c' Tryz.underlying28
 have hnews:∀j u,(rowL e n)[j]? = some u->w.cell? ⟨b,o+j,none⟩=some u:=by
  intro j u hu
  have hj:j<n*7:=by have:=(List.getElem?_eq_some_iff.1 hu).1;rwa [rowL_len] at this
  obtain⟨g,o',hp,hg,hE⟩:=hR (j/7) (by omega)
  cases hp
  have hd:j/7*7+j%7=j:=by omega
  rw[<- hd] at hu
  rw[rowL_at e n _ _ (by omega) (by omega)] at hu
  have:=edAt_cell hE hu
  rw[Nat.add_assoc,hd] at this
  exact this
 have HN:=Lib.hid hnews
 have H1:=Lib.hid h1
 have HR:=Lib.hid hR
 clear hnews hR h1
 go_enter Tryz.func61,Tryz.ntmps61
 go_wp2_with (at_builtin;refine wpList_append_own _ rfl _ _ 28 rfl w.heap.size 108 i (.agg #[.int .i64 0,.int .i64 0,.int .i64 0,.int .i64 0,.int .i64 0,.int .i64 0,.int .i64 0]) 7 56 Tryz.underlying28 hi hz0 hz1 hz2 rfl (by decide) _ _ _ rfl (World.ownsRow_made w #[] 0 (Nat.le_refl _) (by decide) rfl) ⟨b,o,none⟩ n c (rowL e n) rfl (rowL_len e n) ?c2 (rowL_one e n) ?c3 ?c4 ?c5 ?_)
 case c2=>exact fun j u hu=>by rw[add_none];exact (cell_later ((Below.refl _ _).alloc (Nat.le_refl _) _) (HN.out j u hu))
 case c3=>unfold maxLen;omega
 case c4=>omega
 case c5=>simp
 intro v' w1 hown hgr _
 obtain⟨_,⟨_,h0⟩|⟨g,cp,cur,rfl,hbg,hc,hcp,hmx,hsz,htk⟩⟩:=hown
 ·have:=H1.out;omega
 have fin:Hid (NewE w e n (.slice (some ⟨g,0,none⟩) n cp) w1):=Lib.hid ⟨g,cp,cur,rfl,hbg,hc,by omega,hmx,by simpa using htk,((Below.refl _ _).alloc (Nat.le_refl _) _).grown hgr (by simp) (fun k hk=>by simp[Value.ownBlock] at hk;omega)⟩
 go_wp2
 go_ret
 exact⟨_,rfl,fin.out⟩
end

section
attribute [local go_sem] Gives givesU
def movS(s:Sh)(x y t:Int)(m:Bool):Sh:=⟨s.k,s.n,fun i=>moveE (s.e i) x y (modZ t 4) m,s.r⟩
def ptE(e f:Nat->Ed)(k i:Nat):Ed:=if i<k then f i else e i
theorem rowL_congr{e e':Nat->Ed}:∀ {n:Nat},(∀i,i<n->e i=e' i)->rowL e n=rowL e' n
 | 0,_=>rfl
 | n+1,h=>by rw[rowL,rowL,rowL_congr fun i hi=>h i (by omega),h n (by omega)]
theorem rowL_split(e:Nat->Ed){k:Nat}:∀ {n:Nat},k<n->rowL e n=rowL e k++(edL (e k)++rowL (fun i=>e (k+1+i)) (n-k-1))
 | 0,h=>absurd h (Nat.not_lt_zero _)
 | n+1,h=>by
  by_cases hk:k=n
  ·subst hk
   rw[show k+1-k-1=0 by omega]
   simp[rowL]
  ·rw [show n + 1 - k - 1 = (n - k - 1) + 1 by omega, rowL, rowL, rowL_split e (show k < n by omega), show k + 1 + (n - k - 1) = n by omega]
   simp only[List.append_assoc]
theorem row_take(e:Nat->Ed){k n:Nat}(h:k<n)(sl:List Value):(rowL e n++sl).take (k*7)=rowL e k:=by
 rw[rowL_split e h,List.append_assoc,<- rowL_len e k,List.take_left]
theorem row_mid(e:Nat->Ed){k n:Nat}(h:k<n)(sl:List Value):((rowL e n++sl).drop (k*7)).take 7=edL (e k):=by
 rw[rowL_split e h,List.append_assoc,<- rowL_len e k,List.drop_left,List.append_assoc]
 exact List.take_left' rfl
theorem row_put(e f:Nat->Ed){k n:Nat}(h:k<n)(sl:List Value):(rowL (ptE e f k) n++sl).take (k*7)++(edL (f k)++(rowL (ptE e f k) n++sl).drop (k*7+(edL (f k)).length))=rowL (ptE e f (k+1)) n++sl:=by
 rw[row_take _ h,rowL_split (ptE e f (k+1)) h,rowL_split (ptE e f k) h,edL_len]
 rw[show rowL (ptE e f (k+1)) k=rowL (ptE e f k) k from rowL_congr fun i hi=>by unfold ptE;rw[if_pos (by omega),if_pos hi]]
 rw[show ptE e f (k+1) k=f k by unfold ptE;rw[if_pos (by omega)]]
 rw[show (fun i=>ptE e f (k+1) (k+1+i))=(fun i=>ptE e f k (k+1+i)) by funext i;unfold ptE;rw[if_neg (by omega),if_neg (by omega)]]
 simp only[List.append_assoc]
 congr 2
 rw[<- List.drop_drop,<- rowL_len (ptE e f k) k,List.drop_left]
 exact List.drop_left' rfl
theorem row_set{W:World}{B i:Nat}{xs:Array Value}{T:TypeId}(v:Value)(h:W.heap[B]? = some (.cells xs T)):(W.setCell ⟨B,i,none⟩ v).heap[B]? = some (.cells (xs.setIfInBounds i v) T):=by
 have hB:=(Array.getElem?_eq_some_iff.1 h).1
 have e:=(Array.getElem?_eq_some_iff.1 h).2
 rw[Array.getElem?_eq_some_iff]
 refine⟨by simpa[World.setCell] using hB,?_⟩
 simp only[World.setCell,Array.getElem_modify,if_true,e]
 simp
theorem row_oth{W:World}{B g i:Nat}(v:Value)(h:B≠g):(W.setCell ⟨B,i,none⟩ v).heap[g]? = W.heap[g]? := by
 simp[World.setCell,Array.getElem?_modify,h]
structure MI (w W:World) (s:Sh) (x y t:Int) (m:Bool) (f:Nat->Ed) (g cp:Nat) (sl:List Value) (k:Nat):Prop where
 ex:Ext w W
 b2:W.heap[w.heap.size]? = some (.cells #[.int .i64 s.k,.slice (some ⟨g,0,none⟩) s.n cp,.int .i64 s.r] 30)
 b3:W.heap[w.heap.size+1]? = some (.cells #[.int .i64 x,.int .i64 y,.int .i64 t,.bool m] 74)
 b4:W.heap[w.heap.size+1+1]? = some (.cells #[.int .i64 0,.slice none 0 0,.int .i64 0] 30)
 bg:W.heap[g]? = some (.cells (rowL (ptE s.e f k) s.n++sl).toArray 108)
 lt:w.heap.size+1+1<g
theorem MI.ext{w W W':World}{s:Sh}{x y t:Int}{m:Bool}{f:Nat->Ed}{g cp:Nat}{sl:List Value}{k:Nat}(h:MI w W s x y t m f g cp sl k)(hx:Ext W W'):MI w W' s x y t m f g cp sl k:=⟨Ext.step h.ex hx,heap_ext h.b2 hx,heap_ext h.b3 hx,heap_ext h.b4 hx,heap_ext h.bg hx,h.lt⟩
theorem MI.cells{w W:World}{s:Sh}{x y t:Int}{m:Bool}{f:Nat->Ed}{g cp:Nat}{sl:List Value}{k:Nat}(h:MI w W s x y t m f g cp sl k):(W.cell? ⟨w.heap.size,0,none⟩=some (.int .i64 s.k)/\W.cell? ⟨w.heap.size,1,none⟩=some (.slice (some ⟨g,0,none⟩) s.n cp)/\W.cell? ⟨w.heap.size,2,none⟩=some (.int .i64 s.r)) /\
  W.cell? ⟨w.heap.size+1,0,none⟩=some (.int .i64 x)/\W.cell? ⟨w.heap.size+1,1,none⟩=some (.int .i64 y)/\W.cell? ⟨w.heap.size+1,2,none⟩=some (.int .i64 t)/\W.cell? ⟨w.heap.size+1,3,none⟩=some (.bool m):=by
 have e2:=h.b2
 have e3:=h.b3
 have c2:∀i,W.cell? ⟨w.heap.size,i,none⟩=(#[.int .i64 s.k,.slice (some ⟨g,0,none⟩) s.n cp,.int .i64 s.r]:Array Value)[i]? := fun i=>by rw[cell_of_row _ _ _ _ _ _ e2]
 have c3:∀i,W.cell? ⟨w.heap.size+1,i,none⟩=(#[.int .i64 x,.int .i64 y,.int .i64 t,.bool m]:Array Value)[i]? := fun i=>by rw[cell_of_row _ _ _ _ _ _ e3]
 exact⟨⟨(c2 0).trans rfl,(c2 1).trans rfl,(c2 2).trans rfl⟩,(c3 0).trans rfl,(c3 1).trans rfl,(c3 2).trans rfl,(c3 3).trans rfl⟩
theorem MI.edge{w W:World}{s:Sh}{x y t:Int}{m:Bool}{f:Nat->Ed}{g cp:Nat}{sl:List Value}{k:Nat}(h:MI w W s x y t m f g cp sl k)(hk:k<s.n):EdAt W g (k*7) (s.e k):=by
 have key:∀j u,(edL (s.e k))[j]? = some u->W.cell? ⟨g,k*7+j,none⟩=some u:=fun j u hu=>by
  have hj:j<7:=by have:=(List.getElem?_eq_some_iff.1 hu).1;simpa[edL] using this
  rw[cell_of_row _ _ _ _ _ _ h.bg]
  simp only[List.getElem?_toArray]
  rw[List.getElem?_append_left (by rw[rowL_len];omega),rowL_at _ _ _ _ hk hj]
  unfold ptE
  rw[if_neg (Nat.lt_irrefl _)]
  exact hu
 exact⟨key 0 _ rfl,key 1 _ rfl,key 2 _ rfl,key 3 _ rfl,key 4 _ rfl,key 5 _ rfl,key 6 _ rfl⟩
end

set_option maxHeartbeats 4000000
set_option maxRecDepth 100000
section
attribute [local go_sem] Gives givesU
theorem mvCall{e:Ed}(h:e.ok=true){x y t:Int}(m:Bool)(hx:x.natAbs<=c26)(hy:y.natAbs<=c26)(ht : -8<=t/\t<=8)(W:World):Calls Tryz.prog 86 #[edA e,.agg #[.int .i64 x,.int .i64 y,.int .i64 t,.bool m]] W fun e' W'=>e'=.returned (edA (moveE e x y (modZ t 4) m))/\Ext W W':=by
 have c:c26<=9223372036854775807:=by decide
 have c8:8<=c26:=by decide
 refine (move_fok e x y t m h ht W _ (rvs_cons.2 ⟨_,edV_rep h,_,rfl,rvs_cons.2 ⟨_,rv_t.2 ⟨_,rl_i.2 ⟨⟨hx,by unfold I64;omega⟩,_,rfl,rl_i.2 ⟨⟨hy,by unfold I64;omega⟩,_,rfl,rl_i.2 ⟨⟨by omega,by unfold I64;omega⟩,_,rfl,rl_v.2 ⟨rfl,_,rfl,rfl⟩⟩⟩⟩,rfl⟩,_,rfl,rfl⟩⟩)).mono ?_
 rintro e' W' ⟨v,rfl,hv,hx⟩
 refine⟨?_,hx⟩
 have:=toEd_rep (l:=edI (moveE e x y (modZ t 4) m)) rfl hv
 rw[this]
 rfl
theorem moveE_I{e:Ed}(h:e.ok=true){x y t:Int}(m:Bool)(hx:x.natAbs<=c26)(hy:y.natAbs<=c26):EdI (moveE e x y (modZ t 4) m):=by
 have hk:=kind_of h
 obtain⟨⟨h1,h2⟩,⟨h3,h4⟩,h5,h6⟩:=ok_right h
 unfold Co at h1 h2 h3 h4 h5 h6
 have b:∀u v:Int,u.natAbs<=c26->v.natAbs<=c26->I64 (applyP x y (modZ t 4) m u v).1/\I64 (applyP x y (modZ t 4) m u v).2:=fun u v hu hv=>by
  obtain⟨b1,b2⟩:=applyQ_bd (ax:=x) (ay:=y) (n:=t) (x:=u) (y:=v) (m:=m) hx hy hu hv
  unfold c26 at b1 b2
  unfold applyQ at b1 b2
  unfold I64
  omega
 have c1:=b e.ax e.ay (by unfold c26;omega) (by unfold c26;omega)
 have c2:=b e.bx e.by' (by unfold c26;omega) (by unfold c26;omega)
 have c3:=b e.cx e.cy (by unfold c26;omega) (by unfold c26;omega)
 have k0:I64 (if m then (fam e.k).k else e.k):=by
  rcases hk with k|k|k<;>rw[k]<;>cases m<;>(unfold I64;decide)
 refine⟨k0,c1.1,c1.2,c2.1,c2.2,?_,?_⟩
 ·show I64 (if e.k = 1 then e.cx else _)
  split
  ·unfold I64;omega
  ·exact c3.1
 ·show I64 (if e.k = 1 then e.cy else _)
  split
  ·unfold I64;omega
  ·exact c3.2
theorem shMoveG(s:Sh)(x y t:Int)(m:Bool)(f:Nat->Ed)(p:Option Addr)(c:Nat)(w:World)(h:ShAt w s p c)(h1:1<=s.n)(hn:s.n<=1000)(MV:∀k,k<s.n->∀W,Calls Tryz.prog 86 #[edA (s.e k),.agg #[.int .i64 x,.int .i64 y,.int .i64 t,.bool m]] W fun e' W'=>e'=.returned (edA (f k))/\Ext W W')(OK:∀i,i<s.n->EdI (f i)) :
  Calls Tryz.prog 29 #[.agg #[.int .i64 s.k,.slice p s.n c,.int .i64 s.r],.agg #[.int .i64 x,.int .i64 y,.int .i64 t,.bool m]] w fun e w'=>∃g cp,e=.returned (.agg #[.int .i64 s.k,.slice (some ⟨g,0,none⟩) s.n cp,.int .i64 s.r])/\(I64 s.k/\I64 s.r)/\EdC w' s.n (fun i=>e7 (f i)) (.slice (some ⟨g,0,none⟩) s.n cp)/\Ext w w':=by
 have CL:=Lib.hid (fun W (hW:Ext w W)=>cloneEd s.n s.e p c W (h.ext hW).edr h1 hn)
 replace MV:=Lib.hid MV
 replace OK:=Lib.hid OK
 have H:=Lib.hid h
 have X0:Ext w (((w.alloc (.cells #[.int .i64 s.k,.slice p s.n c,.int .i64 s.r] 30)).alloc (.cells #[.int .i64 x,.int .i64 y,.int .i64 t,.bool m] 74)).alloc (.cells #[.int .i64 0,.slice none 0 0,.int .i64 0] 30)):=bxx
 have X0:=Lib.hid X0
 clear h
 go_enter Tryz.func29,Tryz.ntmps29
 go_wp2_with fail
 refine (CL.out _ X0.out).mono ?_
 rintro e W1 ⟨_,rfl,g,cp,cur,rfl,hg,hc,hcp,hmx,htk,hx1⟩
 have M0:MI w (W1.setCell ⟨w.heap.size,1,none⟩ (.slice (some ⟨g,0,none⟩) s.n cp)) s x y t m f g cp (cur.toList.drop (s.n*7)) 0:=by
  have a0:=World.alloc_heap_new w (.cells #[.int .i64 s.k,.slice p s.n c,.int .i64 s.r] 30)
  have a1:=World.alloc_heap_new (w.alloc (.cells #[.int .i64 s.k,.slice p s.n c,.int .i64 s.r] 30)) (.cells #[.int .i64 x,.int .i64 y,.int .i64 t,.bool m] 74)
  have a2:=World.alloc_heap_new ((w.alloc (.cells #[.int .i64 s.k,.slice p s.n c,.int .i64 s.r] 30)).alloc (.cells #[.int .i64 x,.int .i64 y,.int .i64 t,.bool m] 74)) (.cells #[.int .i64 0,.slice none 0 0,.int .i64 0] 30)
  have b0:=heap_ext (heap_ext (heap_ext a0 (below_alloc _ _)) (below_alloc _ _)) hx1
  have b1:=heap_ext (heap_ext a1 (below_alloc _ _)) hx1
  have b2:=heap_ext a2 hx1
  simp only[World.size_alloc] at b1 b2 hg
  have hlt:w.heap.size+1+1<g:=by omega
  refine⟨(Ext.step X0.out hx1).setCell (p:=⟨w.heap.size,1,none⟩) (Nat.le_refl _) _,?_,?_,?_,?_,hlt⟩
  ·exact row_set _ b0
  ·exact (row_oth _ (by omega)).trans b1
  ·exact (row_oth _ (by omega)).trans b2
  ·refine (row_oth _ (by omega)).trans ?_
   rw[hc,show rowL (ptE s.e f 0) s.n=rowL s.e s.n from rowL_congr fun i _=>if_neg (Nat.not_lt_zero _),<- htk,List.take_append_drop]
 have HM:=Lib.hid M0
 have FN:=Lib.hid hcp
 have FX:=Lib.hid hmx
 clear M0 hc hcp hmx htk hg
 obtain⟨sl,hsl⟩:∃sl,cur.toList.drop (s.n*7)=sl:=⟨_,rfl⟩
 rw[hsl] at HM
 clear hsl
 rename_i K1 HK1 K2 HK2
 have hp1:w.heap.size+1+1<W1.heap.size:=by have:=hx1.size;simp at this;omega
 have c1:W1.heap[w.heap.size]? = some (.cells #[.int .i64 s.k,.slice p s.n c,.int .i64 s.r] 30):=heap_ext (heap_ext (heap_ext (World.alloc_heap_new w _) (below_alloc _ _)) (below_alloc _ _)) hx1
 have fz:W1.frozen? ⟨w.heap.size,1,none⟩=false:=by simp[World.frozen?,c1]
 have k1:W1.cell? ⟨w.heap.size,1,none⟩=some (.slice p s.n c):=by rw[cell_of_row _ _ _ _ _ _ c1];simp
 clear c1
 clear hx1 X0
 go_wp2
 go_loopw [13] (fun i wr=>∃k:Nat,i=.int .i64 (k:Int)/\k<=s.n/\MI w wr s x y t m f g cp sl k) (fun i _=>s.n-(intOf i).toNat)
 case atStart=>exact⟨0,rfl,Nat.zero_le _,HM.out⟩
 case round =>
  obtain⟨k,rfl,hk,hM⟩:=hrel
  clear HM fz k1 hp1
  by_cases hlt:k<s.n
  ·obtain ⟨⟨a0, a1, a2⟩, a3, a4, a5, a6⟩ := hM.cells
   have hE:=hM.edge hlt
   have ix0:0<=(k:Int):=by omega
   have ix2:(k:Int)<(s.n:Int):=by omega
   have HM:=Lib.hid hM
   clear hM
   have CC:=Lib.hid (fun W (hW:Ext wr W)=>And.intro (HM.out.ext hW).cells ((HM.out.ext hW).edge hlt))
   obtain⟨mv,hmv⟩:∃mv,f k=mv:=⟨_,rfl⟩
   have MVk:=MV.out k hlt
   rw[hmv] at MVk
   unfold edA at MVk
   have MVk:=Lib.hid MVk
   have EM:=Lib.hid hmv
   clear hmv
   go_upto_region 5 with (fail)
   refine wp_region_T 11 (fun W=>Ext wr W) (by kernel_rfl) (by kernel_rfl) (by kernel_rfl) (Below.refl _ _) (fun W W' h hb=>Ext.step h hb) (fun W h=>h.size) ?_
   simp only[List.take_succ_cons,List.take_zero,List.drop_succ_cons,List.drop_zero]
   repeat (refine T_run (v:=?_) (by rfl) ?_ ?_;rotate_left;(· (intro W hW;obtain⟨⟨⟨a0,a1,a2⟩,a3,a4,a5,a6⟩,e0,e1,e2,e3,e4,e5,e6⟩:=CC.out W hW;go_simp;try with_reducible rfl));simp only[Act.put,List.setIfInBounds_toArray,List.set_cons_zero,List.set_cons_succ])
   (refine T_call (v:=.agg #[.int .i64 mv.k,.int .i64 mv.ax,.int .i64 mv.ay,.int .i64 mv.bx,.int .i64 mv.by',.int .i64 mv.cx,.int .i64 mv.cy]) (by rfl) (by rfl) ?_ ?_;(· (intro W hW;(try dsimp only at hW);go_simp;refine (MVk.out _).mono ?_;rintro e w' ⟨rfl,hx⟩;exact⟨_,rfl,rfl,hx⟩)));simp only[Act.put,List.setIfInBounds_toArray,List.set_cons_zero,List.set_cons_succ]
   repeat (refine T_run (v:=?_) (by rfl) ?_ ?_;rotate_left;(· (intro W hW;obtain⟨⟨⟨a0,a1,a2⟩,a3,a4,a5,a6⟩,e0,e1,e2,e3,e4,e5,e6⟩:=CC.out W hW;go_simp;try with_reducible rfl));simp only[Act.put,List.setIfInBounds_toArray,List.set_cons_zero,List.set_cons_succ])
   refine T_done ?_
   refine F_store (fun W=>MI w W s x y t m f g cp sl (k+1)) (fun W W' h hb=>h.ext hb) (fun _ _=>trivial) (by rfl) (by rfl) (fun W hW=>?_) ?_
   ·have M := HM.out.ext hW
    have hb:=M.bg
    have hf:f k=mv:=EM.out
    have hp:=row_put s.e f hlt sl
    rw[hf] at hp
    obtain⟨o1,o2⟩:=onlyB_setRow (cs':=((rowL (ptE s.e f k) s.n++sl).take (k*7)++(edL mv++(rowL (ptE s.e f k) s.n++sl).drop (k*7+(edL mv).length))).toArray) hb
    refine gives_skip (W:=W.setRow g ((rowL (ptE s.e f k) s.n++sl).take (k*7)++(edL mv++(rowL (ptE s.e f k) s.n++sl).drop (k*7+(edL mv).length))).toArray) (ex_store (vs:=edL mv) rfl (by rfl) hb (by rfl) (n:=7) (by kernel_rfl) rfl (by rw[List.length_append,rowL_len,edL_len];omega) (edL_one mv)) ⟨rfl,by rw[o1.size];exact Nat.le_refl _,?_⟩
    have hl:=M.lt
    exact⟨M.ex.trans (o1.below (by omega)),(o1.block _ (by omega)).trans M.b2,(o1.block _ (by omega)).trans M.b3,(o1.block _ (by omega)).trans M.b4,o2.trans (by rw[hp]),hl⟩
   ·rintro W ⟨hM', _⟩
    have HM2:=Lib.hid hM'
    clear hM'
    have wk:IntKind.i64.wrap ((k:Int)+1)=((k+1:Nat):Int):=by rw[wrap_in (by unfold I64;omega)];omega
    go_wp2
    exact⟨⟨k+1,by simp,by omega,HM2.out⟩,by simp[intOf];omega⟩
  ·obtain rfl : k = s.n := by omega
   have ix:¬((s.n:Int)<(s.n:Int)):=by omega
   obtain⟨⟨a0,a1,a2⟩,a3,a4,a5,a6⟩:=hM.cells
   have e4:=hM.b4
   have d0:wr.cell? ⟨w.heap.size+1+1,0,none⟩=some (.int .i64 0):=by rw[cell_of_row _ _ _ _ _ _ e4];rfl
   have d1:wr.cell? ⟨w.heap.size+1+1,1,none⟩=some (.slice none 0 0):=by rw[cell_of_row _ _ _ _ _ _ e4];rfl
   have d2:wr.cell? ⟨w.heap.size+1+1,2,none⟩=some (.int .i64 0):=by rw[cell_of_row _ _ _ _ _ _ e4];rfl
   have f4:∀o,wr.frozen? ⟨w.heap.size+1+1,o,none⟩=false:=fun o=>by simp[World.frozen?,e4]
   have HM:=Lib.hid hM
   clear hM e4
   go_wp2
   refine bodyPost_ret (v:=.agg #[.int .i64 s.k,.slice (some ⟨g,0,none⟩) s.n cp,.int .i64 s.r]) (by simp only[results,Tryz.results29];go_simp) rfl ?_
   have M:=HM.out
   have hl:=M.lt
   have hs:=H.out
   refine⟨g,cp,rfl,⟨hs.k,hs.r⟩,?_,?_⟩
   ·refine ⟨_, cp, rfl, FN.out, FX.out, fun i hi => ?_⟩
    have hi:i<s.n:=hi
    have hb:(((wr.setCell ⟨w.heap.size+1+1,0,none⟩ (.int .i64 s.k)).setCell ⟨w.heap.size+1+1,1,none⟩ (.slice (some ⟨g,0,none⟩) s.n cp)).setCell ⟨w.heap.size+1+1,2,none⟩ (.int .i64 s.r)).heap[g]? = some (.cells (rowL (ptE s.e f s.n) s.n++sl).toArray 108):=by
     rw[row_oth _ (by omega),row_oth _ (by omega),row_oth _ (by omega)];exact M.bg
    refine⟨g,0,_,(0,0),rfl,hb,by simp only[List.size_toArray,List.length_append,rowL_len];have:=Nat.mul_le_mul_right 7 (show i<=s.n by omega);omega,⟨((rowL (ptE s.e f s.n) s.n++sl).drop (i*7)).drop 7,?_⟩,?_⟩
    ·have := row_mid (ptE s.e f s.n) hi sl
     rw[show ptE s.e f s.n i=f i from if_pos hi] at this
     show (rowL (ptE s.e f s.n) s.n++sl).drop (0+i*7)=edL (f i)++_
     rw[Nat.zero_add,<- this]
     exact (List.take_append_drop 7 _).symm
    ·obtain ⟨o0, o1, o2, o3, o4, o5, o6⟩ := OK.out i hi
     simp only[e7,List.mem_cons,List.not_mem_nil,or_false,forall_eq_or_imp,forall_eq]
     exact⟨⟨i64_lim o0,o0⟩,⟨i64_lim o1,o1⟩,⟨i64_lim o2,o2⟩,⟨i64_lim o3,o3⟩,⟨i64_lim o4,o4⟩,⟨i64_lim o5,o5⟩,⟨i64_lim o6,o6⟩⟩
   ·exact (((M.ex.setCell (p:=⟨w.heap.size+1+1,0,none⟩) (by show w.heap.size<=w.heap.size+1+1;omega) _).setCell (p:=⟨w.heap.size+1+1,1,none⟩) (by show w.heap.size<=w.heap.size+1+1;omega) _).setCell (p:=⟨w.heap.size+1+1,2,none⟩) (by show w.heap.size<=w.heap.size+1+1;omega) _)
theorem shMove(s:Sh)(x y t:Int)(m:Bool)(p:Option Addr)(c:Nat)(w:World)(h:ShAt w s p c)(h1:1<=s.n)(hn:s.n<=1000)(hok:∀i,i<s.n->(s.e i).ok=true)(hx:x.natAbs<=c26)(hy:y.natAbs<=c26)(ht : -8<=t/\t<=8) :
  Calls Tryz.prog 29 #[.agg #[.int .i64 s.k,.slice p s.n c,.int .i64 s.r],.agg #[.int .i64 x,.int .i64 y,.int .i64 t,.bool m]] w fun e w'=>∃g cp,e=.returned (.agg #[.int .i64 s.k,.slice (some ⟨g,0,none⟩) s.n cp,.int .i64 s.r])/\(I64 s.k/\I64 s.r)/\EdC w' s.n (fun i=>e7 ((movS s x y t m).e i)) (.slice (some ⟨g,0,none⟩) s.n cp)/\Ext w w' :=
 shMoveG s x y t m (movS s x y t m).e p c w h h1 hn (fun k hk W=>mvCall (hok k hk) m hx hy ht W) fun i hi=>moveE_I (hok i hi) m hx hy (t:=t)
end
end Go.Proofs.YtghemgdfmldoeaaGreat
