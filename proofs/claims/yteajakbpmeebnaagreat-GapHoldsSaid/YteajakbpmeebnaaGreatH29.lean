import Derived.Test.YteajakbpmeebnaaGreatH28
set_option linter.unusedVariables false
set_option linter.unusedSimpArgs false

namespace Go.Proofs.YteajakbpmeebnaaGreat
open Go.RowKit

set_option maxHeartbeats 4000000
set_option maxRecDepth 100000
section
theorem put_size{a:Act}{d:Nat}{v:Value}:(a.put (some d) v).tmps.size=a.tmps.size:=by simp[Act.put]
theorem put_none{a:Act}{v:Value}:a.put none v=a:=rfl
theorem ex_extract{P:Program}{o:Oper}{a:Act}{x:Operand}{j:Nat}{vs:List Value}{v:Value}(ho:o.op=.extract x j)(hx:a.eval x=.tuple vs.toArray)(hv:vs[j]? = some v)(w:World):(execOp a.eval o).run P w=.ok (.value v) w:=by
 refine exec_val (m:=Instr.extract (a.eval x) j) (by unfold execOp;rw[ho]) ?_
 rw[hx]
 simp only[Instr.extract,List.getElem?_toArray,hv,Sem.run_pure]
theorem ex_alloc{P:Program}{o:Oper}{a:Act}{t:TypeId}{i:TypeInfo}{z:Value}(ho:o.op=.alloc t)(hi:P.info? t=some i)(hz:i.zero=some z)(w:World):(execOp a.eval o).run P w=.ok (.value (ptrA w.heap.size)) (w.alloc (.cells z.cells t)) :=
 exec_val (m:=Instr.alloc t true (.tuple #[])) (by unfold execOp;rw[ho]) (run_allocA hi hz w)
theorem info_of{P:Program}{t:TypeId}{z:Value}(h:((P.info? t).bind (·.zero))=some z):∃i,P.info? t=some i/\i.zero=some z:=by
 cases hi:P.info? t with
 | none=>rw[hi] at h;cases h
 | some i=>rw[hi] at h;exact⟨i,rfl,h⟩
theorem al_sto{ops:Array Oper}{o1 o2:Oper}{l:List Oper}(a:Act)(W:World)(t n d s:Nat)(z:Value)(old vs:List Value)(Q:Act->World->Prop)(h1:o1.op=.alloc t)(h2:o2.op=.store t (.tmp d) (.tmp s))(d1:o1.dst=some d)(d2:o2.dst=none)(g1:o1.guard=none)(g2:o2.guard=none)(hi:((Tryz.prog.info? t).bind (·.zero))=some z)(hz:z.cells=old.toArray)(hn:szT Tryz.prog t=some n)(ho:old.length=n)(hd:d<a.tmps.size)(hds:d≠s)
  (hs:(a.tmps.getD s undef).cells=vs.toArray) (hl:vs.length=n) (hv:∀v∈vs,v.oneCell'=true) (hQ:∀W',Ext W W'->W.heap.size<W'.heap.size->W'.heap[W.heap.size]? = some (.cells vs.toArray t)->WpS Tryz.prog ops Q l (a.put (some d) (ptrA W.heap.size)) W'):WpS Tryz.prog ops Q (o1::o2::l) a W:=by
 obtain⟨i,i1,i2⟩:=info_of hi
 refine wpS_val (by unfold Region.wanted;rw[g1]) (ex_alloc h1 i1 i2 W) ?_
 rw[d1,hz]
 have hg:(W.alloc (.cells old.toArray t)).heap[W.heap.size]? = some (.cells old.toArray t):=World.alloc_heap_new _ _
 obtain⟨k1,k2⟩:=onlyB_setRow (cs':=(old.take 0++(vs++old.drop (0+vs.length))).toArray) hg
 have ec:(old.take 0++(vs++old.drop (0+vs.length)))=vs:=by rw[List.take_zero,List.nil_append,Nat.zero_add,List.drop_eq_nil_of_le (by omega),List.append_nil]
 refine wpS_skip (W:=(W.alloc (.cells old.toArray t)).setRow W.heap.size (old.take 0++(vs++old.drop (0+vs.length))).toArray) (by unfold Region.wanted;rw[g2]) ?_ ?_
 ·exact ex_store h2 (show (a.put (some d) (ptrA W.heap.size)).tmps.getD d undef=_ from put_lt hd) hg (by rw[show (a.put (some d) (ptrA W.heap.size)).eval (.tmp s)=(a.put (some d) (ptrA W.heap.size)).tmps.getD s undef from rfl,put_ne hds];exact hs) hn hl (by omega) hv
 ·rw [d2, put_none]
  have hx:Ext W ((W.alloc (.cells old.toArray t)).setRow W.heap.size (old.take 0++(vs++old.drop (0+vs.length))).toArray):=(below_alloc W _).trans (k1.below (Nat.le_refl _))
  exact hQ _ hx (by rw[k1.size];simp) (by rw[k2,ec])
theorem r4(a:Act)(W:World)(Q:Act->World->Prop)(hsz:a.tmps.size=94)
  (hQ:∀a' W1 W2,a'.tmps.size=94->a'.defers=a.defers->(∀t,35≠t->34≠t->36≠t->37≠t->7≠t->8≠t->a'.tmps.getD t undef=a.tmps.getD t undef)->a'.tmps.getD 7 undef=ptrA W1.heap.size->a'.tmps.getD 8 undef=lsF W.heap.size->Ext W W1->Ext W1 W2->W1.heap[W.heap.size+1]? = some (.cells #[.bool false] 4)->W1.heap[W.heap.size]? = some (.cells zGp.toArray 53)->W2.heap[W1.heap.size]? = some (.cells #[kpF (W.heap.size+1) W.heap.size] 74)->Q a' W2):WpS Tryz.prog (gR 4).toArray Q (gR 4) a W:=by
 have es:gR 4=[gO 4 0,gO 4 1,gO 4 2,gO 4 3,gO 4 4,gO 4 5,gO 4 6]:=by kernel_rfl
 have d0:(gO 4 0).dst=some 35:=by kernel_rfl
 have d1:(gO 4 1).dst=some 34:=by kernel_rfl
 have d2:(gO 4 2).dst=some 36:=by kernel_rfl
 have d3:(gO 4 3).dst=some 37:=by kernel_rfl
 have d6:(gO 4 6).dst=some 8:=by kernel_rfl
 rw[show WpS Tryz.prog (gR 4).toArray Q (gR 4) a W=WpS Tryz.prog (gR 4).toArray Q [gO 4 0,gO 4 1,gO 4 2,gO 4 3,gO 4 4,gO 4 5,gO 4 6] a W by rw[<- es]]
 have en:(execOp a.eval (gO 4 0)).run Tryz.prog W=.ok (.enter 38 #[]) W:=by
  simpa using run_enter (P:=Tryz.prog) (o:=gO 4 0) (a:=a) (f:=38) (x:=.func 38) (caps:=#[]) (cl:={ callee:=.value (.func 38),args:=#[],argTypes:=#[] }) prog_nm Tryz.func38 rfl (by kernel_rfl) rfl rfl W
 refine wpS_call (by kernel_rfl) en (gap_nearest W) (fun e W h=>⟨_,h.1⟩) fun v W1 ⟨e,hx1,hs,hl⟩=>?_
 cases e
 rw[d0]
 refine wpS_val (by kernel_rfl) (ex_move (x:=.tmp 35) (by kernel_rfl) W1) ?_
 rw[d1,show (a.put (some 35) _).eval (.tmp 35)=_ from put_lt (by rw[hsz];decide)]
 refine wpS_val (by kernel_rfl) (ex_extract (x:=.tmp 34) (j:=0) (vs:=[kpF (W.heap.size+1) W.heap.size,lsF W.heap.size]) (by kernel_rfl) (put_lt (by simp[put_size,hsz])) rfl W1) ?_
 rw[d2]
 refine wpS_val (by kernel_rfl) (ex_extract (x:=.tmp 34) (j:=1) (vs:=[kpF (W.heap.size+1) W.heap.size,lsF W.heap.size]) (by kernel_rfl) (by rw[show ∀b:Act,b.eval (.tmp 34)=b.tmps.getD 34 undef from fun _=>rfl,put_ne (show 36≠34 by decide)];exact put_lt (by simp[put_size,hsz])) rfl W1) ?_
 rw[d3]
 refine al_sto _ W1 74 1 7 36 .nilFunc [.nilFunc] [kpF (W.heap.size+1) W.heap.size] Q (by kernel_rfl) (by kernel_rfl) (by kernel_rfl) (by kernel_rfl) (by kernel_rfl) (by kernel_rfl) (by kernel_rfl) (by kernel_rfl) (by kernel_rfl) rfl (by simp[put_size,hsz]) (by decide) (by rw[put_ne (show 37≠36 by decide),put_lt (by simp[put_size,hsz])];rfl) rfl (fun v hv=>by rw[List.mem_singleton.1 hv];rfl) fun W2 hx2 hlt h7=>?_
 refine wpS_val (by kernel_rfl) (ex_assign (x:=.tmp 37) (by kernel_rfl) W2) ?_
 rw[d6]
 refine hQ _ W1 W2 (by simp[put_size,hsz]) rfl (fun t n1 n2 n3 n4 n5 n6=>?_) (by rw[put_ne (show 8≠7 by decide)];exact put_lt (by simp[put_size,hsz])) ?_ hx1 hx2 hs hl h7
 ·rw[put_ne n6,put_ne n5,put_ne n4,put_ne n3,put_ne n2,put_ne n1]
 ·rw [put_lt (by simp [put_size, hsz])]
  show (Act.put _ (some 7) _).tmps.getD 37 undef=_
  rw[put_ne (show 7≠37 by decide),put_lt (by simp[put_size,hsz])]
end

set_option maxHeartbeats 4000000
set_option maxRecDepth 100000
section
theorem r5(a:Act)(W:World)(s u:Sh)(p q:Option Addr)(c d B2 B3:Nat)(Q:Act->World->Prop)(hsz:a.tmps.size=94)(h2:a.tmps.getD 2 undef=ptrA B2)(h3:a.tmps.getD 3 undef=ptrA B3)(g2:W.heap[B2]? = some (.cells (shC3 s p c) 30))(g3:W.heap[B3]? = some (.cells (shC3 u q d) 30))
  (hQ:∀a' W',a'.tmps.size=94->a'.defers=a.defers->(∀t,38≠t->39≠t->40≠t->a'.tmps.getD t undef=a.tmps.getD t undef)->a'.tmps.getD 40 undef=.func (.func 81) #[] #[ptrA W.heap.size,ptrA (W.heap.size+1)]->Ext W W'->W'.cell? ⟨W.heap.size,1,none⟩=some (.slice p s.n c)->W'.cell? ⟨W.heap.size+1,1,none⟩=some (.slice q u.n d)->W.heap.size+1<W'.heap.size->Q a' W'):WpS Tryz.prog (gR 5).toArray Q (gR 5) a W:=by
 have es:gR 5=[gO 5 0,gO 5 1,gO 5 2]:=by kernel_rfl
 have d0:(gO 5 0).dst=some 38:=by kernel_rfl
 have d1:(gO 5 1).dst=some 39:=by kernel_rfl
 have d2:(gO 5 2).dst=some 40:=by kernel_rfl
 rw[show WpS Tryz.prog (gR 5).toArray Q (gR 5) a W=WpS Tryz.prog (gR 5).toArray Q [gO 5 0,gO 5 1,gO 5 2] a W by rw[<- es]]
 have v1:=ex_load (P:=Tryz.prog) (o:=gO 5 0) (a:=a) (w:=W) (t:=30) (x:=.tmp 2) (j:=0) (n:=3) (b:=true) (cs:=(shC3 s p c).toList) (by kernel_rfl) h2 (by simpa using g2) (by kernel_rfl) (by kernel_rfl) (by simp[shC3]) nofun
 refine wpS_val (x:=.agg (shC3 s p c)) (W:=W) (by kernel_rfl) v1 ?_
 rw[d0]
 have v2:=ex_load (P:=Tryz.prog) (o:=gO 5 1) (a:=a.put (some 38) (.agg (shC3 s p c))) (w:=W) (t:=30) (x:=.tmp 3) (j:=0) (n:=3) (b:=true) (cs:=(shC3 u q d).toList) (by kernel_rfl) (show (a.put (some 38) (.agg (shC3 s p c))).tmps.getD 3 undef=_ by rw[put_ne (show 38≠3 by decide)];exact h3) (by simpa using g3) (by kernel_rfl) (by kernel_rfl) (by simp[shC3]) nofun
 refine wpS_val (x:=.agg (shC3 u q d)) (W:=W) (by kernel_rfl) v2 ?_
 rw[d1]
 have en:(execOp ((a.put (some 38) (.agg (shC3 s p c))).put (some 39) (.agg (shC3 u q d))).eval (gO 5 2)).run Tryz.prog W=.ok (.enter 39 #[.agg (shC3 s p c),.agg (shC3 u q d)]) W:=by
  have:=run_enter (P:=Tryz.prog) (o:=gO 5 2) (a:=(a.put (some 38) (.agg (shC3 s p c))).put (some 39) (.agg (shC3 u q d))) (f:=39) (x:=.func 39) (caps:=#[]) (cl:={ callee:=.value (.func 39),args:=#[.tmp 38,.tmp 39],argTypes:=#[30,30] }) prog_nm Tryz.func39 rfl (by kernel_rfl) rfl rfl W
  rw[this]
  simp only[List.map_toArray,List.map_cons,List.map_nil]
  rw[show ((a.put (some 38) (.agg (shC3 s p c))).put (some 39) (.agg (shC3 u q d))).eval (.tmp 38)=.agg (shC3 s p c) from (put_ne (by decide)).trans (put_lt (by rw[hsz];decide)),show ((a.put (some 38) (.agg (shC3 s p c))).put (some 39) (.agg (shC3 u q d))).eval (.tmp 39)=.agg (shC3 u q d) from put_lt (by rw[put_size,hsz];decide)]
  rfl
 refine wpS_call (by kernel_rfl) en (gap_pairs s.k s.r u.k u.r p q s.n c u.n d W) (fun e W h=>⟨_,h.1⟩) fun v W1 ⟨e,hx1,c0,c1,hz⟩=>?_
 cases e
 rw[d2]
 exact hQ _ W1 (by rw[put_size,put_size,put_size,hsz]) rfl (fun t n1 n2 n3=>by rw[put_ne n3,put_ne n2,put_ne n1]) (put_lt (by rw[put_size,put_size,hsz];decide)) hx1 c0 c1 hz
theorem edL_one(e:Ed):∀v∈edL e,v.oneCell'=true:=fun v hv=>by
 simp only[edL,List.mem_cons,List.not_mem_nil,or_false] at hv
 rcases hv with rfl|rfl|rfl|rfl|rfl|rfl|rfl<;>rfl
theorem r6(a:Act)(W:World)(x:Ed)(Q:Act->World->Prop)(hsz:a.tmps.size=94)(h41:a.tmps.getD 41 undef=edA x)(hQ:∀W',Ext W W'->W.heap.size<W'.heap.size->W'.heap[W.heap.size]? = some (.cells (edL x).toArray 37)->Q (a.put (some 9) (ptrA W.heap.size)) W'):WpS Tryz.prog (gR 6).toArray Q (gR 6) a W:=by
 have es:gR 6=[gO 6 0,gO 6 1]:=by kernel_rfl
 rw[show WpS Tryz.prog (gR 6).toArray Q (gR 6) a W=WpS Tryz.prog (gR 6).toArray Q [gO 6 0,gO 6 1] a W by rw[<- es]]
 exact al_sto a W 37 7 9 41 (.agg #[.int .i64 0,.int .i64 0,.int .i64 0,.int .i64 0,.int .i64 0,.int .i64 0,.int .i64 0]) [.int .i64 0,.int .i64 0,.int .i64 0,.int .i64 0,.int .i64 0,.int .i64 0,.int .i64 0] (edL x) Q (by kernel_rfl) (by kernel_rfl) (by kernel_rfl) (by kernel_rfl) (by kernel_rfl) (by kernel_rfl) (by kernel_rfl) rfl (by kernel_rfl) rfl (by rw[hsz];decide) (by decide) (by rw[h41];rfl) rfl (edL_one x) hQ
theorem r7(a:Act)(W:World)(x:Ed)(Q:Act->World->Prop)(hsz:a.tmps.size=94)(h42:a.tmps.getD 42 undef=edA x)(hQ:∀W',Ext W W'->W.heap.size<W'.heap.size->W'.heap[W.heap.size]? = some (.cells (edL x).toArray 37)->Q (a.put (some 10) (ptrA W.heap.size)) W'):WpS Tryz.prog (gR 7).toArray Q (gR 7) a W:=by
 have es:gR 7=[gO 7 0,gO 7 1]:=by kernel_rfl
 rw[show WpS Tryz.prog (gR 7).toArray Q (gR 7) a W=WpS Tryz.prog (gR 7).toArray Q [gO 7 0,gO 7 1] a W by rw[<- es]]
 exact al_sto a W 37 7 10 42 (.agg #[.int .i64 0,.int .i64 0,.int .i64 0,.int .i64 0,.int .i64 0,.int .i64 0,.int .i64 0]) [.int .i64 0,.int .i64 0,.int .i64 0,.int .i64 0,.int .i64 0,.int .i64 0,.int .i64 0] (edL x) Q (by kernel_rfl) (by kernel_rfl) (by kernel_rfl) (by kernel_rfl) (by kernel_rfl) (by kernel_rfl) (by kernel_rfl) rfl (by kernel_rfl) rfl (by rw[hsz];decide) (by decide) (by rw[h42];rfl) rfl (edL_one x) hQ
end

set_option maxHeartbeats 4000000
set_option maxRecDepth 100000
section
open Go.RowKit Go.Shelf
theorem rowG_ed{W:World}{n:Nat}{e:Nat->Ed}{v:Value}(h:RowC (RepF W) W 7 n (fun i=>edI (e i)) v):RowC (RepG W) W 7 n (fun i=>edI (e i)) v:=by
 obtain⟨a,c,e1,h1,h2,h3⟩:=h
 refine⟨a,c,e1,h1,h2,fun i hi=>?_⟩
 obtain⟨g,o,xs,T,k1,k2,k3,cs,d,k4,k5⟩:=h3 i hi
 obtain⟨c0,d0,e0,a0,c1,d1,e1,a1,c2,d2,e2,a2,c3,d3,e3,a3,c4,d4,e4,a4,c5,d5,e5,a5,c6,d6,e6,a6,e7⟩:=k5
 exact⟨g,o,xs,T,k1,k2,k3,cs,d,k4,c0,d0,e0,a0,c1,d1,e1,a1,c2,d2,e2,a2,c3,d3,e3,a3,c4,d4,e4,a4,c5,d5,e5,a5,c6,d6,e6,a6,e7⟩
theorem ShAt.repF{W:World}{s:Sh}{p:Option Addr}{c:Nat}(h:ShAt W s p c):RepF W (shL s) [.int .i64 s.k,.slice p s.n c,.int .i64 s.r] :=
 ⟨[_],_,rfl,⟨rfl,i64_lim h.k,h.k⟩,[_],_,rfl,⟨_,rfl,rowG_ed h.row⟩,[_],[],rfl,⟨rfl,i64_lim h.r,h.r⟩,rfl⟩
theorem rest4_eq:rest4=.seq (.region 4 (gR 4).toArray false) (.seq (.label 0) (.seq (.seq (.region 5 (gR 5).toArray false) (.block 0 (.rangeFunc (.tmp 40) #[41,42] (.seq (.region 6 (gR 6).toArray false) (.region 7 (gR 7).toArray false)) rfBody))) rest12)):=by kernel_rfl
def ofG(a b:Sh):Gp:=if metB a b=true then metR a b else { gapK (cnd a b) (a.n*b.n) with d:=(plusR (gapK (cnd a b) (a.n*b.n)).d (sumR a b)).1 }
theorem kp_obj{X:List Nat}{W:World}{l:Nat}{o o':Obj}(h:W.heap[l]? = some o)(ho:o.isCells=false):KpP X W (W.putObj l o'):=(kp_put h ho).mono (fun x hx=>by simp at hx)
theorem rest4_ok(w W:World)(A:Act)(a b:Sh)(p q:Option Addr)(c d B6:Nat)(m0:Bool)(ha:ShAt w a p c)(hb:ShAt w b q d)(na:1<=a.n/\a.n<=1000)(nb:1<=b.n/\b.n<=1000)(hm:(aroB a b||aroB b a)=m0)(hsz:A.tmps.size=94)(hd:A.defers=[])
  (h2:A.tmps.getD 2 undef=ptrA w.heap.size) (h3:A.tmps.getD 3 undef=ptrA (w.heap.size+1)) (h4:A.tmps.getD 4 undef=ptrA (w.heap.size+1+1)) (h6:A.tmps.getD 6 undef=ptrA B6) (ps:PS w W a b p q c d) (g6:W.heap[B6]? = some (.cells #[.bool m0] 4)) (hB6:w.heap.size+1+1<B6) :
  rest4.wp Tryz.prog (Exit.noGoto (bodyPostM Fence.wide 6 Tryz.prog Tryz.f15 (OfPost w (ofG a b) true))) A W:=by
 rw[rest4_eq]
 refine wp_seq (wp_region_lit (WpS.wp (r4 A W _ hsz fun a1 W1 W2 s1 df1 of1 e7 e8 x1 x2 cs cl c7=>?_)))
 refine wp_seq (wp_label ?_)
 have x12:=Ext.step x1 x2
 have ps2:=ps.step x12
 refine wp_seq (wp_seq (wp_region_lit (WpS.wp (r5 a1 W2 a b p q c d w.heap.size (w.heap.size+1) _ s1 (by rw[of1 2 (by decide) (by decide) (by decide) (by decide) (by decide) (by decide)];exact h2) (by rw[of1 3 (by decide) (by decide) (by decide) (by decide) (by decide) (by decide)];exact h3) ps2.b2 ps2.b3 fun a2 W3 s2 df2 of2 e40 x3 c0 c1 hz=>?_))))
 have of12:∀t,35≠t->34≠t->36≠t->37≠t->7≠t->8≠t->38≠t->39≠t->40≠t->a2.tmps.getD t undef=A.tmps.getD t undef:=fun t n1 n2 n3 n4 n5 n6 n7 n8 n9=>by rw[of2 t n7 n8 n9,of1 t n1 n2 n3 n4 n5 n6]
 have x13:=Ext.step x12 x3
 have ps3:=ps.step x13
 have zW:B6<W.heap.size:=(Array.getElem?_eq_some_iff.1 g6).1
 have z1:W.heap.size+1<W1.heap.size:=(Array.getElem?_eq_some_iff.1 cs).1
 have z2:W1.heap.size<W2.heap.size:=(Array.getElem?_eq_some_iff.1 c7).1
 have z3:=x3.size
 have zw:=ps.ex.size
 have LI3:LI w W3 a b p q c d B6 W1.heap.size (W.heap.size+1) W.heap.size m0:=⟨ps3,heap_ext g6 x13,heap_ext c7 x3⟩
 have h0:RI w W3 a b p q c d B6 W1.heap.size (W.heap.size+1) W.heap.size m0 [] W3:=⟨LI3,heap_ext cs (Ext.step x2 x3),⟨zGp,heap_ext cl (Ext.step x2 x3),zGpC W3⟩,Nat.le_refl _,fun h=>absurd rfl h,fun i hi=>by cases hi⟩
 have bw:Below w.heap.size w W3:=ps3.ex
 have t2:a2.tmps.getD 2 undef=ptrA w.heap.size:=by rw[of12 2 (by decide) (by decide) (by decide) (by decide) (by decide) (by decide) (by decide) (by decide) (by decide)];exact h2
 have t3:a2.tmps.getD 3 undef=ptrA (w.heap.size+1):=by rw[of12 3 (by decide) (by decide) (by decide) (by decide) (by decide) (by decide) (by decide) (by decide) (by decide)];exact h3
 have t4:a2.tmps.getD 4 undef=ptrA (w.heap.size+1+1):=by rw[of12 4 (by decide) (by decide) (by decide) (by decide) (by decide) (by decide) (by decide) (by decide) (by decide)];exact h4
 have t6:a2.tmps.getD 6 undef=ptrA B6:=by rw[of12 6 (by decide) (by decide) (by decide) (by decide) (by decide) (by decide) (by decide) (by decide) (by decide)];exact h6
 have t7:a2.tmps.getD 7 undef=ptrA W1.heap.size:=by rw[of2 7 (by decide) (by decide) (by decide)];exact e7
 have t8:a2.tmps.getD 8 undef=lsF W.heap.size:=by rw[of2 8 (by decide) (by decide) (by decide)];exact e8
 have fin:∀(D:Nat) (W4:World) (met:Bool) (g:Gp),W3.heap.size<=D->W4.heap[D]? = some (.deferred (some []))->LI w W4 a b p q c d B6 W1.heap.size (W.heap.size+1) W.heap.size met->(met=false->GpAt W4 W.heap.size g)->(if met=true then (⟨true,zrt a b,Sp.no,Sp.no⟩:Gp) else { g with d:=(plusR g.d (sumR a b)).1 })=ofG a b ->
   rest12.wp Tryz.prog (Exit.noGoto (bodyPostM Fence.wide 6 Tryz.prog Tryz.f15 (OfPost w (ofG a b) true))) { a2 with defers:={ target:=.collected D,args:=#[] }::a2.defers } W4:=fun D W4 met g hD hK hl hg he=>by
  have f2:FpAt W4 w.heap.size (shL a):=.of (cs:=(shC3 a p c).toList) (by simpa using hl.ps.b2) (ha.ext hl.ps.ex).repF
  have f3:FpAt W4 (w.heap.size+1) (shL b):=.of (cs:=(shC3 b q d).toList) (by simpa using hl.ps.b3) (hb.ext hl.ps.ex).repF
  rw[<- he]
  exact rest12_ok w W4 _ a b met g w.heap.size (w.heap.size+1) (w.heap.size+1+1) B6 W.heap.size D s2 (by show _::a2.defers=_;rw[df2,df1,hd]) t2 t3 t4 t6 t8 f2 f3 hl.ps.b4 hl.b6 hg hl.ps.ex (by omega) hK (by omega)
 refine wp_block ?_
 refine (wpIn_wide (n:=6)).1 ?_
 refine wpIn_rangeFunc_ownH rfl (by omega) (gf:=81) (lb:=#[ptrA W2.heap.size,ptrA (W2.heap.size+1)]) e40 trivial (enters_of Tryz.func81 (by kernel_rfl) rfl)
  (pairs_stops 5 (by omega) [B6,W.heap.size+1,W.heap.size] a.n b.n (eT a) (eT b) w.heap.size W2.heap.size (W2.heap.size+1) c d p q W3 (by omega) hz (by omega) (fun x hx=>by simp only[List.mem_cons,List.not_mem_nil,or_false] at hx;omega) (fun h=>by simp only[List.mem_cons,List.not_mem_nil,or_false] at h;omega) (fun h=>by simp only[List.mem_cons,List.not_mem_nil,or_false] at h;omega) c0 c1 ((eT_row ha.edr).below bw) ((eT_row hb.edr).below bw) na.2 nb.2) KpP.trans
  (fun W l o o' _ ho hc _=>kp_obj ho hc)
  (Below.refl _ _) (fun _=>rfl)
  (RI w W3 a b p q c d B6 W1.heap.size (W.heap.size+1) W.heap.size m0) (XI w W3 a b p q c d B6 W1.heap.size (W.heap.size+1) W.heap.size m0)
  (RI.own w W3 a b p q c d B6 _ _ _ m0 (by omega)) (fun cc=>XI.own w W3 a b p q c d B6 _ _ _ m0 cc (by omega)) h0
  (AI W3 a b B6 W1.heap.size) (AI.own W3 a b B6 W1.heap.size) ?assign ?body ?done ?stop
 case assign =>
  rintro l pre x V K hI hK
  have e41:(edA (eT a (x/b.n)))=edA (eT a (x/b.n)):=rfl
  refine wpIn_seq (inR (by kernel_rfl) (r6 _ V (eT a (x/b.n)) _ ?_ ?_ fun V1 y1 v1 q1=>?_))
  ·simp[s2]
  ·simp[s2]
  refine inR (by kernel_rfl) (r7 _ V1 (eT b (x%b.n)) _ ?_ ?_ fun V2 y2 v2 q2=>?_)
  ·simp[s2,put_size]
  ·rw[put_ne (by decide)];simp[s2]
  have y12:=Ext.step y1 y2
  have hVs:=hI.sz
  refine hK _ _ (ButX.keeps (X:=[]) (.ext y12) _ (fun x hx=>by simp at hx)) (.ext y12) ?_ ?_
  ·exact⟨hI.li.kp (.ext y12) (Ext.step hI.li.ps.ex y12),heap_ext hI.bs y12,hI.bl.ext y12,Nat.le_trans hVs y12.size,hI.m,hI.sp⟩
  ·refine ⟨V.heap.size, V1.heap.size, ?_, ?_, ?_, ?_, ?_, ⟨by omega, by omega⟩, heap_ext q1 y2, q2⟩
   ·simp[s2,put_size]
   ·rw[put_ne (by decide),put_ne (by decide)];simpa using t6
   ·rw[put_ne (by decide),put_ne (by decide)];simpa using t7
   ·rw[put_ne (by decide)];exact put_lt (by simp[s2])
   ·exact put_lt (by simp[s2,put_size])
 case body =>
  rintro l pre x a' V hl hr hI hA hlen
  exact round_ok ha hb ⟨by omega,by omega,by omega,by omega,by omega⟩ l _ pre x a' V hI hA
 case done =>
  rintro D xs V hD rfl hI hK
  have hne:upT (a.n*b.n) ≠ []:=fun e=>by
   have:=congrArg List.length e
   rw[upT_len] at this
   have:=Nat.mul_pos (show 0<a.n by omega) (show 0<b.n by omega)
   simp at *;omega
  have m1:=hI.m hne
  subst m1
  have hs:allB (sep a b) (a.n*b.n)=true:=allB_t.2 fun k hk=>by rw[<- sepT_at hk];exact hI.sp k (by unfold upT;exact List.mem_range.2 hk)
  have hg:=gapS_up (cndT a b) (cnd a b) (a.n*b.n) fun i hi=>cndT_at hi
  have bl:=hI.bl
  rw[hg] at bl
  refine fin D V false _ hD hK hI.li (fun _=>bl) ?_
  unfold ofG metB
  rw[hm,hs]
  rfl
 case stop =>
  rintro D cc pre V hD ⟨k,hk,rfl⟩ hX hK
  obtain rfl:=hX.cc
  refine wpIn_exit ?_
  refine fin D V true Gp.no hD hK hX.li (fun h=>by cases h) ?_
  have:metB a b=true:=by
   unfold metB
   rcases hX.why with h|⟨i,hi,hs⟩
   ·rw[hm,h];rfl
   ·have hik : i < a.n * b.n := by unfold upT at hi; have := List.mem_range.1 hi; omega
    rw[sepT_at hik] at hs
    cases hA:allB (sep a b) (a.n*b.n) with
    | true=>rw[allB_t.1 hA i hik] at hs;cases hs
    | false=>simp
  unfold ofG
  rw[if_pos rfl,if_pos this]
  rfl
end

set_option maxHeartbeats 4000000
set_option maxRecDepth 100000
section
open Go.RowKit Go.Shelf
attribute [local go_sem] Oper.semAt_some
attribute [local go_sem] Gives givesU
theorem gapOf_yes(a b:Sh)(h1:chkS a=0)(h2:chkS b=0):Fok Tryz.prog 15 [shpV a,shpV b] (ofV (ofG a b,true)):=by
 intro w vals hv
 obtain⟨va,ha,_,rfl,hv1⟩:=rvs_cons.1 hv
 obtain⟨vb,hb,_,rfl,hv2⟩:=rvs_cons.1 hv1
 cases hv2
 obtain⟨p,c,rfl,Ha⟩:=ShAt.of ha
 obtain⟨q,d,rfl,Hb⟩:=ShAt.of hb
 have ga:=chk_good h1
 have gb:=chk_good h2
 have na:1<=a.n/\a.n<=1000:=⟨ga.n1,by have:=ga.n40;omega⟩
 have nb:1<=b.n/\b.n<=1000:=⟨gb.n1,by have:=gb.n40;omega⟩
 have C1:=Lib.hid (rightC' a Ha)
 have C2:=Lib.hid (rightC' b Hb)
 have C3:=Lib.hid (aroundC a b Ha Hb na.2 (by omega))
 have C4:=Lib.hid (aroundC b a Hb Ha nb.2 (by omega))
 have HA:=Lib.hid Ha
 have HB:=Lib.hid Hb
 have NA:=Lib.hid na
 have NB:=Lib.hid nb
 clear ha hb hv hv1 Ha Hb ga gb na nb
 have b1:(chkS a==0)=true:=by simpa using h1
 have b2:(chkS b==0)=true:=by simpa using h2
 clear h1 h2
 have z0:∀w:World,(w.alloc (.cells zGp.toArray 53)).heap[w.heap.size]? = some (.cells zGp.toArray 53):=fun w=>World.alloc_heap_new _ _
 have hx0:Ext w (((w.alloc (.cells #[.int .i64 a.k,.slice p a.n c,.int .i64 a.r] 30)).alloc (.cells #[.int .i64 b.k,.slice q b.n d,.int .i64 b.r] 30)).alloc (.cells zGp.toArray 53)):=bxx
 have P0:PS w (((w.alloc (.cells #[.int .i64 a.k,.slice p a.n c,.int .i64 a.r] 30)).alloc (.cells #[.int .i64 b.k,.slice q b.n d,.int .i64 b.r] 30)).alloc (.cells zGp.toArray 53)) a b p q c d :=
  ⟨hx0,(below_alloc _ _).trans ((below_alloc _ _).mono (by simp)) |> heap_ext (World.alloc_heap_new _ _),heap_ext (by have:=World.alloc_heap_new (w.alloc (.cells #[.int .i64 a.k,.slice p a.n c,.int .i64 a.r] 30)) (.cells #[.int .i64 b.k,.slice q b.n d,.int .i64 b.r] 30);simpa[shC3] using this) (below_alloc _ _),by have:=z0 ((w.alloc (.cells #[.int .i64 a.k,.slice p a.n c,.int .i64 a.r] 30)).alloc (.cells #[.int .i64 b.k,.slice q b.n d,.int .i64 b.r] 30));simpa using this⟩
 have HP:=Lib.hid P0
 clear hx0 z0 P0
 refine (callsIn_wide (n:=6)).1 ?_
 refine callsIn_of_wp_marks Tryz.func15 rfl trivial ?_ rfl
 refine wpIn_wide.2 ?_
 simp only[Tryz.ntmps15,List.size_toArray,List.length_cons,List.length_nil,Nat.reduceAdd,Nat.reduceSub,Array.replicate_succ,Array.replicate_zero,List.push_toArray,List.append_toArray,List.nil_append,List.cons_append]
 go_wp2_with fail
 go_step3
 go_wp2_with fail
 refine (C1.out _ HP.out.ex).mono ?_
 rintro e W1 ⟨rfl,hx1⟩
 rw[b1]
 have P1:=Lib.hid (HP.out.step hx1)
 clear hx1
 obtain⟨⟨k0,k1,k2⟩,k3,k4,k5⟩:=P1.out.cells
 have kz:=P1.out.sz
 go_wp2_with fail
 refine (C2.out _ P1.out.ex).mono ?_
 rintro e W2 ⟨rfl,hx2⟩
 rw[b2]
 have P2:=Lib.hid (P1.out.step hx2)
 clear hx2 k0 k1 k2 k3 k4 k5 kz
 obtain⟨⟨k0,k1,k2⟩,k3,k4,k5⟩:=P2.out.cells
 have kz:=P2.out.sz
 go_wp2_with fail
 rename_i K1 HK1 K2 HK2
 have FIN:=Lib.hid (fun (A:Act) (W:World) (m0:Bool) (B6:Nat) (hm:(aroB a b||aroB b a)=m0) hsz hd h2 h3 h4 h6 ps g6 hB6=>HK1 A W (wp_as (c':=rest4) (by kernel_rfl) (rest4_ok w W A a b p q c d B6 m0 HA.out HB.out NA.out NB.out hm hsz hd h2 h3 h4 h6 ps g6 hB6)))
 clear HK1
 cases h3:aroB a b with
 | true =>
  rw[h3] at C3 FIN
  refine (C3.out _ P2.out.ex).mono ?_
  rintro e W3 ⟨rfl,hx3⟩
  have P3:=Lib.hid (P2.out.step hx3)
  clear hx3 k0 k1 k2 k3 k4 k5 kz C1 C2 C3 C4
  go_wp2
  exact FIN.out _ _ true W3.heap.size rfl rfl rfl rfl rfl rfl rfl (P3.out.step (below_alloc _ _)) (World.alloc_heap_new _ _) P3.out.sz
 | false =>
  rw[h3] at C3 FIN
  refine (C3.out _ P2.out.ex).mono ?_
  rintro e W3 ⟨rfl,hx3⟩
  have P3:=Lib.hid (P2.out.step hx3)
  clear hx3 k0 k1 k2 k3 k4 k5 kz C1 C2 C3
  obtain⟨⟨k0,k1,k2⟩,k3,k4,k5⟩:=P3.out.cells
  have kz:=P3.out.sz
  go_wp2_with fail
  refine (C4.out _ P3.out.ex).mono ?_
  rintro e W4 ⟨rfl,hx4⟩
  have P4:=Lib.hid (P3.out.step hx4)
  clear hx4 k0 k1 k2 k3 k4 k5 kz C4
  go_wp2
  exact FIN.out _ _ (aroB b a) W4.heap.size rfl rfl rfl rfl rfl rfl rfl (P4.out.step (below_alloc _ _)) (World.alloc_heap_new _ _) P4.out.sz
theorem gapOf_fok(a b:Sh):Fok Tryz.prog 15 [shpV a,shpV b] (ofV (ofQ a b)):=by
 by_cases h:chkS a≠0\/chkS b≠0
 ·unfold ofQ
  rw[if_pos h]
  exact gapOf_no a b h
 ·unfold ofQ
  rw[if_neg h]
  have h1:chkS a=0:=Classical.not_not.1 fun g=>h (.inl g)
  have h2:chkS b=0:=Classical.not_not.1 fun g=>h (.inr g)
  have:=gapOf_yes a b h1 h2
  unfold ofG at this
  split at this
  ·rename_i hm
   rw[if_pos hm];exact this
  ·rename_i hm
   rw[if_neg hm];exact this
end

set_option maxRecDepth 100000
section
def toShF(l:List It):Option (Sh×List Prop) :=
 match l with
 | [i,.fs _ m n z,k]=>(match asI i,asI k with
  | some x,some y=>if z=7/\(m.all fun i=>i.n==1)=true/\((List.range n).all fun i=>isEd ((m.drop (i*7)).take 7))=true then some (⟨x.1,n,fun i=>edAt ((m.drop (i*7)).take 7),y.1⟩,[]) else none
  | _,_=>none)
 | l=>toSh l
theorem toShF_rep{V W:World}{r:Nat->Nat}{k:Nat}{l:List It}{s:Sh}{ps:List Prop}{x:Value}(h:toShF l=some (s,ps))(hp:All ps)(hr:RepV V W r k ⟨true,l⟩ x):RepV V W r k (shpV s) x:=by
 unfold toShF at h
 split at h
 ·rename_i i o m n z k
  split at h
  ·rename_i x y hx hy
   split at h
   ·rename_i hc
    obtain⟨rfl,c1,c2⟩:=hc
    cases h
    have ht:toSh [i,.fs o m n 7,k]=some (⟨x.1,n,fun i=>edAt ((m.drop (i*7)).take 7),y.1⟩,[∀i,i<n->isEd ((m.drop (i*7)).take 7)=true]):=by
     unfold toSh toRo
     simp only[hx,hy,c1,and_self,if_true]
    exact toSh_rep ht ⟨fun i hi=>List.all_eq_true.1 c2 i (List.mem_range.2 hi),trivial⟩ hr
   ·cases h
  ·cases h
 ·exact toSh_rep h hp hr
def sh2F(f:FuncId)(g:Sh->Sh->AV)(h:∀s u,Fok Tryz.prog f [shpV s,shpV u] (g s u)):Con where
 f:=f
 g:=fun | [⟨true,l⟩,⟨true,m⟩]=>(match toShF l,toShF m with|some z,some y=>some (g z.1 y.1,z.2++y.2)|_,_=>none)|_=>none
 ok:=by
  intro args res ps h' hp
  split at h'<;>try cases h'
  split at h'<;>cases h'
  rename_i he hq
  obtain⟨p1,p2⟩:=All.app hp
  exact (h _ _).pre fun W=>rvs_1 (fun v hv=>toShF_rep he p1 hv) (rvs_1 (fun v hv=>toShF_rep hq p2 hv) rvs_0)
def sh3F(f:FuncId)(g:Sh->Sh->Int->AV)(h:∀s u z,Fok Tryz.prog f [shpV s,shpV u,inV z lim] (g s u z)):Con where
 f:=f
 g:=fun | [⟨true,l⟩,⟨true,m⟩,⟨false,[.i z _]⟩]=>(match toShF l,toShF m with|some x,some y=>some (g x.1 y.1 z,x.2++y.2)|_,_=>none)|_=>none
 ok:=by
  intro args res ps h' hp
  split at h'<;>try cases h'
  split at h'<;>cases h'
  rename_i he hq
  obtain⟨p1,p2⟩:=All.app hp
  exact (h _ _ _).pre fun W=>rvs_1 (fun v hv=>toShF_rep he p1 hv) (rvs_1 (fun v hv=>toShF_rep hq p2 hv) (rvs_1 in_lim rvs_0))
def cGapF:Con:=sh2F 15 (fun s u=>ofV (ofQ s u)) gapOf_fok
def cmpG(g:Gp)(z:Int):Int:=cmpRt g.d ⟨z,0,zero,ofZ 1⟩
def touchQ(a b:Sh):Bool:=(ofQ a b).2&&decide (cmpG (ofQ a b).1 0<=0)
def leastB(a b:Sh)(z:Int):Bool:=(ofQ a b).2&&decide (cmpG (ofQ a b).1 z >= 0)
def bordS(s:Sh):Sh:=⟨1,s.n,s.e,0⟩
def borderQ(a b:Sh):Gp×Bool:=if a.k≠2\/chkS a≠0 then (Gp.no,false) else ofQ (bordS a) b
def holdsQ(a b:Sh)(z:Int):Bool :=
 if (borderQ a b).2=false\/(borderQ a b).1.m=true\/cmpG (borderQ a b).1 z<0 then false else insS a (b.e 0).ax (b.e 0).ay&&!(aroB b a)
def KTo:List Con:=[cGapF,cCmpInt]
theorem touch_fok(s u:Sh):Fok Tryz.prog 13 [shpV s,shpV u] (.one (blV (touchQ s u))):=by
 cases h:(ofQ s u).2 with
 | false=>exact Fok.bb (show touchQ s u=false by unfold touchQ;rw[h];rfl) (fok KTo [false] [pEd s,pEd u,pF h] (by kernel_rfl))
 | true=>exact Fok.bb (show touchQ s u=decide (cmpG (ofQ s u).1 0<=0) by unfold touchQ;rw[h];rfl) (fok KTo [true] [pEd s,pEd u,pT h] (by kernel_rfl))
theorem least2_fok(s u:Sh)(z:Int):Fok Tryz.prog 17 [shpV s,shpV u,inV z lim] (.one (blV (leastB s u z))):=by
 cases h:(ofQ s u).2 with
 | false=>exact Fok.bb (show leastB s u z=false by unfold leastB;rw[h];rfl) (fok KTo [false] [pEd s,pEd u,pF h] (by kernel_rfl))
 | true=>exact Fok.bb (show leastB s u z=decide (cmpG (ofQ s u).1 z >= 0) by unfold leastB;rw[h];rfl) (fok KTo [true] [pEd s,pEd u,pT h] (by kernel_rfl))
def cTouch:Con:=sh2F 13 (fun s u=>.one (blV (touchQ s u))) touch_fok
def cLeastG:Con:=sh3F 17 (fun s u z=>.one (blV (leastB s u z))) least2_fok
def KBo:List Con:=[cGapF,cShChk]
theorem nz_b{z:Int}(h:z≠0):(!(z==0))=true:=by simpa using h
theorem z_b{z:Int}(h:z=0):(!(z==0))=false:=by simpa using h
theorem border_fok(s u:Sh):Fok Tryz.prog 20 [shpV s,shpV u] (ofV (borderQ s u)):=by
 unfold borderQ
 by_cases h1:s.k≠2
 ·rw [if_pos (.inl h1)]
  exact fok KBo [true] [pT (ne_T h1)] (by kernel_rfl)
 by_cases h2:chkS s≠0
 ·rw [if_pos (.inr h2)]
  exact fok KBo [false,true] [pF (ne_F h1),pEd s,pT (nz_b h2)] (by kernel_rfl)
 ·rw [if_neg (fun g => g.elim h1 h2)]
  exact fok KBo [false,false] [pF (ne_F h1),pEd s,pF (z_b (Classical.not_not.1 h2)),pEd s,pEd u] (by kernel_rfl)
def cBord:Con:=sh2F 20 (fun s u=>ofV (borderQ s u)) border_fok
def cAro:Con where
 f:=30
 g:=fun | [⟨true,l⟩,⟨true,m⟩]=>(match toShF l,toShF m with|some z,some y=>some (.one (blV (aroB z.1 y.1)),z.2++(y.2++[z.1.n<=1000,0<y.1.n]))|_,_=>none)|_=>none
 ok:=by
  intro args res ps h' hp
  split at h'<;>try cases h'
  split at h'<;>cases h'
  rename_i he hq
  obtain⟨p1,p2⟩:=All.app hp
  obtain⟨p2,p3⟩:=All.app p2
  exact (around_fok _ _ p3.1 p3.2.1).pre fun W=>rvs_1 (fun v hv=>toShF_rep he p1 hv) (rvs_1 (fun v hv=>toShF_rep hq p2 hv) rvs_0)
def KHo:List Con:=[cBord,cAro,cIns,cCmpInt]
theorem ofQ_ok{a b:Sh}(h:(ofQ a b).2=true):chkS a=0/\chkS b=0:=by
 unfold ofQ at h
 split at h
 ·cases h
 ·rename_i hn
  exact⟨Classical.not_not.1 fun g=>hn (.inl g),Classical.not_not.1 fun g=>hn (.inr g)⟩
theorem borderQ_ok{a b:Sh}(h:(borderQ a b).2=true):(a.k=2/\chkS a=0)/\chkS (bordS a)=0/\chkS b=0:=by
 unfold borderQ at h
 split at h
 ·cases h
 ·rename_i hn
  exact⟨⟨Classical.not_not.1 fun g=>hn (.inl g),Classical.not_not.1 fun g=>hn (.inr g)⟩,ofQ_ok h⟩
theorem holds_fok(s u:Sh)(z:Int):Fok Tryz.prog 9 [shpV s,shpV u,inV z lim] (.one (blV (holdsQ s u z))):=by
 cases h1:(borderQ s u).2 with
 | false=>exact Fok.bb (show holdsQ s u z=false by unfold holdsQ;rw[if_pos (.inl h1)]) (fok KHo [true] [pEd s,pEd u,pT (not_T h1)] (by kernel_rfl))
 | true =>
  cases h2:(borderQ s u).1.m with
  | true=>exact Fok.bb (show holdsQ s u z=false by unfold holdsQ;rw[if_pos (.inr (.inl h2))]) (fok KHo [false,true] [pEd s,pEd u,pF (not_F h1),pT h2] (by kernel_rfl))
  | false =>
   by_cases h3:cmpG (borderQ s u).1 z<0
   ·exact Fok.bb (show holdsQ s u z=false by unfold holdsQ;rw[if_pos (.inr (.inr h3))]) (fok KHo [false,false,true] [pEd s,pEd u,pF (not_F h1),pF h2,pT (decide_eq_true h3)] (by kernel_rfl))
   ·obtain ⟨⟨_, k1⟩, _, k2⟩ := borderQ_ok h1
    have g1:=chk_good k1
    have g2:=chk_good k2
    have n1:=g1.n40
    have n2:=g2.n40
    have m1:=g1.n1
    have m2:=g2.n1
    have e0:holdsQ s u z=(insS s (u.e 0).ax (u.e 0).ay&&!(aroB u s)):=by unfold holdsQ;rw[if_neg (by simp[h1,h2,h3])]
    cases h4:insS s (u.e 0).ax (u.e 0).ay with
    | false=>exact Fok.bb (show holdsQ s u z=false by rw[e0,h4];rfl) (fok KHo [false,false,false,false] [pEd s,pEd u,pF (not_F h1),pF h2,pF (decide_eq_false h3),pP (show 0<=(0:Int)/\(0:Int)<u.n by omega),pEd s,pP (show s.n<=1000 by omega),pF h4] (by kernel_rfl))
    | true=>exact Fok.bb (show holdsQ s u z=!(aroB u s) by rw[e0,h4];rfl) (fok KHo [false,false,false,true] [pEd s,pEd u,pF (not_F h1),pF h2,pF (decide_eq_false h3),pP (show 0<=(0:Int)/\(0:Int)<u.n by omega),pEd s,pP (show s.n<=1000 by omega),pT h4,pEd u,pEd s,pP (show u.n<=1000 by omega),pP (show 0<s.n by omega)] (by kernel_rfl))
def cHolds:Con:=sh3F 9 (fun s u z=>.one (blV (holdsQ s u z))) holds_fok
end
noncomputable abbrev fGh:FuncId:=4
def KGh:List Con:=[cHolds,cIns,cTouch,cBoxQ]
def ghB(a b:Sh)(nd:Int):List (Nat×Rq):=[(7,.eq (blV true)),(8,.eq (fpV (shL a))),(9,.eq (fpV (shL b))),(10,.eq (inV nd 10))]
def ghL(a b:Sh)(nd:Int)(k:Nat):Ds:=⟨(52,.le (inV (k:Int) 2000))::(51,.eq (inV (b.n:Int) lim))::(50,.eq ⟨false,[roE b.n b.e]⟩)::ghB a b nd,[]⟩
def ghR(a b:Sh)(nd:Int):Ds:=⟨(13,.eq ⟨false,[.p 0 0]⟩)::ghB a b nd,[some ⟨40,[.i (bX0 a) 2000,.i (bY0 a) 2000,.i (bX1 a) 2000,.i (bY1 a) 2000]⟩]⟩
def ghT(a b G:Sh)(nd:Int):Ds:=⟨(14,.eq (fpV (shL G)))::ghB a b nd,[]⟩

set_option maxHeartbeats 2000000
set_option maxRecDepth 100000
section
attribute [local go_sem] Gives givesU
def DrawH(w:World)(B:Nat)(v:Value)(d:List Value)(T:TypeId)(k:Nat):Prop:=w.heap[B]? = some (.cells (v::.int .i64 (k:Nat)::d).toArray T)
theorem DrawH.at{w:World}{B len cp k:Nat}{a:Option Addr}{d:List Value}{T:TypeId}(h:DrawH w B (.slice a len cp) d T k):DrawAt w B a len cp k:=by
 unfold DrawH at h
 refine⟨(Array.getElem?_eq_some_iff.1 h).1,?_,?_,fun o=>by simp[World.frozen?,h]⟩
 ·rw[cell_of_row _ _ _ _ _ _ h];simp
 ·rw[cell_of_row _ _ _ _ _ _ h];simp
theorem DrawH.ext{w w':World}{B k:Nat}{v:Value}{d:List Value}{T:TypeId}(h:DrawH w B v d T k)(hx:Ext w w'):DrawH w' B v d T k:=heap_ext h hx
theorem DrawH.set{w:World}{B k:Nat}{v:Value}{d:List Value}{T:TypeId}(h:DrawH w B v d T k)(j:Nat):DrawH (w.setCell ⟨B,1,none⟩ (.int .i64 (j:Nat))) B v d T j:=by
 unfold DrawH at *
 have hB:=(Array.getElem?_eq_some_iff.1 h).1
 have e:=(Array.getElem?_eq_some_iff.1 h).2
 rw[Array.getElem?_eq_some_iff]
 refine⟨by simpa[World.setCell] using hB,?_⟩
 simp only[World.setCell,Array.getElem_modify,if_true,e]
 simp
theorem r01_NextH(L:List Int)(B:Nat)(a:Option Addr)(len cp k:Nat)(n:Int)(d:List Value)(T:TypeId)(w:World)(hH:DrawH w B (.slice a len cp) d T k)(hL:Ints w a len L)(hne:0<len->∀x,a=some x->x.block≠B)(hn:0<n/\n<=4294967296)(hk:k<=len) :
  Calls Tryz.prog 47 #[.pointer (some ⟨B,0,none⟩),.int .i64 n] w fun e w'=>e=.returned (.int .i64 (nextV L k n))/\DrawH w' B (.slice a len cp) d T (nextK L k)/\Past B w w':=by
 have hd:=hH.at
 obtain⟨hB,c0,c1,hf⟩:=hd
 obtain⟨hl,hm,hrow⟩:=hL
 by_cases hlt:k<len
 ·have e1 : nextV L k n = modZ (L[k]?.getD 0) n := by unfold nextV; rw [if_pos (by omega)]
  have e2:nextK L k=k+1:=by unfold nextK;rw[if_pos (by omega)]
  rw[e1,e2]
  obtain⟨b,o,rfl,hb,hc⟩:=hrow (by omega)
  have hck:=hc k hlt
  have hbB:b≠B:=hne (by omega) _ rfl
  obtain⟨x,X⟩:∃x,L[k]?.getD 0=x:=⟨_,rfl⟩
  rw[X] at hck ⊢
  have MC:=Lib.hid (fun w=>r01_Mod x n w hn)
  replace hH:=Lib.hid hH
  clear e1 e2 hc hrow hl hne X hn
  have w1:IntKind.i64.wrap ((k:Int)+1)=((k+1:Nat):Int):=by rw[wrap_in];rfl;unfold I64;omega
  have w2:IntKind.i64.wrap (((k+1:Nat):Int)-1)=(k:Int):=by rw[wrap_in];omega;unfold I64;omega
  have g1:decide ((len:Int)<=(k:Int))=false:=by rw[decide_eq_false_iff_not];omega
  have i0:(0:Int)<=(k:Int):=by omega
  have i1:(k:Int)<(len:Int):=by omega
  go_enter Tryz.func47,Tryz.ntmps47
  have w3:IntKind.i64.wrap (k:Int)=(k:Int):=by rw[wrap_in];unfold I64;omega
  have ts:(k:Int).toNat=k:=by omega
  go_wp2_with fail
  refine wp_FSc (fun W=>W.cell? ⟨B,0,none⟩=some (.slice (some ⟨b,o,none⟩) len cp)/\W.cell? ⟨B,1,none⟩=some (.int .i64 k)) ?_
  repeat (first|refine F_s ?_|refine F_r ?_)
  rintro W ⟨hx,hc0,hc1⟩
  have hdW:DrawAt W B (some ⟨b,o,none⟩) len cp k:=DrawAt.ext ⟨hB,c0,c1,hf⟩ hx
  have hfW:=hdW.2.2.2
  have hkW:W.cell? ⟨b,o+k,none⟩=some (.int .i64 x):=(hx.cell (p:=⟨b,o+k,none⟩) hb).trans hck
  have hBW:B<W.heap.size:=Nat.lt_of_lt_of_le hB hx.size
  have hbW:b<W.heap.size:=Nat.lt_of_lt_of_le hb hx.size
  have hxs:=hx.size
  clear hdW
  have HD:=Lib.hid (hH.out.ext hx)
  have HX:Hid (Ext w W):=hx
  clear hx
  go_wp2_with fail
  refine wp_FSc (fun W=>W.cell? ⟨B,0,none⟩=some (.slice (some ⟨b,o,none⟩) len cp)/\W.cell? ⟨B,1,none⟩=some (.int .i64 (k+1:Nat))/\W.cell? ⟨b,o+k,none⟩=some (.int .i64 x)) ?_
  repeat (first|refine F_s ?_|refine F_r ?_)
  refine F_c (.int .i64 (modZ x n)) (fun W hW=>MC.out _) ?_
  repeat (first|refine F_s ?_|refine F_r ?_)
  rintro W2 ⟨hx2,hc2⟩
  go_wp2
  go_ret
  exact⟨rfl,(HD.out.set _).ext hx2,((Past.of_ext HX.out).step (Past.set W 1 _)).step (Past.of_ext hx2)⟩
 ·have e1 : nextV L k n = 0 := by unfold nextV; rw [if_neg (by omega)]
  have e2:nextK L k=k:=by unfold nextK;rw[if_neg (by omega)]
  rw[e1,e2]
  have g1:decide ((len:Int)<=(k:Int))=true:=by rw[decide_eq_true_iff];omega
  have hdh:=Lib.hid hH
  clear hH
  clear e1 e2 hl hne hn hrow
  go_enter Tryz.func47,Tryz.ntmps47
  go_wp2_with fail
  refine wp_FSc (fun W=>W.cell? ⟨B,0,none⟩=some (.slice a len cp)/\W.cell? ⟨B,1,none⟩=some (.int .i64 k)) ?_
  repeat (first|refine F_s ?_|refine F_r ?_)
  rintro W ⟨hx,hc0,hc1⟩
  go_wp2
  go_ret
  exact⟨rfl,hdh.out.ext hx,Past.of_ext hx⟩
theorem ints_ne{w:World}{L:List Int}{v:Value}{B:Nat}(h:IntsC w L v)(hne:∀a len c,v=.slice a len c->0<len->∀x,a=some x->x.block≠B):∃a len c,v=.slice a len c/\Ints w a len L/\(0<len->∀x,a=some x->x.block≠B):=by
 obtain⟨a,len,c,e,h1,h2,h3⟩:=h
 exact⟨a,len,c,e,h1,hne a len c e⟩
theorem nextK_le{L:List Int}{k:Nat}(h:k<=L.length):nextK L k<=L.length:=by unfold nextK;split<;>omega
def xNext:Eff where
 f:=47
 g:=fun L k args=>match args with | [⟨false,[.i n _]⟩]=>if 0<n/\n<=4294967296 then some (⟨false,[.i (nextV L k n) n.natAbs]⟩,nextK L k,[]) else none|_=>none
 ok:=by
  intro L k args res k' ps h hp W B v d T vals hg hL hne hk hv
  simp only at h
  split at h<;>(try (cases h;done))
  split at h<;>cases h
  rename_i n A hn
  simp only[rvs_cons,rvs_nil,rv_i] at hv
  obtain⟨_,⟨_,rfl⟩,_,rfl,rfl⟩:=hv
  obtain⟨a,len,c,rfl,h1,h2⟩:=ints_ne hL hne
  refine (r01_NextH L B a len c k n d T W hg h1 h2 hn (by rw[h1.1];exact hk)).mono fun e w' ⟨e1,h3,h4⟩=>⟨_,e1,?_,h3,nextK_le hk,h4⟩
  have:=nextV_bd L k hn.1
  exact rv_i.2 ⟨⟨by omega,by unfold I64;omega⟩,rfl⟩
end
def nK(L:List Int):Nat->Nat
 | 0=>0
 | n+1=>nextK L (nK L n)
def nV(L:List Int)(n:Nat)(m:Int):Int:=nextV L (nK L n) m
theorem nV_bd(L:List Int)(n:Nat){m:Int}(h:0<m):0<=nV L n m/\nV L n m<m:=nextV_bd _ _ h

set_option maxRecDepth 100000
section
def c40:Nat:=1099511627776
abbrev p4:Pf:=⟨(4:Int)≠0,by decide⟩
def moV(ax ay n:Int)(m:Bool)(A:Nat):V1:=⟨true,[.i ax A,.i ay A,.i n A,.v (.bool m)]⟩
def ptL(p:Int×Int):V1:=⟨true,[.i p.1 lim,.i p.2 lim]⟩
def applyQ(ax ay n:Int)(m:Bool)(x y:Int):Int×Int:=applyP ax ay (modZ n 4) m x y
theorem tn0{n x y ax ay:Int}{m:Bool}(h:modZ n 4=0):applyQ ax ay n m x y=((if m then 0-x else x)+ax,y+ay):=by
 unfold applyQ applyP;rw[h];cases m<;>simp[rot,mir]
theorem tn1{n x y ax ay:Int}{m:Bool}(h:modZ n 4=1):applyQ ax ay n m x y=(0-y+ax,(if m then 0-x else x)+ay):=by
 unfold applyQ applyP;rw[h];cases m<;>simp[rot,mir]
theorem tn2{n x y ax ay:Int}{m:Bool}(h:modZ n 4=2):applyQ ax ay n m x y=(0-(if m then 0-x else x)+ax,0-y+ay):=by
 unfold applyQ applyP;rw[h];cases m<;>simp[rot,mir]
theorem tn3{n x y ax ay:Int}{m:Bool}(h:modZ n 4=3):applyQ ax ay n m x y=(y+ax,0-(if m then 0-x else x)+ay):=by
 unfold applyQ applyP;rw[h];cases m<;>simp[rot,mir]
theorem dapply_ok(ax ay n x y:Int)(m:Bool):Fok Tryz.prog 104 [moV ax ay n m c40,ptV x y c40] (.one (ptL (applyQ ax ay n m x y))):=by
 have hb:=modZ_bd n (m:=4) (by omega)
 by_cases h1:modZ n 4=1
 ·rw [tn1 h1]
  cases m with
  | true=>exact fok [] [true,true] [pT rfl,p4,p4,pT (bq_T h1)] (by kernel_rfl)
  | false=>exact fok [] [false,true] [pF rfl,p4,p4,pT (bq_T h1)] (by kernel_rfl)
 by_cases h2:modZ n 4=2
 ·rw [tn2 h2]
  cases m with
  | true=>exact fok [] [true,false,true] [pT rfl,p4,p4,pF (bq_F h1),pT (bq_T h2)] (by kernel_rfl)
  | false=>exact fok [] [false,false,true] [pF rfl,p4,p4,pF (bq_F h1),pT (bq_T h2)] (by kernel_rfl)
 by_cases h3:modZ n 4=3
 ·rw [tn3 h3]
  cases m with
  | true=>exact fok [] [true,false,false,true] [pT rfl,p4,p4,pF (bq_F h1),pF (bq_F h2),pT (bq_T h3)] (by kernel_rfl)
  | false=>exact fok [] [false,false,false,true] [pF rfl,p4,p4,pF (bq_F h1),pF (bq_F h2),pT (bq_T h3)] (by kernel_rfl)
 ·rw [tn0 (by omega)]
  cases m with
  | true=>exact fok [] [true,false,false,false] [pT rfl,p4,p4,pF (bq_F h1),pF (bq_F h2),pF (bq_F h3)] (by kernel_rfl)
  | false=>exact fok [] [false,false,false,false] [pF rfl,p4,p4,pF (bq_F h1),pF (bq_F h2),pF (bq_F h3)] (by kernel_rfl)
theorem rot_bd(t:Nat){x y:Int}{D E:Nat}(h1:x.natAbs<=D)(h2:y.natAbs<=E):(rot t (x,y)).1.natAbs<=D+E/\(rot t (x,y)).2.natAbs<=D+E:=by
 induction t with
 | zero=>exact⟨by simp only[rot];omega,by simp only[rot];omega⟩
 | succ t ih =>
  obtain⟨a,b⟩:=ih
  simp only[rot]
  omega
theorem applyQ_bd{ax ay n x y:Int}{m:Bool}{A B D E:Nat}(a1:ax.natAbs<=A)(a2:ay.natAbs<=B)(h1:x.natAbs<=D)(h2:y.natAbs<=E):(applyQ ax ay n m x y).1.natAbs<=A+B+D+E/\(applyQ ax ay n m x y).2.natAbs<=A+B+D+E:=by
 unfold applyQ applyP mir
 cases m
 ·obtain ⟨u1, u2⟩ := rot_bd (modZ n 4).toNat h1 h2
  simp only[Bool.false_eq_true,if_false]
  omega
 ·obtain ⟨u1, u2⟩ := rot_bd (D := D) (modZ n 4).toNat (x := -x) (by omega) h2
  simp only[if_true]
  omega
def appC(f:FuncId)(S:Int->List Prop)(H:∀(ax ay n x y:Int) (m:Bool),All (S n)->Fok Tryz.prog f [moV ax ay n m c40,ptV x y c40] (.one (ptL (applyQ ax ay n m x y)))):Con where
 f:=f
 g:=fun | [⟨true,[.i ax A,.i ay B,.i n C,.v (.bool m)]⟩,⟨true,[.i x D,.i y E]⟩]=>if (A<=c40/\B<=c40/\C<=c40)/\D<=c40/\E<=c40 then some (.one ⟨true,[.i (applyQ ax ay n m x y).1 (A+B+D+E),.i (applyQ ax ay n m x y).2 (A+B+D+E)]⟩,S n) else none|_=>none
 ok:=by
  intro args res ps h hp
  split at h<;>try cases h
  split at h<;>cases h
  rename_i ax A ay B n C m x D y E hb
  intro W vals hv
  have hv2:=hv
  simp only[rvs_cons,rvs_nil,rv_t,rl_i,rl_v,rl_nil] at hv2
  obtain⟨_,⟨_,⟨⟨a1,i1⟩,_,rfl,⟨a2,i2⟩,_,rfl,⟨a3,i3⟩,_,rfl,_,_,rfl,rfl⟩,rfl⟩,_,rfl,_,⟨_,⟨⟨a4,i4⟩,_,rfl,⟨a5,i5⟩,_,rfl,rfl⟩,rfl⟩,_,rfl,rfl⟩:=hv2
  have hb2:=hb
  unfold c40 at hb2
  obtain⟨q1,q2⟩:=applyQ_bd (n:=n) (m:=m) a1 a2 a4 a5
  refine (H ax ay n x y m hp W _ (rvs_cons.2 ⟨_,rv_t.2 ⟨_,rl_i.2 ⟨⟨by omega,i1⟩,_,rfl,rl_i.2 ⟨⟨by omega,i2⟩,_,rfl,rl_i.2 ⟨⟨by omega,i3⟩,_,rfl,rl_v.2 ⟨rfl,_,rfl,rfl⟩⟩⟩⟩,rfl⟩,_,rfl,rvs_cons.2 ⟨_,rv_t.2 ⟨_,rl_i.2 ⟨⟨by omega,i4⟩,_,rfl,rl_i.2 ⟨⟨by omega,i5⟩,_,rfl,rfl⟩⟩,rfl⟩,_,rfl,rfl⟩⟩)).mono fun e w' ⟨v,e1,h1,h2⟩=>⟨v,e1,?_,h2⟩
  simp only[RepA,ptL,rv_t,rl_i,rl_nil] at h1 ⊢
  obtain⟨cs,⟨⟨_,g1⟩,_,rfl,⟨_,g2⟩,_,rfl,rfl⟩,e2⟩:=h1
  exact⟨_,⟨⟨q1,g1⟩,_,rfl,⟨q2,g2⟩,_,rfl,rfl⟩,e2⟩
def dApply:Con:=appC 104 (fun _=>[]) fun ax ay n x y m _=>dapply_ok ax ay n x y m
end
def lnEd(ax ay bx by':Int):Ed:=⟨1,ax,ay,bx,by',0,0⟩
def rowE(l:List Ed)(i:Nat):Ed:=(l[i]?).getD ⟨0,0,0,0,0,0,0⟩
def shL'(k:Int)(l:List Ed)(r:Int):Sh:=⟨k,l.length,rowE l,r⟩
def rectS(x0 y0 x1 y1:Int):Sh:=shL' 2 [lnEd x0 y0 x1 y0,lnEd x1 y0 x1 y1,lnEd x1 y1 x0 y1,lnEd x0 y1 x0 y0] 0
def discS(x y r:Int):Sh:=shL' 1 [lnEd x y x y] r
def quartE(px py r t:Int)(right:Bool):Ed :=
 let c:=applyQ 0 0 t false r 0
 let v:=applyQ 0 0 (if right then 3 else 1) false (px-(px+c.1)) (py-(py+c.2))
 ⟨if right then 3 else 2,px,py,px+c.1+v.1,py+c.2+v.2,px+c.1,py+c.2⟩
def roundS(px py r w h:Int):Sh :=
 shL' 2 [lnEd (px+r) py (px+r+w) py,⟨2,px+r+w,py,px+r+w+r,py+r,px+r+w,py+r⟩,
  lnEd (px+r+w+r) (py+r) (px+r+w+r) (py+r+h),⟨2,px+r+w+r,py+r+h,px+r+w,py+r+h+r,px+r+w,py+r+h⟩,
  lnEd (px+r+w) (py+r+h+r) (px+r) (py+r+h+r),⟨2,px+r,py+r+h+r,px,py+r+h,px+r,py+r+h⟩,
  lnEd px (py+r+h) px (py+r),⟨2,px,py+r,px+r,py,px+r,py+r⟩] 0
def pathB(L:List Int)(a:Nat):Bool:=decide (nV L (a+2) 2=1)
def pathE(L:List Int)(a:Nat)(px py:Int):Ed :=
 if pathB L a then quartE px py (1+nV L (a+3) 9) (nV L (a+4) 4) (decide (nV L (a+5) 2=1))
 else lnEd px py (max 0 (px+nV L a 21-10)) (max 0 (py+nV L (a+1) 21-10))
def pathN(L:List Int)(a:Nat):Nat:=if pathB L a then a+6 else a+3
def pathL(L:List Int):Nat->Nat->Int->Int->List Ed
 | 0,_,_,_=>[]
 | n+1,a,px,py=>pathE L a px py::pathL L n (pathN L a) (pathE L a px py).bx (pathE L a px py).by'
def madeS(L:List Int):Sh :=
 let x:=nV L 0 50
 let y:=nV L 1 50
 if nV L 2 6=0 then rectS x y (x+1+nV L 3 20) (y+1+nV L 4 20)
 else if nV L 2 6=1 then roundS x y (1+nV L 3 6) (1+nV L 4 9) (1+nV L 5 9)
 else if nV L 2 6=2 then shL' 2 [lnEd x y (x+1+nV L 3 20) (y+nV L 4 9),lnEd (x+1+nV L 3 20) (y+nV L 4 9) (x+nV L 5 9) (y+10+nV L 6 20),lnEd (x+nV L 5 9) (y+10+nV L 6 20) x y] 0
 else if nV L 2 6=3 then discS x y (nV L 3 9)
 else shL' 1 (pathL L (1+nV L 4 3).toNat 5 x y) (nV L 3 6)
end Go.Proofs.YteajakbpmeebnaaGreat
