import Derived.Test.YtceemiodpccbhaaGreatD34
set_option linter.unusedVariables false
set_option linter.unusedSimpArgs false

namespace Go.Proofs.YtceemiodpccbhaaGreat

set_option maxHeartbeats 4000000
set_option maxRecDepth 100000
section
open Go.RowKit
theorem put_x (a:Act) (d n:Nat) (V:Value) (h:a.tmps.size=n) (hd:d < n):∃ b:Act,a.put (some d) V=b/\b.tmps.size=n/\b.tmps.getD d undef=V/\(∀ t,t ≠ d->b.tmps.getD t undef=a.tmps.getD t undef)/\b.defers=a.defers :=
 ⟨_,rfl,by rw [put_size,h],put_lt (by omega),fun t g=>put_ne (Ne.symm g),rfl⟩
theorem disc_fok (x y r:Int):Fok Tryz.prog 15 [ptV x y lim,inV r lim] (.one (shpV (discS x y r))):=fokS [] [] [] [] (by kernel_rfl)
theorem rectP_fok (x0 y0 x1 y1:Int):Fok Tryz.prog 18 [rcV x0 y0 x1 y1] (.one (shpV (rectS x0 y0 x1 y1))):=fokS [] [] [] [] (by kernel_rfl)
theorem arg_pt {W:World} {x y:Int} (h1:I64 x) (h2:I64 y):RepV W W (fun _=>0) 0 (ptV x y lim) (.agg #[.int .i64 x,.int .i64 y]) :=
 rv_t.2 ⟨_,rl_i.2 ⟨lim64 h1,_,rfl,rl_i.2 ⟨lim64 h2,_,rfl,rfl⟩⟩,rfl⟩
theorem arg_rc {W:World} {x y u v:Int} (h1:I64 x) (h2:I64 y) (h3:I64 u) (h4:I64 v):RepV W W (fun _=>0) 0 (rcV x y u v) (.agg #[.int .i64 x,.int .i64 y,.int .i64 u,.int .i64 v]) :=
 rv_t.2 ⟨_,rl_i.2 ⟨lim64 h1,_,rfl,rl_i.2 ⟨lim64 h2,_,rfl,rl_i.2 ⟨lim64 h3,_,rfl,rl_i.2 ⟨lim64 h4,_,rfl,rfl⟩⟩⟩⟩,rfl⟩
theorem arg_in {W:World} {x:Int} (h1:I64 x):RepV W W (fun _=>0) 0 (inV x lim) (.int .i64 x):=rv_i.2 ⟨lim64 h1,rfl⟩
noncomputable def gdO (id i : Nat) : Oper := ((match lpC 4 (2 * id + 1) with | .region _ ops _ => ops.toList | _ => [])[i]?).getD ⟨none, .move (.tmp 0), 0, "", #[], none⟩
noncomputable def gdR (id:Nat):List Oper:=match lpC 4 (2*id+1) with | .region _ ops _=>ops.toList | _=>[]
theorem or_A (ax ay bx by' r0 r1 p q:Int):OrcOk Tryz.prog (lpC 4 (2*4+1)) (orA ax ay bx by' r0 r1 p q):=by
 intro V a w Q hJ hQ
 obtain ⟨r,cm,⟨hM,hd⟩,hsz,hT⟩:=hJ
 have hn:a.tmps.size=200:=hsz.trans (by kernel_rfl)
 have t3:RepV V w r 3 (ptrN 0) (a.tmps.getD 3 undef):=hT 3 (.one (ptrN 0)) (by kernel_rfl)
 have e3:a.tmps.getD 3 undef=.pointer (some ⟨r 0,0,none⟩):=by simpa using t3.scal.2
 have t4:RepV V w r 3 (ptrN 1) (a.tmps.getD 4 undef):=hT 4 (.one (ptrN 1)) (by kernel_rfl)
 have e4:a.tmps.getD 4 undef=.pointer (some ⟨r 1,0,none⟩):=by simpa using t4.scal.2
 have t8:RepV V w r 3 (inV p 100) (a.tmps.getD 8 undef):=hT 8 (.one (inV p 100)) (by kernel_rfl)
 have e8:a.tmps.getD 8 undef=.int .i64 p:=(rv_i.1 t8).2
 have i8:I64 p:=(rv_i.1 t8).1.2
 have t9:RepV V w r 3 (inV q 100) (a.tmps.getD 9 undef):=hT 9 (.one (inV q 100)) (by kernel_rfl)
 have e9:a.tmps.getD 9 undef=.int .i64 q:=(rv_i.1 t9).2
 have i9:I64 q:=(rv_i.1 t9).1.2
 obtain ⟨hh0,c0,dd0,hc0,rl0,_⟩:=hM.blk 0 ⟨32,[.i ax 1000,.i ay 1000]⟩ (by kernel_rfl)
 simp only [rl_i,rl_nil] at rl0
 obtain ⟨⟨_,ia⟩,_,rfl,⟨_,ja⟩,_,rfl,rfl⟩:=rl0
 obtain ⟨hh1,c1,dd1,hc1,rl1,_⟩:=hM.blk 1 ⟨32,[.i bx 1000,.i by' 1000]⟩ (by kernel_rfl)
 simp only [rl_i,rl_nil] at rl1
 obtain ⟨⟨_,ib⟩,_,rfl,⟨_,jb⟩,_,rfl,rfl⟩:=rl1
 refine wp_as (c':=Code.region 4 (gdR 4).toArray true) (by kernel_rfl) ?_
 refine wp_region_F (fun W=>Ext w W) (by kernel_rfl) (by kernel_rfl) (fun W W' h hb=>Ext.step h hb) (fun W h=>h.size) (Below.refl _ _) ?_
 rw [show gdR 4=[gdO 4 0,gdO 4 1,gdO 4 2,gdO 4 3,gdO 4 4,gdO 4 5,gdO 4 6,gdO 4 7,gdO 4 8,gdO 4 9,gdO 4 10,gdO 4 11,gdO 4 12] by kernel_rfl]
 have d0:(gdO 4 0).dst=some 41:=by kernel_rfl
 have d1:(gdO 4 1).dst=some 42:=by kernel_rfl
 have d2:(gdO 4 2).dst=some 43:=by kernel_rfl
 have d3:(gdO 4 3).dst=some 44:=by kernel_rfl
 have d4:(gdO 4 4).dst=some 45:=by kernel_rfl
 have d5:(gdO 4 5).dst=some 46:=by kernel_rfl
 have d6:(gdO 4 6).dst=some 47:=by kernel_rfl
 have d7:(gdO 4 7).dst=some 40:=by kernel_rfl
 have d8:(gdO 4 8).dst=some 48:=by kernel_rfl
 have d9:(gdO 4 9).dst=some 49:=by kernel_rfl
 have d10:(gdO 4 10).dst=some 10:=by kernel_rfl
 have d11:(gdO 4 11).dst=none:=by kernel_rfl
 have d12:(gdO 4 12).dst=some 11:=by kernel_rfl
 have ev:∀ t,t < 200->a.eval (.tmp t)=a.tmps.getD t undef:=fun _ _=>rfl
 refine F_run (v:=.agg #[.int .i64 ax,.int .i64 ay]) (by kernel_rfl) (fun W hW=>?_) ?_
 ·have := ex_load (P := Tryz.prog) (o := gdO 4 0) (a := a) (w := W) (t := 32) (x := .tmp 3) (j := 0) (n := 2) (b := true) (cs := cm 0) (by kernel_rfl) (show a.tmps.getD 3 undef = _ from e3) (heap_ext hh0 hW) (by kernel_rfl) (by kernel_rfl) (by rw [hc0]; simp) nofun
  rw [List.drop_zero,hc0] at this
  exact this
 rw [d0]
 obtain ⟨a1,p1,z1,g1,f1,q1⟩:=put_x a 41 200 (.agg #[.int .i64 ax,.int .i64 ay]) hn (by decide)
 rw [p1]
 refine F_run (v:=.int .i64 p) (by kernel_rfl) (fun W _=>?_) ?_
 ·have := ex_move (P := Tryz.prog) (o := gdO 4 1) (a := a1) (x := .tmp 8) (by kernel_rfl) W
  rw [show a1.eval (.tmp 8)=.int .i64 p from (f1 8 (by decide)).trans e8] at this
  exact this
 rw [d1]
 obtain ⟨a2,p2,z2,g2,f2,q2⟩:=put_x a1 42 200 (.int .i64 p) z1 (by decide)
 rw [p2]
 refine F_callE (I:=Value) (fun v=>v) (fun v W=>RepV W W (fun _=>0) 0 (shpV (discS ax ay p)) v) (shpV_mono (discS ax ay p)) (by kernel_rfl) (by kernel_rfl) (fun W hW=>?_) fun v1 hv1=>?_
 ·have en:(execOp a2.eval (gdO 4 2)).run Tryz.prog W=.ok (.enter 15 #[.agg #[.int .i64 ax,.int .i64 ay],.int .i64 p]) W:=by
   have:=run_enter (P:=Tryz.prog) (o:=gdO 4 2) (a:=a2) (f:=15) (x:=.func 15) (caps:=#[]) (cl:={ callee:=.value (.func 15),args:=#[.tmp 41,.tmp 42],argTypes:=#[32,3] }) prog_nm Tryz.func15 rfl (by kernel_rfl) rfl rfl W
   rw [this]
   simp only [List.map_toArray,List.map_cons,List.map_nil]
   rw [show a2.eval (.tmp 41)=.agg #[.int .i64 ax,.int .i64 ay] from ((f2 41 (by decide)).trans g1),show a2.eval (.tmp 42)=.int .i64 p from g2]
   rfl
  refine gives_enter en ((disc_fok ax ay p W [.agg #[.int .i64 ax,.int .i64 ay],.int .i64 p] ?_).mono ?_)
  ·exact rvs_cons.2 ⟨_,arg_pt ia ja,_,rfl,rvs_cons.2 ⟨_,arg_in i8,_,rfl,rfl⟩⟩
  ·rintro e W' ⟨v, rfl, hv, hx⟩
   exact ⟨v,rfl,v,rfl,hx,hv⟩
 rw [d2]
 obtain ⟨a3,p3,z3,g3,f3,q3⟩:=put_x a2 43 200 v1 z2 (by decide)
 rw [p3]
 refine F_run (v:=.agg #[.int .i64 bx,.int .i64 by']) (by kernel_rfl) (fun W hW=>?_) ?_
 ·have := ex_load (P := Tryz.prog) (o := gdO 4 3) (a := a3) (w := W) (t := 32) (x := .tmp 4) (j := 0) (n := 2) (b := true) (cs := cm 1) (by kernel_rfl) (show a3.tmps.getD 4 undef = _ from (((f3 4 (by decide)).trans (f2 4 (by decide))).trans (f1 4 (by decide))).trans e4) (heap_ext hh1 hW) (by kernel_rfl) (by kernel_rfl) (by rw [hc1]; simp) nofun
  rw [List.drop_zero,hc1] at this
  exact this
 rw [d3]
 obtain ⟨a4,p4,z4,g4,f4,q4⟩:=put_x a3 44 200 (.agg #[.int .i64 bx,.int .i64 by']) z3 (by decide)
 rw [p4]
 refine F_run (v:=.int .i64 q) (by kernel_rfl) (fun W _=>?_) ?_
 ·have := ex_move (P := Tryz.prog) (o := gdO 4 4) (a := a4) (x := .tmp 9) (by kernel_rfl) W
  rw [show a4.eval (.tmp 9)=.int .i64 q from ((((f4 9 (by decide)).trans (f3 9 (by decide))).trans (f2 9 (by decide))).trans (f1 9 (by decide))).trans e9] at this
  exact this
 rw [d4]
 obtain ⟨a5,p5,z5,g5,f5,q5⟩:=put_x a4 45 200 (.int .i64 q) z4 (by decide)
 rw [p5]
 refine F_callE (I:=Value) (fun v=>v) (fun v W=>RepV W W (fun _=>0) 0 (shpV (discS bx by' q)) v) (shpV_mono (discS bx by' q)) (by kernel_rfl) (by kernel_rfl) (fun W hW=>?_) fun v2 hv2=>?_
 ·have en:(execOp a5.eval (gdO 4 5)).run Tryz.prog W=.ok (.enter 15 #[.agg #[.int .i64 bx,.int .i64 by'],.int .i64 q]) W:=by
   have:=run_enter (P:=Tryz.prog) (o:=gdO 4 5) (a:=a5) (f:=15) (x:=.func 15) (caps:=#[]) (cl:={ callee:=.value (.func 15),args:=#[.tmp 44,.tmp 45],argTypes:=#[32,3] }) prog_nm Tryz.func15 rfl (by kernel_rfl) rfl rfl W
   rw [this]
   simp only [List.map_toArray,List.map_cons,List.map_nil]
   rw [show a5.eval (.tmp 44)=.agg #[.int .i64 bx,.int .i64 by'] from ((f5 44 (by decide)).trans g4),show a5.eval (.tmp 45)=.int .i64 q from g5]
   rfl
  refine gives_enter en ((disc_fok bx by' q W [.agg #[.int .i64 bx,.int .i64 by'],.int .i64 q] ?_).mono ?_)
  ·exact rvs_cons.2 ⟨_,arg_pt ib jb,_,rfl,rvs_cons.2 ⟨_,arg_in i9,_,rfl,rfl⟩⟩
  ·rintro e W' ⟨v, rfl, hv, hx⟩
   exact ⟨v,rfl,v,rfl,hx,hv⟩
 rw [d5]
 obtain ⟨a6,p6,z6,g6,f6,q6⟩:=put_x a5 46 200 v2 z5 (by decide)
 rw [p6]
 obtain ⟨ok,hok⟩:∃ ok,(ofQ (discS ax ay p) (discS bx by' q)).2=ok:=⟨_,rfl⟩
 obtain ⟨G,hG⟩:∃ G,(ofQ (discS ax ay p) (discS bx by' q)).1=G:=⟨_,rfl⟩
 refine F_callE (I:=List Value) (fun cs=>.tuple #[.agg cs.toArray,.bool ok]) (fun cs W=>GpC W G cs) (fun cs W W' h hb=>h.ext hb) (by kernel_rfl) (by kernel_rfl) (fun W hW=>?_) fun cs hcs=>?_
 ·have en:(execOp a6.eval (gdO 4 6)).run Tryz.prog W=.ok (.enter 14 #[v1,v2]) W:=by
   have:=run_enter (P:=Tryz.prog) (o:=gdO 4 6) (a:=a6) (f:=14) (x:=.func 14) (caps:=#[]) (cl:={ callee:=.value (.func 14),args:=#[.tmp 43,.tmp 46],argTypes:=#[24,24] }) prog_nm Tryz.func14 rfl (by kernel_rfl) rfl rfl W
   rw [this]
   simp only [List.map_toArray,List.map_cons,List.map_nil]
   rw [show a6.eval (.tmp 43)=v1 from ((((f6 43 (by decide)).trans (f5 43 (by decide))).trans (f4 43 (by decide))).trans g3),show a6.eval (.tmp 46)=v2 from g6]
   rfl
  refine gives_enter en ((gapOf_fok (discS ax ay p) (discS bx by' q) W _ (rvs_cons.2 ⟨_,hW.1.2,_,rfl,rvs_cons.2 ⟨_,hW.2,_,rfl,rfl⟩⟩)).mono ?_)
  rintro e W' ⟨v,rfl,hv,hx⟩
  rw [show ofQ (discS ax ay p) (discS bx by' q)=(G,ok) from Prod.ext hG hok] at hv
  obtain ⟨cs,rfl,hg⟩:=gpC_val hv
  exact ⟨_,rfl,cs,rfl,hx,hg⟩
 rw [d6]
 obtain ⟨a7,p7,z7,g7,f7,q7⟩:=put_x a6 47 200 (.tuple #[.agg cs.toArray,.bool ok]) z6 (by decide)
 rw [p7]
 obtain ⟨W0,hW0⟩:=hcs
 obtain ⟨h21,h1c⟩:=hW0.2.one
 have hnc:=hW0.2.nd
 clear hW0
 refine F_run (v:=.tuple #[.agg cs.toArray,.bool ok]) (by kernel_rfl) (fun W _=>?_) ?_
 ·have := ex_move (P := Tryz.prog) (o := gdO 4 7) (a := a7) (x := .tmp 47) (by kernel_rfl) W
  rw [show a7.eval (.tmp 47)=.tuple #[.agg cs.toArray,.bool ok] from g7] at this
  exact this
 rw [d7]
 obtain ⟨a8,p8,z8,g8,f8,q8⟩:=put_x a7 40 200 (.tuple #[.agg cs.toArray,.bool ok]) z7 (by decide)
 rw [p8]
 refine F_run (v:=.agg cs.toArray) (by kernel_rfl) (fun W _=>ex_extract (x:=.tmp 40) (j:=0) (vs:=[.agg cs.toArray,.bool ok]) (by kernel_rfl) g8 rfl W) ?_
 rw [d8]
 obtain ⟨a9,p9,z9,g9,f9,q9⟩:=put_x a8 48 200 (.agg cs.toArray) z8 (by decide)
 rw [p9]
 refine F_run (v:=.bool ok) (by kernel_rfl) (fun W _=>ex_extract (x:=.tmp 40) (j:=1) (vs:=[.agg cs.toArray,.bool ok]) (by kernel_rfl) ((f9 40 (by decide)).trans g8) rfl W) ?_
 rw [d9]
 obtain ⟨a10,p10,z10,g10,f10,q10⟩:=put_x a9 49 200 (.bool ok) z9 (by decide)
 rw [p10]
 refine F_alloc (.cells zGp.toArray 42) (by kernel_rfl) (by kernel_rfl) (fun W _=>?_) (fun g hg=>?_) (by intro g;kernel_rfl)
 ·obtain ⟨i, i1, i2⟩ := info_of (P := Tryz.prog) (t := 42) (z := .agg zGp.toArray) (by kernel_rfl)
  exact ex_alloc (by kernel_rfl) i1 i2 W
 have hgw:w.heap.size<=g:=Nat.le_of_not_lt fun h=>hg (List.mem_range.2 h)
 rw [d10]
 obtain ⟨a11,p11,z11,g11,f11,q11⟩:=put_x a10 10 200 (.pointer (some ⟨g,0,none⟩)) z10 (by decide)
 rw [p11]
 refine F_store (fun W=>Ext w W/\GpC W G cs/\W.heap[g]? = some (.cells cs.toArray 42)) (fun W W' h hb=>⟨Ext.step h.1 hb,h.2.1.ext hb,heap_ext h.2.2 hb⟩) (fun _ h=>h.1) (by kernel_rfl) (by kernel_rfl) (fun W hW=>?_) ?_
 ·obtain ⟨⟨⟨⟨x1, _⟩, _⟩, hg1⟩, hgg⟩ := hW
  obtain ⟨o1,o2⟩:=onlyB_setRow (cs':=(zGp.take 0++(cs++zGp.drop (0+cs.length))).toArray) hgg
  have ec:zGp.take 0++(cs++zGp.drop (0+cs.length))=cs:=by rw [List.take_zero,List.nil_append,Nat.zero_add,List.drop_eq_nil_of_le (by rw [h21];decide),List.append_nil]
  refine gives_skip (W:=W.setRow g (zGp.take 0++(cs++zGp.drop (0+cs.length))).toArray) (ex_store (t:=42) (vs:=cs) (x:=.tmp 10) (y:=.tmp 48) (n:=21) (by kernel_rfl) ?_ hgg ?_ (by kernel_rfl) h21 (by rw [h21];decide) h1c) ⟨rfl,by rw [o1.size];exact Nat.le_refl _,x1.trans (o1.below hgw),hg1.only o1 hgg,by rw [o2,ec]⟩
  ·exact g11
  ·rw [show a11.eval (.tmp 48) = .agg cs.toArray from (((f11 48 (by decide)).trans (f10 48 (by decide))).trans g9)]
   rfl
 rw [d11,put_none]
 refine F_run (v:=.bool ok) (by kernel_rfl) (fun W _=>?_) ?_
 ·have := ex_assign (P := Tryz.prog) (o := gdO 4 12) (a := a11) (x := .tmp 49) (by kernel_rfl) W
  rw [show a11.eval (.tmp 49)=.bool ok from ((f11 49 (by decide)).trans g10)] at this
  exact this
 rw [d12]
 obtain ⟨a12,p12,z12,g12,f12,q12⟩:=put_x a11 11 200 (.bool ok) z11 (by decide)
 rw [p12]
 rintro W ⟨⟨x1,hg1,hgg⟩,_⟩
 have hM':=hM.step x1
 have hno:∀ b x,mb (mkS (orA ax ay bx by' r0 r1 p q).n (orA ax ay bx by' r0 r1 p q).d0).m b=some x->r b ≠ g:=fun b x hb e=>by
  have:=(Array.getElem?_eq_some_iff.1 (hM.blk b x hb).1).1
  omega
 have hM2:=hM'.new (T:=42) (l:=gpL G) hgg (RepL.pre (gpL_rl hg1)) (by have:=hM.ext.size;omega) hno
 have hd1:(orA ax ay bx by' r0 r1 p q).d1=gdA1 ax ay bx by' r0 r1 p q G ok:=by subst hok;subst hG;rfl
 rw [hd1] at hQ
 unfold gdA1 at hQ
 have up':∀ {v:V1} {x:Value},RepV V w r 3 v x->RepV V W (up r 3 g) 4 v x:=fun {v x} h=>by
  obtain ⟨cs',k1,k2⟩:=h
  exact ⟨cs',k1.imp fun i cs h=>RepI.grow (Nat.le_succ _) (fun b hb=>up_old hb) i cs (RepI.ext x1 i cs h),k2⟩
 refine hQ _ _ ⟨up r 3 g,upM cm 3 cs,⟨hM2,q12.trans (q11.trans (q10.trans (q9.trans (q8.trans (q7.trans (q6.trans (q5.trans (q4.trans (q3.trans (q2.trans (q1.trans hd)))))))))))⟩,z12,fun i v hv=>?_⟩
 rcases Tr.sets_get (Tm.get_lt hv).2 with rfl | ⟨x,hx',rfl⟩
 ·trivial
 ·simp only [List.mem_cons, List.not_mem_nil, or_false, Prod.mk.injEq] at hx'
  rcases hx' with ⟨rfl,rfl⟩ | ⟨rfl,rfl⟩ | ⟨rfl,rfl⟩ | ⟨rfl,rfl⟩ | ⟨rfl,rfl⟩ | ⟨rfl,rfl⟩ | ⟨rfl,rfl⟩
  ·rw [((((((((((((f12 3 (by decide)).trans (f11 3 (by decide))).trans (f10 3 (by decide))).trans (f9 3 (by decide))).trans (f8 3 (by decide))).trans (f7 3 (by decide))).trans (f6 3 (by decide))).trans (f5 3 (by decide))).trans (f4 3 (by decide))).trans (f3 3 (by decide))).trans (f2 3 (by decide))).trans (f1 3 (by decide)))];exact up' (hT 3 (.one (ptrN 0)) (by kernel_rfl))
  ·rw [((((((((((((f12 4 (by decide)).trans (f11 4 (by decide))).trans (f10 4 (by decide))).trans (f9 4 (by decide))).trans (f8 4 (by decide))).trans (f7 4 (by decide))).trans (f6 4 (by decide))).trans (f5 4 (by decide))).trans (f4 4 (by decide))).trans (f3 4 (by decide))).trans (f2 4 (by decide))).trans (f1 4 (by decide)))];exact up' (hT 4 (.one (ptrN 1)) (by kernel_rfl))
  ·rw [((((((((((((f12 7 (by decide)).trans (f11 7 (by decide))).trans (f10 7 (by decide))).trans (f9 7 (by decide))).trans (f8 7 (by decide))).trans (f7 7 (by decide))).trans (f6 7 (by decide))).trans (f5 7 (by decide))).trans (f4 7 (by decide))).trans (f3 7 (by decide))).trans (f2 7 (by decide))).trans (f1 7 (by decide)))];exact up' (hT 7 (.one (blV true)) (by kernel_rfl))
  ·rw [((((((((((((f12 8 (by decide)).trans (f11 8 (by decide))).trans (f10 8 (by decide))).trans (f9 8 (by decide))).trans (f8 8 (by decide))).trans (f7 8 (by decide))).trans (f6 8 (by decide))).trans (f5 8 (by decide))).trans (f4 8 (by decide))).trans (f3 8 (by decide))).trans (f2 8 (by decide))).trans (f1 8 (by decide)))];exact up' (hT 8 (.one (inV p 100)) (by kernel_rfl))
  ·rw [((((((((((((f12 9 (by decide)).trans (f11 9 (by decide))).trans (f10 9 (by decide))).trans (f9 9 (by decide))).trans (f8 9 (by decide))).trans (f7 9 (by decide))).trans (f6 9 (by decide))).trans (f5 9 (by decide))).trans (f4 9 (by decide))).trans (f3 9 (by decide))).trans (f2 9 (by decide))).trans (f1 9 (by decide)))];exact up' (hT 9 (.one (inV q 100)) (by kernel_rfl))
  ·rw [((f12 10 (by decide)).trans g11)]
   exact RepI.val (i:=.p 3 0) ⟨Nat.lt_succ_self _,by simp [up]⟩
  ·rw [g12]
   exact rv_v.2 ⟨rfl,rfl⟩
theorem or_B (bx by' xa ya xb yb nx ny p:Int):OrcOk Tryz.prog (lpC 4 (2*10+1)) (orB bx by' xa ya xb yb nx ny p):=by
 intro V a w Q hJ hQ
 obtain ⟨r,cm,⟨hM,hd⟩,hsz,hT⟩:=hJ
 have hn:a.tmps.size=200:=hsz.trans (by kernel_rfl)
 have t4:RepV V w r 6 (ptrN 1) (a.tmps.getD 4 undef):=hT 4 (.one (ptrN 1)) (by kernel_rfl)
 have e4:a.tmps.getD 4 undef=.pointer (some ⟨r 1,0,none⟩):=by simpa using t4.scal.2
 have t13:RepV V w r 6 (ptrN 4) (a.tmps.getD 13 undef):=hT 13 (.one (ptrN 4)) (by kernel_rfl)
 have e13:a.tmps.getD 13 undef=.pointer (some ⟨r 4,0,none⟩):=by simpa using t13.scal.2
 have t8:RepV V w r 6 (inV p 100) (a.tmps.getD 8 undef):=hT 8 (.one (inV p 100)) (by kernel_rfl)
 have e8:a.tmps.getD 8 undef=.int .i64 p:=(rv_i.1 t8).2
 have i8:I64 p:=(rv_i.1 t8).1.2
 obtain ⟨hh1,c1,dd1,hc1,rl1,_⟩:=hM.blk 1 ⟨32,[.i bx 1000,.i by' 1000]⟩ (by kernel_rfl)
 simp only [rl_i,rl_nil] at rl1
 obtain ⟨⟨_,ib⟩,_,rfl,⟨_,jb⟩,_,rfl,rfl⟩:=rl1
 obtain ⟨hh4,c4,dd4,hc4,rl4,_⟩:=hM.blk 4 ⟨49,[.i xa 1000,.i ya 1000,.i xb 1101,.i yb 1101]⟩ (by kernel_rfl)
 simp only [rl_i,rl_nil] at rl4
 obtain ⟨⟨_,k0⟩,_,rfl,⟨_,k1⟩,_,rfl,⟨_,k2⟩,_,rfl,⟨_,k3⟩,_,rfl,rfl⟩:=rl4
 refine wp_as (c':=Code.region 10 (gdR 10).toArray true) (by kernel_rfl) ?_
 refine wp_region_F (fun W=>Ext w W) (by kernel_rfl) (by kernel_rfl) (fun W W' h hb=>Ext.step h hb) (fun W h=>h.size) (Below.refl _ _) ?_
 rw [show gdR 10=[gdO 10 0,gdO 10 1,gdO 10 2,gdO 10 3,gdO 10 4,gdO 10 5,gdO 10 6,gdO 10 7,gdO 10 8,gdO 10 9,gdO 10 10,gdO 10 11] by kernel_rfl]
 have d0:(gdO 10 0).dst=some 143:=by kernel_rfl
 have d1:(gdO 10 1).dst=some 144:=by kernel_rfl
 have d2:(gdO 10 2).dst=some 145:=by kernel_rfl
 have d3:(gdO 10 3).dst=some 146:=by kernel_rfl
 have d4:(gdO 10 4).dst=some 147:=by kernel_rfl
 have d5:(gdO 10 5).dst=some 148:=by kernel_rfl
 have d6:(gdO 10 6).dst=some 142:=by kernel_rfl
 have d7:(gdO 10 7).dst=some 149:=by kernel_rfl
 have d8:(gdO 10 8).dst=some 150:=by kernel_rfl
 have d9:(gdO 10 9).dst=some 15:=by kernel_rfl
 have d10:(gdO 10 10).dst=none:=by kernel_rfl
 have d11:(gdO 10 11).dst=some 16:=by kernel_rfl
 have ev:∀ t,t < 200->a.eval (.tmp t)=a.tmps.getD t undef:=fun _ _=>rfl
 refine F_run (v:=.agg #[.int .i64 xa,.int .i64 ya,.int .i64 xb,.int .i64 yb]) (by kernel_rfl) (fun W hW=>?_) ?_
 ·have := ex_load (P := Tryz.prog) (o := gdO 10 0) (a := a) (w := W) (t := 49) (x := .tmp 13) (j := 0) (n := 4) (b := true) (cs := cm 4) (by kernel_rfl) (show a.tmps.getD 13 undef = _ from e13) (heap_ext hh4 hW) (by kernel_rfl) (by kernel_rfl) (by rw [hc4]; simp) nofun
  rw [List.drop_zero,hc4] at this
  exact this
 rw [d0]
 obtain ⟨a1,p1,z1,g1,f1,q1⟩:=put_x a 143 200 (.agg #[.int .i64 xa,.int .i64 ya,.int .i64 xb,.int .i64 yb]) hn (by decide)
 rw [p1]
 refine F_callE (I:=Value) (fun v=>v) (fun v W=>RepV W W (fun _=>0) 0 (shpV (rectS xa ya xb yb)) v) (shpV_mono (rectS xa ya xb yb)) (by kernel_rfl) (by kernel_rfl) (fun W hW=>?_) fun v1 hv1=>?_
 ·have en:(execOp a1.eval (gdO 10 1)).run Tryz.prog W=.ok (.enter 18 #[.agg #[.int .i64 xa,.int .i64 ya,.int .i64 xb,.int .i64 yb]]) W:=by
   have:=run_enter (P:=Tryz.prog) (o:=gdO 10 1) (a:=a1) (f:=18) (x:=.func 18) (caps:=#[]) (cl:={ callee:=.value (.func 18),args:=#[.tmp 143],argTypes:=#[49] }) prog_nm Tryz.func18 rfl (by kernel_rfl) rfl rfl W
   rw [this]
   simp only [List.map_toArray,List.map_cons,List.map_nil]
   rw [show a1.eval (.tmp 143)=.agg #[.int .i64 xa,.int .i64 ya,.int .i64 xb,.int .i64 yb] from g1]
   rfl
  refine gives_enter en ((rectP_fok xa ya xb yb W [.agg #[.int .i64 xa,.int .i64 ya,.int .i64 xb,.int .i64 yb]] ?_).mono ?_)
  ·exact rvs_cons.2 ⟨_,arg_rc k0 k1 k2 k3,_,rfl,rfl⟩
  ·rintro e W' ⟨v, rfl, hv, hx⟩
   exact ⟨v,rfl,v,rfl,hx,hv⟩
 rw [d1]
 obtain ⟨a2,p2,z2,g2,f2,q2⟩:=put_x a1 144 200 v1 z1 (by decide)
 rw [p2]
 refine F_run (v:=.agg #[.int .i64 bx,.int .i64 by']) (by kernel_rfl) (fun W hW=>?_) ?_
 ·have := ex_load (P := Tryz.prog) (o := gdO 10 2) (a := a2) (w := W) (t := 32) (x := .tmp 4) (j := 0) (n := 2) (b := true) (cs := cm 1) (by kernel_rfl) (show a2.tmps.getD 4 undef = _ from ((f2 4 (by decide)).trans (f1 4 (by decide))).trans e4) (heap_ext hh1 hW) (by kernel_rfl) (by kernel_rfl) (by rw [hc1]; simp) nofun
  rw [List.drop_zero,hc1] at this
  exact this
 rw [d2]
 obtain ⟨a3,p3,z3,g3,f3,q3⟩:=put_x a2 145 200 (.agg #[.int .i64 bx,.int .i64 by']) z2 (by decide)
 rw [p3]
 refine F_run (v:=.int .i64 p) (by kernel_rfl) (fun W _=>?_) ?_
 ·have := ex_move (P := Tryz.prog) (o := gdO 10 3) (a := a3) (x := .tmp 8) (by kernel_rfl) W
  rw [show a3.eval (.tmp 8)=.int .i64 p from (((f3 8 (by decide)).trans (f2 8 (by decide))).trans (f1 8 (by decide))).trans e8] at this
  exact this
 rw [d3]
 obtain ⟨a4,p4,z4,g4,f4,q4⟩:=put_x a3 146 200 (.int .i64 p) z3 (by decide)
 rw [p4]
 refine F_callE (I:=Value) (fun v=>v) (fun v W=>RepV W W (fun _=>0) 0 (shpV (discS bx by' p)) v) (shpV_mono (discS bx by' p)) (by kernel_rfl) (by kernel_rfl) (fun W hW=>?_) fun v2 hv2=>?_
 ·have en:(execOp a4.eval (gdO 10 4)).run Tryz.prog W=.ok (.enter 15 #[.agg #[.int .i64 bx,.int .i64 by'],.int .i64 p]) W:=by
   have:=run_enter (P:=Tryz.prog) (o:=gdO 10 4) (a:=a4) (f:=15) (x:=.func 15) (caps:=#[]) (cl:={ callee:=.value (.func 15),args:=#[.tmp 145,.tmp 146],argTypes:=#[32,3] }) prog_nm Tryz.func15 rfl (by kernel_rfl) rfl rfl W
   rw [this]
   simp only [List.map_toArray,List.map_cons,List.map_nil]
   rw [show a4.eval (.tmp 145)=.agg #[.int .i64 bx,.int .i64 by'] from ((f4 145 (by decide)).trans g3),show a4.eval (.tmp 146)=.int .i64 p from g4]
   rfl
  refine gives_enter en ((disc_fok bx by' p W [.agg #[.int .i64 bx,.int .i64 by'],.int .i64 p] ?_).mono ?_)
  ·exact rvs_cons.2 ⟨_,arg_pt ib jb,_,rfl,rvs_cons.2 ⟨_,arg_in i8,_,rfl,rfl⟩⟩
  ·rintro e W' ⟨v, rfl, hv, hx⟩
   exact ⟨v,rfl,v,rfl,hx,hv⟩
 rw [d4]
 obtain ⟨a5,p5,z5,g5,f5,q5⟩:=put_x a4 147 200 v2 z4 (by decide)
 rw [p5]
 obtain ⟨ok,hok⟩:∃ ok,(ofQ (rectS xa ya xb yb) (discS bx by' p)).2=ok:=⟨_,rfl⟩
 obtain ⟨G,hG⟩:∃ G,(ofQ (rectS xa ya xb yb) (discS bx by' p)).1=G:=⟨_,rfl⟩
 refine F_callE (I:=List Value) (fun cs=>.tuple #[.agg cs.toArray,.bool ok]) (fun cs W=>GpC W G cs) (fun cs W W' h hb=>h.ext hb) (by kernel_rfl) (by kernel_rfl) (fun W hW=>?_) fun cs hcs=>?_
 ·have en:(execOp a5.eval (gdO 10 5)).run Tryz.prog W=.ok (.enter 14 #[v1,v2]) W:=by
   have:=run_enter (P:=Tryz.prog) (o:=gdO 10 5) (a:=a5) (f:=14) (x:=.func 14) (caps:=#[]) (cl:={ callee:=.value (.func 14),args:=#[.tmp 144,.tmp 147],argTypes:=#[24,24] }) prog_nm Tryz.func14 rfl (by kernel_rfl) rfl rfl W
   rw [this]
   simp only [List.map_toArray,List.map_cons,List.map_nil]
   rw [show a5.eval (.tmp 144)=v1 from ((((f5 144 (by decide)).trans (f4 144 (by decide))).trans (f3 144 (by decide))).trans g2),show a5.eval (.tmp 147)=v2 from g5]
   rfl
  refine gives_enter en ((gapOf_fok (rectS xa ya xb yb) (discS bx by' p) W _ (rvs_cons.2 ⟨_,hW.1.2,_,rfl,rvs_cons.2 ⟨_,hW.2,_,rfl,rfl⟩⟩)).mono ?_)
  rintro e W' ⟨v,rfl,hv,hx⟩
  rw [show ofQ (rectS xa ya xb yb) (discS bx by' p)=(G,ok) from Prod.ext hG hok] at hv
  obtain ⟨cs,rfl,hg⟩:=gpC_val hv
  exact ⟨_,rfl,cs,rfl,hx,hg⟩
 rw [d5]
 obtain ⟨a6,p6,z6,g6,f6,q6⟩:=put_x a5 148 200 (.tuple #[.agg cs.toArray,.bool ok]) z5 (by decide)
 rw [p6]
 obtain ⟨W0,hW0⟩:=hcs
 obtain ⟨h21,h1c⟩:=hW0.2.one
 have hnc:=hW0.2.nd
 clear hW0
 refine F_run (v:=.tuple #[.agg cs.toArray,.bool ok]) (by kernel_rfl) (fun W _=>?_) ?_
 ·have := ex_move (P := Tryz.prog) (o := gdO 10 6) (a := a6) (x := .tmp 148) (by kernel_rfl) W
  rw [show a6.eval (.tmp 148)=.tuple #[.agg cs.toArray,.bool ok] from g6] at this
  exact this
 rw [d6]
 obtain ⟨a7,p7,z7,g7,f7,q7⟩:=put_x a6 142 200 (.tuple #[.agg cs.toArray,.bool ok]) z6 (by decide)
 rw [p7]
 refine F_run (v:=.agg cs.toArray) (by kernel_rfl) (fun W _=>ex_extract (x:=.tmp 142) (j:=0) (vs:=[.agg cs.toArray,.bool ok]) (by kernel_rfl) g7 rfl W) ?_
 rw [d7]
 obtain ⟨a8,p8,z8,g8,f8,q8⟩:=put_x a7 149 200 (.agg cs.toArray) z7 (by decide)
 rw [p8]
 refine F_run (v:=.bool ok) (by kernel_rfl) (fun W _=>ex_extract (x:=.tmp 142) (j:=1) (vs:=[.agg cs.toArray,.bool ok]) (by kernel_rfl) ((f8 142 (by decide)).trans g7) rfl W) ?_
 rw [d8]
 obtain ⟨a9,p9,z9,g9,f9,q9⟩:=put_x a8 150 200 (.bool ok) z8 (by decide)
 rw [p9]
 refine F_alloc (.cells zGp.toArray 42) (by kernel_rfl) (by kernel_rfl) (fun W _=>?_) (fun g hg=>?_) (by intro g;kernel_rfl)
 ·obtain ⟨i, i1, i2⟩ := info_of (P := Tryz.prog) (t := 42) (z := .agg zGp.toArray) (by kernel_rfl)
  exact ex_alloc (by kernel_rfl) i1 i2 W
 have hgw:w.heap.size<=g:=Nat.le_of_not_lt fun h=>hg (List.mem_range.2 h)
 rw [d9]
 obtain ⟨a10,p10,z10,g10,f10,q10⟩:=put_x a9 15 200 (.pointer (some ⟨g,0,none⟩)) z9 (by decide)
 rw [p10]
 refine F_store (fun W=>Ext w W/\GpC W G cs/\W.heap[g]? = some (.cells cs.toArray 42)) (fun W W' h hb=>⟨Ext.step h.1 hb,h.2.1.ext hb,heap_ext h.2.2 hb⟩) (fun _ h=>h.1) (by kernel_rfl) (by kernel_rfl) (fun W hW=>?_) ?_
 ·obtain ⟨⟨⟨⟨x1, _⟩, _⟩, hg1⟩, hgg⟩ := hW
  obtain ⟨o1,o2⟩:=onlyB_setRow (cs':=(zGp.take 0++(cs++zGp.drop (0+cs.length))).toArray) hgg
  have ec:zGp.take 0++(cs++zGp.drop (0+cs.length))=cs:=by rw [List.take_zero,List.nil_append,Nat.zero_add,List.drop_eq_nil_of_le (by rw [h21];decide),List.append_nil]
  refine gives_skip (W:=W.setRow g (zGp.take 0++(cs++zGp.drop (0+cs.length))).toArray) (ex_store (t:=42) (vs:=cs) (x:=.tmp 15) (y:=.tmp 149) (n:=21) (by kernel_rfl) ?_ hgg ?_ (by kernel_rfl) h21 (by rw [h21];decide) h1c) ⟨rfl,by rw [o1.size];exact Nat.le_refl _,x1.trans (o1.below hgw),hg1.only o1 hgg,by rw [o2,ec]⟩
  ·exact g10
  ·rw [show a10.eval (.tmp 149) = .agg cs.toArray from (((f10 149 (by decide)).trans (f9 149 (by decide))).trans g8)]
   rfl
 rw [d10,put_none]
 refine F_run (v:=.bool ok) (by kernel_rfl) (fun W _=>?_) ?_
 ·have := ex_assign (P := Tryz.prog) (o := gdO 10 11) (a := a10) (x := .tmp 150) (by kernel_rfl) W
  rw [show a10.eval (.tmp 150)=.bool ok from ((f10 150 (by decide)).trans g9)] at this
  exact this
 rw [d11]
 obtain ⟨a11,p11,z11,g11,f11,q11⟩:=put_x a10 16 200 (.bool ok) z10 (by decide)
 rw [p11]
 rintro W ⟨⟨x1,hg1,hgg⟩,_⟩
 have hM':=hM.step x1
 have hno:∀ b x,mb (mkS (orB bx by' xa ya xb yb nx ny p).n (orB bx by' xa ya xb yb nx ny p).d0).m b=some x->r b ≠ g:=fun b x hb e=>by
  have:=(Array.getElem?_eq_some_iff.1 (hM.blk b x hb).1).1
  omega
 have hM2:=hM'.new (T:=42) (l:=gpL G) hgg (RepL.pre (gpL_rl hg1)) (by have:=hM.ext.size;omega) hno
 have hd1:(orB bx by' xa ya xb yb nx ny p).d1=gdB1 bx by' xa ya xb yb nx ny p G ok:=by subst hok;subst hG;rfl
 rw [hd1] at hQ
 unfold gdB1 at hQ
 have up':∀ {v:V1} {x:Value},RepV V w r 6 v x->RepV V W (up r 6 g) 7 v x:=fun {v x} h=>by
  obtain ⟨cs',k1,k2⟩:=h
  exact ⟨cs',k1.imp fun i cs h=>RepI.grow (Nat.le_succ _) (fun b hb=>up_old hb) i cs (RepI.ext x1 i cs h),k2⟩
 refine hQ _ _ ⟨up r 6 g,upM cm 6 cs,⟨hM2,q11.trans (q10.trans (q9.trans (q8.trans (q7.trans (q6.trans (q5.trans (q4.trans (q3.trans (q2.trans (q1.trans hd))))))))))⟩,z11,fun i v hv=>?_⟩
 rcases Tr.sets_get (Tm.get_lt hv).2 with rfl | ⟨x,hx',rfl⟩
 ·trivial
 ·simp only [List.mem_cons, List.not_mem_nil, or_false, Prod.mk.injEq] at hx'
  rcases hx' with ⟨rfl,rfl⟩ | ⟨rfl,rfl⟩ | ⟨rfl,rfl⟩ | ⟨rfl,rfl⟩ | ⟨rfl,rfl⟩ | ⟨rfl,rfl⟩ | ⟨rfl,rfl⟩
  ·rw [(((((((((((f11 4 (by decide)).trans (f10 4 (by decide))).trans (f9 4 (by decide))).trans (f8 4 (by decide))).trans (f7 4 (by decide))).trans (f6 4 (by decide))).trans (f5 4 (by decide))).trans (f4 4 (by decide))).trans (f3 4 (by decide))).trans (f2 4 (by decide))).trans (f1 4 (by decide)))];exact up' (hT 4 (.one (ptrN 1)) (by kernel_rfl))
  ·rw [(((((((((((f11 7 (by decide)).trans (f10 7 (by decide))).trans (f9 7 (by decide))).trans (f8 7 (by decide))).trans (f7 7 (by decide))).trans (f6 7 (by decide))).trans (f5 7 (by decide))).trans (f4 7 (by decide))).trans (f3 7 (by decide))).trans (f2 7 (by decide))).trans (f1 7 (by decide)))];exact up' (hT 7 (.one (blV true)) (by kernel_rfl))
  ·rw [(((((((((((f11 8 (by decide)).trans (f10 8 (by decide))).trans (f9 8 (by decide))).trans (f8 8 (by decide))).trans (f7 8 (by decide))).trans (f6 8 (by decide))).trans (f5 8 (by decide))).trans (f4 8 (by decide))).trans (f3 8 (by decide))).trans (f2 8 (by decide))).trans (f1 8 (by decide)))];exact up' (hT 8 (.one (inV p 100)) (by kernel_rfl))
  ·rw [(((((((((((f11 13 (by decide)).trans (f10 13 (by decide))).trans (f9 13 (by decide))).trans (f8 13 (by decide))).trans (f7 13 (by decide))).trans (f6 13 (by decide))).trans (f5 13 (by decide))).trans (f4 13 (by decide))).trans (f3 13 (by decide))).trans (f2 13 (by decide))).trans (f1 13 (by decide)))];exact up' (hT 13 (.one (ptrN 4)) (by kernel_rfl))
  ·rw [(((((((((((f11 14 (by decide)).trans (f10 14 (by decide))).trans (f9 14 (by decide))).trans (f8 14 (by decide))).trans (f7 14 (by decide))).trans (f6 14 (by decide))).trans (f5 14 (by decide))).trans (f4 14 (by decide))).trans (f3 14 (by decide))).trans (f2 14 (by decide))).trans (f1 14 (by decide)))];exact up' (hT 14 (.one (ptrN 5)) (by kernel_rfl))
  ·rw [((f11 15 (by decide)).trans g10)]
   exact RepI.val (i:=.p 6 0) ⟨Nat.lt_succ_self _,by simp [up]⟩
  ·rw [g11]
   exact rv_v.2 ⟨rfl,rfl⟩
end

set_option maxRecDepth 1000000
section
open Go.RowKit
theorem is_c {G:Gp × Bool} {N k k' N':Int} (h:IsQ G N k) (e1:k' = -k) (e2:N'=N):(cmpRt G.1.d (dR k' 1 N' 1)==0)=true:=by
 subst e1;subst e2
 have:cmpRt G.1.d (dR (-k) 1 N' 1)=0:=h.c
 rw [this];rfl
def pt2 (x y u v:Int):Bool:=eqZ [.i x,.i y] [.i u,.i v]
theorem pt2_eq {x y u v:Int}:pt2 x y u v=true <-> x=u/\y=v:=by
 unfold pt2 eqZ eqZ eqS
 simp
theorem not_t {b:Bool} (h:b=true):(!b)=false:=by rw [h];rfl
theorem not_f {b:Bool} (h:b=false):(!b)=true:=by rw [h];rfl
def p100:Pf:=pP (show (100:Int) ≠ 0 by decide)
def p1000:Pf:=pP (show (1000:Int) ≠ 0 by decide)
def pIn (x:Int):Pf:=⟨x=x,rfl⟩
def p8 (x:Int):Pf:=⟨It.v (.int .u8 x)=It.v (.int .u8 x),rfl⟩
def dT (z:Int):Int:=z.tmod 1000
def dC (z:Int):Int:=z.tmod 100
theorem dT_bd (z:Int) : -1000 < dT z/\dT z < 1000:=tmod_bd z (by decide)
theorem dC_bd {z:Int} (h:0<=z/\z<=255):0<=dC z/\dC z < 100:=⟨Int.tmod_nonneg _ h.1,(tmod_bd z (show (0:Int) < 100 by decide)).2⟩
def hdP (ax ay bx by' r0 r1:Int) (h0:0<=r0/\r0<=255) (h1:0<=r1/\r1<=255):List Pf :=
 [p1000,p1000,p1000,p1000,pP h0,p100,pP h1,p100,pR (ptrN 0),pR (ptrN 1),pR (blV true),pR (inV (dC r0) 100),pR (inV (dC r1) 100),pIn (dT ax),pIn (dT ay),pIn (dT bx),pIn (dT by'),p8 r0,p8 r1]
def x1D (ax r0:Int):Int:=dT ax+1+dC r0
def mdP (ax ay bx by' r0 r1:Int):List Pf :=
 [pR (ptrN 1),pR (blV true),pR (inV (dC r0) 100),pR (ptrN 4),pR (ptrN 5),pIn (dT bx),pIn (dT by'),pIn (dT ax),pIn (dT ay),pIn (x1D ax r0),pIn (x1D ay r1),pIn (max (dT ax) (min (dT bx) (x1D ax r0))),pIn (max (dT ay) (min (dT by') (x1D ay r1)))]
noncomputable def ord2 (ax ay bx by' r0 r1:Int):List (Nat × Orc) :=
 [(2*4+1,orA (dT ax) (dT ay) (dT bx) (dT by') r0 r1 (dC r0) (dC r1)),(2*10+1,orB (dT bx) (dT by') (dT ax) (dT ay) (x1D ax r0) (x1D ay r1) (max (dT ax) (min (dT bx) (x1D ax r0))) (max (dT ay) (min (dT by') (x1D ay r1))) (dC r0))]
theorem ord2_ok (ax ay bx by' r0 r1:Int):LT 4 (ord2 ax ay bx by' r0 r1):=LT.cons (or_A _ _ _ _ _ _ _ _) (LT.cons (or_B _ _ _ _ _ _ _ _ _) LT.nil)
def gdV (ax ay bx by' r0 r1:Int):List V1:=[⟨true,[.i ax lim,.i ay lim]⟩,⟨true,[.i bx lim,.i by' lim]⟩,⟨true,[.v (.int .u8 r0),.v (.int .u8 r1)]⟩]
section
variable {ax ay bx by' r0 r1:Int}
def G1 (ax ay bx by' r0 r1:Int):Gp × Bool:=ofQ (discS (dT ax) (dT ay) (dC r0)) (discS (dT bx) (dT by') (dC r1))
def G2 (ax ay bx by' r0 r1:Int):Gp × Bool:=ofQ (rectS (dT ax) (dT ay) (x1D ax r0) (x1D ay r1)) (discS (dT bx) (dT by') (dC r0))
def N1 (ax ay bx by':Int):Int:=(dT ax - dT bx)*(dT ax - dT bx)+(dT ay - dT by')*(dT ay - dT by')
def nX (ax bx r0:Int):Int:=max (dT ax) (min (dT bx) (x1D ax r0))
def N2 (ax ay bx by' r0 r1:Int):Int:=(nX ax bx r0 - dT bx)*(nX ax bx r0 - dT bx)+(nX ay by' r1 - dT by')*(nX ay by' r1 - dT by')
theorem discs_1 (h0:0<=r0/\r0<=255) (h1:0<=r1/\r1<=255) (e1:pt2 (dT ax) (dT ay) (dT bx) (dT by')=false) (o1:(G1 ax ay bx by' r0 r1).2=true) (m1:(G1 ax ay bx by' r0 r1).1.m=false) (g1:Rt.right (G1 ax ay bx by' r0 r1).1.d=true) (c1:(cmpRt (G1 ax ay bx by' r0 r1).1.d (dR (0 - (dC r0+dC r1)) 1 (N1 ax ay bx by') 1)==0)=true)
  (e2:pt2 (nX ax bx r0) (nX ay by' r1) (dT bx) (dT by')=true) (o2:(G2 ax ay bx by' r0 r1).2=true) (m2:(G2 ax ay bx by' r0 r1).1.m=true) :
  Fok Tryz.prog 4 (gdV ax ay bx by' r0 r1) (.one (blV (touchQ (discS (dT bx) (dT by') (dC r0)) (rectS (dT ax) (dT ay) (x1D ax r0) (x1D ay r1))))) :=
 fokL [] KDi _ (ord2_ok ax ay bx by' r0 r1) [true,true,true,true,false,false,true,true,true,true] (hdP ax ay bx by' r0 r1 h0 h1++[pT (not_f e1),pT o1,pT (not_f m1),pT g1,pF (not_t c1),pF e1]++mdP ax ay bx by' r0 r1++[pT e2,pT (rfl:true=true),pT o2,pT m2]) (by kernel_rfl)
theorem discs_2 (h0:0<=r0/\r0<=255) (h1:0<=r1/\r1<=255) (e1:pt2 (dT ax) (dT ay) (dT bx) (dT by')=false) (o1:(G1 ax ay bx by' r0 r1).2=true) (m1:(G1 ax ay bx by' r0 r1).1.m=false) (g1:Rt.right (G1 ax ay bx by' r0 r1).1.d=true) (c1:(cmpRt (G1 ax ay bx by' r0 r1).1.d (dR (0 - (dC r0+dC r1)) 1 (N1 ax ay bx by') 1)==0)=true)
  (e2:pt2 (nX ax bx r0) (nX ay by' r1) (dT bx) (dT by')=false) (o2:(G2 ax ay bx by' r0 r1).2=true) (m2:(G2 ax ay bx by' r0 r1).1.m=false) (g2:Rt.right (G2 ax ay bx by' r0 r1).1.d=true) :
  Fok Tryz.prog 4 (gdV ax ay bx by' r0 r1) (.one (blV (cmpRt (G2 ax ay bx by' r0 r1).1.d (dR (0 - dC r0) 1 (N2 ax ay bx by' r0 r1) 1)==0))) :=
 fokL [] KDi _ (ord2_ok ax ay bx by' r0 r1) [true,true,true,true,false,false,false,true,true,true,true] (hdP ax ay bx by' r0 r1 h0 h1++[pT (not_f e1),pT o1,pT (not_f m1),pT g1,pF (not_t c1),pF e1]++mdP ax ay bx by' r0 r1++[pF e2,pT (rfl:true=true),pT o2,pT (not_f m2),pT g2]) (by kernel_rfl)
theorem discs_3 (h0:0<=r0/\r0<=255) (h1:0<=r1/\r1<=255) (e1:pt2 (dT ax) (dT ay) (dT bx) (dT by')=true) (o1:(G1 ax ay bx by' r0 r1).2=true) (m1:(G1 ax ay bx by' r0 r1).1.m=true) (c1:(cmpRt (G1 ax ay bx by' r0 r1).1.d ⟨0 - dC r0 - dC r1,0,zero,ofZ 1⟩ != 0)=false)
  (e2:pt2 (nX ax bx r0) (nX ay by' r1) (dT bx) (dT by')=true) (o2:(G2 ax ay bx by' r0 r1).2=true) (m2:(G2 ax ay bx by' r0 r1).1.m=true) :
  Fok Tryz.prog 4 (gdV ax ay bx by' r0 r1) (.one (blV (touchQ (discS (dT bx) (dT by') (dC r0)) (rectS (dT ax) (dT ay) (x1D ax r0) (x1D ay r1))))) :=
 fokL [] KDi _ (ord2_ok ax ay bx by' r0 r1) [false,true,false,false,false,true,true,true,true] (hdP ax ay bx by' r0 r1 h0 h1++[pF (not_t e1),pT e1,pF (not_t o1),pF (not_t m1),pF c1]++mdP ax ay bx by' r0 r1++[pT e2,pT (rfl:true=true),pT o2,pT m2]) (by kernel_rfl)
end
theorem discs_fok (ax ay bx by' r0 r1:Int) (h0:0<=r0/\r0<=255) (h1:0<=r1/\r1<=255):Fok Tryz.prog 4 (gdV ax ay bx by' r0 r1) (.one (blV true)):=by
 have a1:=dT_bd ax
 have a2:=dT_bd ay
 have b1:=dT_bd bx
 have b2:=dT_bd by'
 have p1:=dC_bd h0
 have p2:=dC_bd h1
 have A1:Bd2 (dT ax):=by unfold Bd2;omega
 have A2:Bd2 (dT ay):=by unfold Bd2;omega
 have B1:Bd2 (dT bx):=by unfold Bd2;omega
 have B2:Bd2 (dT by'):=by unfold Bd2;omega
 have X1:Bd2 (x1D ax r0):=by unfold Bd2 x1D;omega
 have X2:Bd2 (x1D ay r1):=by unfold Bd2 x1D;omega
 have hx:dT ax < x1D ax r0:=by unfold x1D;omega
 have hy:dT ay < x1D ay r1:=by unfold x1D;omega
 have hr0:0<=dC r0/\dC r0<=100:=by omega
 have hr1:0<=dC r1/\dC r1<=100:=by omega
 have DA:=disc_okS A1 A2 hr0
 have DB:=disc_okS B1 B2 hr1
 have DP:=disc_okS B1 B2 hr0
 have R:=rect_okS A1 A2 X1 X2
 have near:pt2 (nX ax bx r0) (nX ay by' r1) (dT bx) (dT by')=true <-> InR (dT ax) (dT ay) (x1D ax r0) (x1D ay r1) (dT bx) (dT by'):=by
  rw [pt2_eq]
  unfold nX InR
  omega
 have M:=rect_met (p:=dC r0) A1 A2 X1 X2 B1 B2 hx hy
 have IN:InR (dT ax) (dT ay) (x1D ax r0) (x1D ay r1) (dT bx) (dT by')->((G2 ax ay bx by' r0 r1).2=true/\(G2 ax ay bx by' r0 r1).1.m=true)/\touchQ (discS (dT bx) (dT by') (dC r0)) (rectS (dT ax) (dT ay) (x1D ax r0) (x1D ay r1))=true:=fun g=>by
  obtain ⟨m1,m2⟩:=M.1 g
  obtain ⟨q1,q2,_⟩:=met_q R DP m1
  exact ⟨⟨q1,q2⟩,met_touch DP R m2⟩
 cases e1:pt2 (dT ax) (dT ay) (dT bx) (dT by') with
 | true =>
  obtain ⟨g1,g2⟩:=pt2_eq.1 e1
  have hm:=(disc_met (p:=dC r1) A1 A2 B1 B2 hr0).1 ⟨g1,g2⟩
  obtain ⟨q1,q2,_⟩:=met_q DA DB hm
  have g:InR (dT ax) (dT ay) (x1D ax r0) (x1D ay r1) (dT bx) (dT by'):=by unfold InR;omega
  obtain ⟨⟨o2,m2⟩,tq⟩:=IN g
  have c:=met_0 DA DB hm
  rw [<- tq]
  refine discs_3 h0 h1 e1 q1 q2 ?_ (near.2 g) o2 m2
  rw [show (0:Int) - dC r0 - dC r1 = -(discS (dT ax) (dT ay) (dC r0)).r - (discS (dT bx) (dT by') (dC r1)).r by show _ = -dC r0 - dC r1;omega]
  unfold G1
  rw [c]
  rfl
 | false =>
  have hne:¬ (dT ax=dT bx/\dT ay=dT by'):=fun g=>by rw [pt2_eq.2 g] at e1;cases e1
  have I1:IsQ (G1 ax ay bx by' r0 r1) _ _:=disc_is A1 A2 B1 B2 hr0 hr1 hne
  have c1:=is_c I1 (k':=0 - (dC r0+dC r1)) (N':=N1 ax ay bx by') (by omega) (by
   unfold N1 sqI
   rw [sq_sym (dT ax),sq_sym (dT ay)])
  cases e2:pt2 (nX ax bx r0) (nX ay by' r1) (dT bx) (dT by') with
  | true =>
   obtain ⟨⟨o2,m2⟩,tq⟩:=IN (near.1 e2)
   rw [<- tq]
   exact discs_1 h0 h1 e1 I1.ok I1.m I1.r c1 e2 o2 m2
  | false =>
   have g:¬ InR (dT ax) (dT ay) (x1D ax r0) (x1D ay r1) (dT bx) (dT by'):=fun g=>by rw [near.2 g] at e2;cases e2
   have I2:IsQ (G2 ax ay bx by' r0 r1) _ _:=rect_is A1 A2 X1 X2 B1 B2 hx hy hr0 g
   have c2:=is_c I2 (k':=0 - dC r0) (N':=N2 ax ay bx by' r0 r1) (by omega) (by
    unfold N2 nrN sqI nX clm
    rw [sq_sym (max _ _) (dT bx),sq_sym (max _ _) (dT by')])
   have F:=discs_2 h0 h1 e1 I1.ok I1.m I1.r c1 e2 I2.ok I2.m I2.r
   rw [c2] at F
   exact F
end
end Go.Proofs.YtceemiodpccbhaaGreat
