import Derived.Test.YtceemiodpccbhaaGreatP38
set_option linter.unusedVariables false
set_option linter.unusedSimpArgs false

namespace Go.Proofs.YtceemiodpccbhaaGreat
open Go.RowKit

set_option maxHeartbeats 4000000
set_option maxRecDepth 100000
section
attribute [local go_sem] Gives givesU
theorem giv_shO{a:Act}{o:Oper}{x y:Operand}{B:Nat}{W:World}{R:Value->World->Prop}(k r k0 r0:Int)(p p0:Option Addr)(n c n0 c0:Nat)(hB:W.heap[B]? = some (.cells #[.int .i64 k0,.slice p0 n0 c0,.int .i64 r0] 24))(ho:o.op=.store 24 x y)(hx:a.eval x=.pointer (some ⟨B,0,none⟩))(hy:a.eval y=.agg #[.int .i64 k,.slice p n c,.int .i64 r])
  (hR:∀W',OnlyB B W W'->W'.heap[B]? = some (.cells #[.int .i64 k,.slice p n c,.int .i64 r] 24)->R undef W'):Gives Tryz.prog o a W R:=by
 obtain⟨o1,o2⟩:=onlyB_setRow (cs':=(([.int .i64 k0,.slice p0 n0 c0,.int .i64 r0]:List Value).take 0++(([.int .i64 k,.slice p n c,.int .i64 r]:List Value)++([.int .i64 k0,.slice p0 n0 c0,.int .i64 r0]:List Value).drop (0+3))).toArray) hB
 exact gives_skip (ex_store (vs:=[.int .i64 k,.slice p n c,.int .i64 r]) (old:=[.int .i64 k0,.slice p0 n0 c0,.int .i64 r0]) ho hx hB (by rw[hy];rfl) (n:=3) (by kernel_rfl) rfl (by simp) (fun v hv=>by simp only[List.mem_cons,List.not_mem_nil,or_false] at hv;rcases hv with rfl|rfl|rfl<;>rfl)) (hR _ o1 o2)
theorem graw_ok(a b:Sh)(L:List Int)(pa pb:Option Addr)(ca cb:Nat)(v3:Value)(w:World)(h1:ShAt w a pa ca)(h2:ShAt w b pb cb)(h3:IntsC w L v3) :
  Calls Tryz.prog 3 #[.agg #[.int .i64 a.k,.slice pa a.n ca,.int .i64 a.r],.agg #[.int .i64 b.k,.slice pb b.n cb,.int .i64 b.r],v3] w fun e w'=>e=.returned (.bool true)/\Ext w w':=by
 have CA:=Lib.hid (fun W (hW:Ext w W)=>cut_call a _ W (h1.ext hW).rep)
 have CB:=Lib.hid (fun W (hW:Ext w W)=>cut_call b _ W (h2.ext hW).rep)
 have MD:=Lib.hid (fun W (hW:Ext w W)=>mdC L v3 W (h3.ext hW))
 have TL:=Lib.hid (fun (c:Sh) (V:World) A B3 B4 B8 hsz hd e3 e4 e7 e8 f3 f4 f8 hx=>raw_tail (cutS a) (cutS b) c (w:=w) (V:=V) A B3 B4 B8 hsz hd e3 e4 e7 e8 f3 f4 f8 hx)
 clear h1 h2 h3
 generalize madeS L=m at *
 have X0:Ext w ((w.alloc (.cells #[.int .i64 a.k,.slice pa a.n ca,.int .i64 a.r] 24)).alloc (.cells #[.int .i64 b.k,.slice pb b.n cb,.int .i64 b.r] 24)):=bxx
 have X0:=Lib.hid X0
 have c3:=heap_ext (World.alloc_heap_new w (.cells #[.int .i64 a.k,.slice pa a.n ca,.int .i64 a.r] 24)) (below_alloc _ (.cells #[.int .i64 b.k,.slice pb b.n cb,.int .i64 b.r] 24))
 have c4:=World.alloc_heap_new (w.alloc (.cells #[.int .i64 a.k,.slice pa a.n ca,.int .i64 a.r] 24)) (.cells #[.int .i64 b.k,.slice pb b.n cb,.int .i64 b.r] 24)
 simp only[World.size_alloc] at c4
 have C3:=Lib.hid c3
 have C4:=Lib.hid c4
 clear c3 c4
 go_enter Tryz.func3,Tryz.ntmps3
 go_wp2_with fail
 refine (sanC _).mono ?_
 rintro e W1 ⟨rfl,hx1⟩
 have x1:=Lib.hid (Ext.step X0.out hx1)
 have r3:=Lib.hid (heap_ext C3.out hx1)
 have r4:=Lib.hid (heap_ext C4.out hx1)
 clear hx1 C3 C4 X0
 have z4:w.heap.size+1<W1.heap.size:=(Array.getElem?_eq_some_iff.1 r4.out).1
 have k0:W1.cell? ⟨w.heap.size,0,none⟩=some (.int .i64 a.k):=by rw[cell_of_row _ _ _ _ _ _ r3.out];rfl
 have k1:W1.cell? ⟨w.heap.size,1,none⟩=some (.slice pa a.n ca):=by rw[cell_of_row _ _ _ _ _ _ r3.out];rfl
 have k2:W1.cell? ⟨w.heap.size,2,none⟩=some (.int .i64 a.r):=by rw[cell_of_row _ _ _ _ _ _ r3.out];rfl
 have k3:W1.cell? ⟨w.heap.size+1,0,none⟩=some (.int .i64 b.k):=by rw[cell_of_row _ _ _ _ _ _ r4.out];rfl
 have k4:W1.cell? ⟨w.heap.size+1,1,none⟩=some (.slice pb b.n cb):=by rw[cell_of_row _ _ _ _ _ _ r4.out];rfl
 have k5:W1.cell? ⟨w.heap.size+1,2,none⟩=some (.int .i64 b.r):=by rw[cell_of_row _ _ _ _ _ _ r4.out];rfl
 go_upto_region 2 with (fail)
 have CC:Hid (∀W,((Ext w W/\W1.heap.size<=W.heap.size)/\W.heap[w.heap.size]? = some (.cells #[.int .i64 a.k,.slice pa a.n ca,.int .i64 a.r] 24)/\W.heap[w.heap.size+1]? = some (.cells #[.int .i64 b.k,.slice pb b.n cb,.int .i64 b.r] 24)) ->
   (W.cell? ⟨w.heap.size,0,none⟩=some (.int .i64 a.k)/\W.cell? ⟨w.heap.size,1,none⟩=some (.slice pa a.n ca)/\W.cell? ⟨w.heap.size,2,none⟩=some (.int .i64 a.r))/\W.cell? ⟨w.heap.size+1,0,none⟩=some (.int .i64 b.k)/\W.cell? ⟨w.heap.size+1,1,none⟩=some (.slice pb b.n cb)/\W.cell? ⟨w.heap.size+1,2,none⟩=some (.int .i64 b.r)):=Lib.hid fun W h=>by
  obtain⟨_,q3,q4⟩:=h
  refine⟨⟨?_,?_,?_⟩,?_,?_,?_⟩
  ·rw[cell_of_row _ _ _ _ _ _ q3];rfl
  ·rw[cell_of_row _ _ _ _ _ _ q3];rfl
  ·rw[cell_of_row _ _ _ _ _ _ q3];rfl
  ·rw[cell_of_row _ _ _ _ _ _ q4];rfl
  ·rw[cell_of_row _ _ _ _ _ _ q4];rfl
  ·rw[cell_of_row _ _ _ _ _ _ q4];rfl
 clear k0 k1 k2 k3 k4 k5
 refine wp_region_T 4 (fun W=>(Ext w W/\W1.heap.size<=W.heap.size)/\W.heap[w.heap.size]? = some (.cells #[.int .i64 a.k,.slice pa a.n ca,.int .i64 a.r] 24)/\W.heap[w.heap.size+1]? = some (.cells #[.int .i64 b.k,.slice pb b.n cb,.int .i64 b.r] 24))
  (by kernel_rfl) (by kernel_rfl) (by kernel_rfl) ⟨⟨x1.out,Nat.le_refl _⟩,r3.out,r4.out⟩ ?_ (fun W h=>h.1.2) ?_
 ·rintro W W' ⟨⟨h1, h2⟩, h3, h4⟩ hb
  exact⟨⟨Ext.step h1 hb,Nat.le_trans h2 hb.size⟩,heap_ext h3 hb,heap_ext h4 hb⟩
 simp only[List.take_succ_cons,List.take_zero,List.drop_succ_cons,List.drop_zero]
 refine T_run (v:=?_) (by rfl) ?_ ?_;rotate_left
 ·intro W hW;obtain⟨⟨k0,k1,k2⟩,k3,k4,k5⟩:=CC.out W hW;go_simp;try with_reducible rfl
 simp only[Act.put,List.setIfInBounds_toArray,List.set_cons_zero,List.set_cons_succ]
 refine .eff (by rfl) (by rfl) (Option Addr×Nat) (fun t=>.agg #[.int .i64 a.k,.slice t.1 (cutS a).n t.2,.int .i64 a.r]) (fun t W=>ShAt W (cutS a) t.1 t.2) (fun t W W' h hb=>h.ext hb) (fun W hW=>?_) fun t1 ht1=>?_
 ·refine gives_enter (f := 11) (args := #[.agg #[.int .i64 a.k, .slice pa a.n ca, .int .i64 a.r]]) (by go_simp; try with_reducible rfl) ((CA.out W hW.1.1).mono ?_)
  rintro e W' ⟨p,c,rfl,hs,hx⟩
  exact⟨_,rfl,(p,c),rfl,hx,hs⟩
 simp only[Act.put,List.setIfInBounds_toArray,List.set_cons_zero,List.set_cons_succ]
 refine T_run (v:=?_) (by rfl) ?_ ?_;rotate_left
 ·intro W hW;obtain⟨⟨k0,k1,k2⟩,k3,k4,k5⟩:=CC.out W hW;go_simp;try with_reducible rfl
 simp only[Act.put,List.setIfInBounds_toArray,List.set_cons_zero,List.set_cons_succ]
 refine .eff (by rfl) (by rfl) (Option Addr×Nat) (fun t=>.agg #[.int .i64 b.k,.slice t.1 (cutS b).n t.2,.int .i64 b.r]) (fun t W=>ShAt W (cutS b) t.1 t.2) (fun t W W' h hb=>h.ext hb) (fun W hW=>?_) fun t2 ht2=>?_
 ·refine gives_enter (f := 11) (args := #[.agg #[.int .i64 b.k, .slice pb b.n cb, .int .i64 b.r]]) (by go_simp; try with_reducible rfl) ((CB.out W hW.1.1.1).mono ?_)
  rintro e W' ⟨p,c,rfl,hs,hx⟩
  exact⟨_,rfl,(p,c),rfl,hx,hs⟩
 simp only[Act.put,List.setIfInBounds_toArray,List.set_cons_zero,List.set_cons_succ]
 refine T_done ?_
 obtain⟨p1,c1⟩:=t1
 obtain⟨p2,c2⟩:=t2
 refine F_store (fun W=>((Ext w W/\W1.heap.size<=W.heap.size)/\W.heap[w.heap.size]? = some (.cells #[.int .i64 a.k,.slice p1 (cutS a).n c1,.int .i64 a.r] 24)/\W.heap[w.heap.size+1]? = some (.cells #[.int .i64 b.k,.slice pb b.n cb,.int .i64 b.r] 24))/\ShAt W (cutS a) p1 c1/\ShAt W (cutS b) p2 c2)
  ?_ (fun _ _=>trivial) (by rfl) (by rfl) (fun W hW=>?_) ?_
 ·rintro W W' ⟨⟨⟨h1, h2⟩, h3, h4⟩, h7, h8⟩ hb
  exact⟨⟨⟨Ext.step h1 hb,Nat.le_trans h2 hb.size⟩,heap_ext h3 hb,heap_ext h4 hb⟩,h7.ext hb,h8.ext hb⟩
 ·obtain ⟨⟨⟨⟨h1, h2⟩, h3, h4⟩, q1⟩, q2⟩ := hW
  refine giv_shO a.k a.r a.k a.r p1 pa (cutS a).n c1 a.n ca h3 rfl (by rfl) (by rfl) fun W2 o1 o2=>⟨rfl,by rw[o1.size];exact Nat.le_refl _,⟨⟨h1.trans (o1.below (by omega)),by rw[o1.size];exact h2⟩,o2,(o1.block _ (by omega)).trans h4⟩,q1.only3 o1 h3 (by simp),q2.only3 o1 h3 (by simp)⟩
 simp only[Act.put,List.setIfInBounds_toArray,List.set_cons_zero,List.set_cons_succ]
 refine F_store (fun W=>((Ext w W/\W1.heap.size<=W.heap.size)/\W.heap[w.heap.size]? = some (.cells #[.int .i64 a.k,.slice p1 (cutS a).n c1,.int .i64 a.r] 24)/\W.heap[w.heap.size+1]? = some (.cells #[.int .i64 b.k,.slice p2 (cutS b).n c2,.int .i64 b.r] 24))/\ShAt W (cutS a) p1 c1/\ShAt W (cutS b) p2 c2)
  ?_ (fun _ _=>trivial) (by rfl) (by rfl) (fun W hW=>?_) ?_
 ·rintro W W' ⟨⟨⟨h1, h2⟩, h3, h4⟩, h7, h8⟩ hb
  exact⟨⟨⟨Ext.step h1 hb,Nat.le_trans h2 hb.size⟩,heap_ext h3 hb,heap_ext h4 hb⟩,h7.ext hb,h8.ext hb⟩
 ·obtain ⟨⟨⟨⟨h1, h2⟩, h3, h4⟩, q1, q2⟩, _⟩ := hW
  refine giv_shO b.k b.r b.k b.r p2 pb (cutS b).n c2 b.n cb h4 rfl (by rfl) (by rfl) fun W2 o1 o2=>⟨rfl,by rw[o1.size];exact Nat.le_refl _,⟨⟨h1.trans (o1.below (by omega)),by rw[o1.size];exact h2⟩,(o1.block _ (by omega)).trans h3,o2⟩,q1.only3 o1 h4 (by simp),q2.only3 o1 h4 (by simp)⟩
 simp only[Act.put,List.setIfInBounds_toArray,List.set_cons_zero,List.set_cons_succ]
 rintro W2 ⟨⟨⟨⟨x2,z2⟩,g3,g4⟩,q1,q2⟩,_⟩
 have Q1:=Lib.hid q1
 have Q2:=Lib.hid q2
 have X2:=Lib.hid x2
 have G3:=Lib.hid g3
 have G4:=Lib.hid g4
 clear q1 q2 x2 g3 g4 r3 r4 CC x1 z4 ht1 ht2
 go_wp2_with fail
 refine (MD.out W2 X2.out).mono ?_
 rintro e W3 ⟨v,rfl,hv,hx3⟩
 obtain⟨p3,c3,rfl,hs3⟩:=ShAt.of hv
 have X3:=Lib.hid (Ext.step X2.out hx3)
 have S3:=Lib.hid hs3
 have G3:=Lib.hid (heap_ext G3.out hx3)
 have G4:=Lib.hid (heap_ext G4.out hx3)
 have Q1:=Lib.hid (Q1.out.ext hx3)
 have Q2:=Lib.hid (Q2.out.ext hx3)
 clear hv hs3 hx3 X2 MD CA CB
 rename_i K1 HK1 K2 HK2
 have FIN:=Lib.hid (fun (V:World) A B3 B4 B8 hsz hd e3 e4 e7 e8 f3 f4 f8 hx=>HK1 A V (wp_as (c':=restS 4 (bodyF Tryz.prog 3)) (by kernel_rfl) (TL.out m V A B3 B4 B8 hsz hd e3 e4 e7 e8 f3 f4 f8 hx)))
 clear HK1 TL
 go_wp2
 have y1:=below_alloc W3 (.cells #[.int .i64 m.k,.slice p3 m.n c3,.int .i64 m.r] 24)
 refine FIN.out _ _ w.heap.size (w.heap.size+1) W3.heap.size rfl rfl rfl rfl rfl rfl ?_ ?_ ?_ (Ext.step X3.out y1)
 ·exact .of (cs:=[.int .i64 a.k,.slice p1 (cutS a).n c1,.int .i64 a.r]) (heap_ext G3.out y1) (Q1.out.ext y1).repF
 ·exact .of (cs:=[.int .i64 b.k,.slice p2 (cutS b).n c2,.int .i64 b.r]) (heap_ext G4.out y1) (Q2.out.ext y1).repF
 ·exact .of (cs:=[.int .i64 m.k,.slice p3 m.n c3,.int .i64 m.r]) (World.alloc_heap_new _ _) (S3.out.ext y1).repF
theorem graw_fok(a b:Sh)(L:List Int):Fok Tryz.prog 3 [shpV a,shpV b,⟨false,[.ds L]⟩] (.one (blV true)):=fun W vals hv=>by
 obtain⟨v1,h1,_,rfl,hv1⟩:=rvs_cons.1 hv
 obtain⟨v2,h2,_,rfl,hv2⟩:=rvs_cons.1 hv1
 obtain⟨v3,h3,_,rfl,hv3⟩:=rvs_cons.1 hv2
 cases hv3
 obtain⟨pa,ca,rfl,Ha⟩:=ShAt.of h1
 obtain⟨pb,cb,rfl,Hb⟩:=ShAt.of h2
 exact (graw_ok a b L pa pb ca cb v3 W Ha Hb h3.scal.ints).mono fun e w' ⟨e1,hx⟩=>⟨_,e1,rv_v.2 ⟨rfl,rfl⟩,hx⟩
end
end Go.Proofs.YtceemiodpccbhaaGreat
