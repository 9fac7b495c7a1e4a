import Derived.Test.YtceemiodpccbhaaGreatQ34
set_option linter.unusedVariables false
set_option linter.unusedSimpArgs false

namespace Go.Proofs.YtceemiodpccbhaaGreat
open Go.RowKit

set_option maxHeartbeats 8000000
set_option maxRecDepth 100000
section
attribute [local go_sem] Gives givesU
theorem fineT{s:Sh}(h:FineS s):(1<=s.n/\s.n<=1000)/\∀i,i<s.n->(s.e i).ok=true:=⟨⟨n_pos h.1,by have:=h.1.n1;omega⟩,h.1.ok⟩
theorem mod_sT(z:Int) : -1048576<=z.tmod 60/\z.tmod 60<=1048576:=by
 obtain⟨h1,h2⟩:=tmod_bd z (show (0:Int)<60 by decide)
 generalize z.tmod 60=u at *
 omega
theorem mod_kT(z:Int) : -1048576<=z.tmod 1000/\z.tmod 1000<=1048576:=by
 obtain⟨h1,h2⟩:=tmod_bd z (show (0:Int)<1000 by decide)
 generalize z.tmod 1000=u at *
 omega
def Sm4(x:Int):Prop := -5000<=x/\x<=5000
def EdSm4(e:Ed):Prop:=(Sm4 e.ax/\Sm4 e.ay)/\(Sm4 e.bx/\Sm4 e.by')/\Sm4 e.cx/\Sm4 e.cy
theorem fine4{s:Sh}(h:FineS s):∀i,i<s.n->EdSm4 (s.e i):=fun i hi=>by
 have:=h.2.1 i hi
 unfold EdSm Sm3 at this
 unfold EdSm4 Sm4
 omega
theorem fine_mov4{s:Sh}(h:FineS s){x y:Int}(t:Int)(m:Bool)(hx : -1000<=x/\x<=1000)(hy : -1000<=y/\y<=1000):∀i,i<s.n->EdSm4 ((movS s x y t m).e i):=fun i hi=>by
 have hs:=h.2.1 i hi
 obtain⟨a,b,c,d,hI,hp⟩:=applyP_iso x y (modZ t 4) m (by have:=modZ_bd t (m:=4) (by omega);omega)
 have key:∀px py:Int,Sm3 px->Sm3 py->Sm4 (applyP x y (modZ t 4) m px py).1/\Sm4 (applyP x y (modZ t 4) m px py).2:=fun px py h1 h2=>by
  rw[hp]
  unfold Sm3 at h1 h2
  unfold Sm4
  rcases hI with⟨rfl,rfl,rfl|rfl,rfl|rfl⟩|⟨rfl,rfl,rfl|rfl,rfl|rfl⟩<;>simp only[Int.one_mul,Int.zero_mul,Int.neg_mul]<;>omega
 obtain⟨⟨s1,s2⟩,⟨s3,s4⟩,s5,s6⟩:=hs
 refine⟨key _ _ s1 s2,key _ _ s3 s4,?_,?_⟩
 ·show Sm4 (if (s.e i).k = 1 then (s.e i).cx else (applyP x y (modZ t 4) m (s.e i).cx (s.e i).cy).1)
  split
  ·unfold Sm3 at s5;unfold Sm4;omega
  ·exact (key _ _ s5 s6).1
 ·show Sm4 (if (s.e i).k = 1 then (s.e i).cy else (applyP x y (modZ t 4) m (s.e i).cx (s.e i).cy).2)
  split
  ·unfold Sm3 at s6;unfold Sm4;omega
  ·exact (key _ _ s5 s6).2
theorem mov_ok4{s:Sh}(h:OkS s)(hs:∀i,i<s.n->EdSm4 (s.e i)){x y:Int}(t:Int)(m:Bool)(hx : -1048576<=x/\x<=1048576)(hy : -1048576<=y/\y<=1048576):OkS (movS s x y t m):=by
 have ht:=modZ_bd t (m:=4) (by omega)
 refine⟨h.k,h.n0,h.n1,fun i hi=>?_,fun i hi=>?_,fun hk=>?_,h.r⟩
 ·obtain ⟨⟨s1, s2⟩, ⟨s3, s4⟩, s5, s6⟩ := hs i hi
  unfold Sm4 at *
  exact move_ok (h.ok i hi) x y (modZ t 4) m (by omega) hx hy (by omega) (by omega) (by omega) (by omega) (by omega) (by omega)
 ·obtain ⟨e1, e2⟩ := h.ch i hi
  show (applyP x y (modZ t 4) m (s.e (i+1)).ax (s.e (i+1)).ay).1=(applyP x y (modZ t 4) m (s.e i).bx (s.e i).by').1/\(applyP x y (modZ t 4) m (s.e (i+1)).ax (s.e (i+1)).ay).2=(applyP x y (modZ t 4) m (s.e i).bx (s.e i).by').2
  rw[e1,e2]
  exact⟨rfl,rfl⟩
 ·obtain ⟨e1, e2⟩ := h.cl hk
  show (applyP x y (modZ t 4) m (s.e 0).ax (s.e 0).ay).1=(applyP x y (modZ t 4) m (s.e (s.n-1)).bx (s.e (s.n-1)).by').1/\(applyP x y (modZ t 4) m (s.e 0).ax (s.e 0).ay).2=(applyP x y (modZ t 4) m (s.e (s.n-1)).bx (s.e (s.n-1)).by').2
  rw[e1,e2]
  exact⟨rfl,rfl⟩
theorem okT{s:Sh}(h:OkS s):(1<=s.n/\s.n<=1000)/\∀i,i<s.n->(s.e i).ok=true:=⟨⟨n_pos h,by have:=h.n1;omega⟩,h.ok⟩
theorem gturns_ok(L M:List Int)(bx by' ax ay tn:Int)(mr:Bool)(v1 v2:Value)(w:World)(h1:IntsC w L v1)(h2:IntsC w M v2) :
  Calls Tryz.prog 6 #[v1,v2,.agg #[.int .i64 bx,.int .i64 by',.int .i64 ax,.int .i64 ay,.int .i64 tn,.bool mr]] w fun e w'=>e=.returned (.bool true)/\Ext w w':=by
 obtain⟨q1,q2⟩:=fineT (made_fine M)
 have SH:=Lib.hid (fun W (hW:Ext w W)=>shapesC L M bx by' v1 v2 W (h1.ext hW) (h2.ext hW) q1 q2)
 clear h1 h2 q1 q2
 have MO:=Lib.hid (fun W=>r01_Mod tn 4 W (by omega))
 obtain⟨mx,MX⟩:∃z,Hid (ax.tmod 1000=z):=⟨_,Lib.hid rfl⟩
 obtain⟨my,MY⟩:∃z,Hid (ay.tmod 1000=z):=⟨_,Lib.hid rfl⟩
 obtain⟨tt,MT⟩:∃z,Hid (modZ tn 4=z):=⟨_,Lib.hid rfl⟩
 have X0:Ext w (w.alloc (.cells #[.int .i64 bx,.int .i64 by',.int .i64 ax,.int .i64 ay,.int .i64 tn,.bool mr] 61)):=bxx
 have X0:=Lib.hid X0
 have c0:(w.alloc (.cells #[.int .i64 bx,.int .i64 by',.int .i64 ax,.int .i64 ay,.int .i64 tn,.bool mr] 61)).heap[w.heap.size]? = some (.cells #[.int .i64 bx,.int .i64 by',.int .i64 ax,.int .i64 ay,.int .i64 tn,.bool mr] 61):=World.alloc_heap_new _ _
 have C0:=Lib.hid c0
 clear c0
 obtain⟨a,hA⟩:∃a,Hid (madeS L=a):=⟨_,Lib.hid rfl⟩
 obtain⟨b,hB⟩:∃b,Hid (movS (madeS M) (bx.tmod 60) (by'.tmod 60) 0 false=b):=⟨_,Lib.hid rfl⟩
 rw[hA.out,hB.out] at SH
 have fb:=made_fine M
 have f6:∀z:Int,-1000<=z.tmod 60/\z.tmod 60<=1000:=fun z=>by
  obtain⟨h1,h2⟩:=tmod_bd z (show (0:Int)<60 by decide)
  generalize z.tmod 60=u at *
  omega
 have oA:OkS a:=hA.out ▸ (made_fine L).1
 have sA:∀i,i<a.n->EdSm4 (a.e i):=hA.out ▸ fine4 (made_fine L)
 have oB:OkS b:=hB.out ▸ mov_ok fb 0 false (mod_sT bx) (mod_sT by')
 have sB:∀i,i<b.n->EdSm4 (b.e i):=hB.out ▸ fine_mov4 fb 0 false (f6 bx) (f6 by')
 have hmx : -1048576<=mx/\mx<=1048576:=MX.out ▸ mod_kT ax
 have hmy : -1048576<=my/\my<=1048576:=MY.out ▸ mod_kT ay
 have htt : -8<=tt/\tt<=8:=MT.out ▸ (by have:=modZ_bd tn (m:=4) (by omega);omega)
 have TQ:=turn_q oA oB (mov_ok4 oA sA tt mr hmx hmy) (mov_ok4 oB sB tt mr hmx hmy)
 obtain⟨ua,va⟩:=okT oA
 obtain⟨ub,vb⟩:=okT oB
 have cm:∀z:Int,-1048576<=z/\z<=1048576->z.natAbs<=c26:=fun z h=>by unfold c26;omega
 have MA:=Lib.hid (fun W p c (h:ShAt W a p c)=>moveC a (x:=mx) (y:=my) (t:=tt) mr ua.1 ua.2 va (cm _ hmx) (cm _ hmy) htt _ W h.rep)
 have MB:=Lib.hid (fun W p c (h:ShAt W b p c)=>moveC b (x:=mx) (y:=my) (t:=tt) mr ub.1 ub.2 vb (cm _ hmx) (cm _ hmy) htt _ W h.rep)
 have TL:=Lib.hid (fun (V:World) A B8 B9 B11 B12 hsz hd h7 h8 h9 h11 h12 f8 f9 f11 f12 hx=>turns_tail TQ (w:=w) (V:=V) A B8 B9 B11 B12 hsz hd h7 h8 h9 h11 h12 f8 f9 f11 f12 hx)
 clear fb f6 oA sA oB sB hmx hmy htt TQ ua va ub vb cm
 obtain⟨ma,HA⟩:∃z,Hid (movS a mx my tt mr=z):=⟨_,Lib.hid rfl⟩
 obtain⟨mb,HB⟩:∃z,Hid (movS b mx my tt mr=z):=⟨_,Lib.hid rfl⟩
 rw[HA.out] at MA TL
 rw[HB.out] at MB TL
 go_enter Tryz.func6,Tryz.ntmps6
 go_wp2_with fail
 refine (sanC _).mono ?_
 rintro e W1 ⟨rfl,hx1⟩
 have x1:=Lib.hid (Ext.step X0.out hx1)
 have r5:=Lib.hid (heap_ext C0.out hx1)
 have k0:W1.cell? ⟨w.heap.size,0,none⟩=some (.int .i64 bx):=by rw[cell_of_row _ _ _ _ _ _ r5.out];rfl
 have k1:W1.cell? ⟨w.heap.size,1,none⟩=some (.int .i64 by'):=by rw[cell_of_row _ _ _ _ _ _ r5.out];rfl
 have kz:w.heap.size<W1.heap.size:=(Array.getElem?_eq_some_iff.1 r5.out).1
 clear hx1 C0 X0
 go_wp2_with fail
 refine (SH.out _ x1.out).mono ?_
 rintro e W2 ⟨u1,u2,rfl,hu1,hu2,hx2⟩
 obtain⟨p1,c1,rfl,hs1⟩:=ShAt.of hu1
 obtain⟨p2,c2,rfl,hs2⟩:=ShAt.of hu2
 have x2:=Lib.hid (Ext.step x1.out hx2)
 have S1:=Lib.hid hs1
 have S2:=Lib.hid hs2
 have s5:=Lib.hid (heap_ext r5.out hx2)
 have jz:w.heap.size<W2.heap.size:=(Array.getElem?_eq_some_iff.1 s5.out).1
 clear hu1 hu2 hs1 hs2 hx2 k0 k1 kz SH r5 x1
 go_upto_region 3 with (fail)
 have y1:=below_alloc W2 (.cells #[.int .i64 a.k,.slice p1 a.n c1,.int .i64 a.r] 24)
 have y2:=below_alloc (W2.alloc (.cells #[.int .i64 a.k,.slice p1 a.n c1,.int .i64 a.r] 24)) (.cells #[.int .i64 b.k,.slice p2 b.n c2,.int .i64 b.r] 24)
 have y12:=Ext.step y1 y2
 have X3:=Lib.hid (Ext.step x2.out y12)
 have R8:=Lib.hid (heap_ext (World.alloc_heap_new W2 (.cells #[.int .i64 a.k,.slice p1 a.n c1,.int .i64 a.r] 24)) y2)
 have r9:=World.alloc_heap_new (W2.alloc (.cells #[.int .i64 a.k,.slice p1 a.n c1,.int .i64 a.r] 24)) (.cells #[.int .i64 b.k,.slice p2 b.n c2,.int .i64 b.r] 24)
 simp only[World.size_alloc] at r9
 have R9:=Lib.hid r9
 have T1:=Lib.hid (S1.out.ext y12)
 have T2:=Lib.hid (S2.out.ext y12)
 have R5:=Lib.hid (heap_ext s5.out y12)
 have VZ:((W2.alloc (.cells #[.int .i64 a.k,.slice p1 a.n c1,.int .i64 a.r] 24)).alloc (.cells #[.int .i64 b.k,.slice p2 b.n c2,.int .i64 b.r] 24)).heap.size=W2.heap.size+2:=by simp
 have VZ:=Lib.hid VZ
 clear y1 y2 y12 r9 S1 S2 x2 s5
 generalize hN:W2.heap.size=N at *
 generalize (W2.alloc (.cells #[.int .i64 a.k,.slice p1 a.n c1,.int .i64 a.r] 24)).alloc (.cells #[.int .i64 b.k,.slice p2 b.n c2,.int .i64 b.r] 24)=V at *
 clear hN
 have CC:Hid (∀W,((Ext w W/\N+2<=W.heap.size)/\W.heap[w.heap.size]? = some (.cells #[.int .i64 bx,.int .i64 by',.int .i64 ax,.int .i64 ay,.int .i64 tn,.bool mr] 61)) ->
   W.cell? ⟨w.heap.size,2,none⟩=some (.int .i64 ax)/\W.cell? ⟨w.heap.size,3,none⟩=some (.int .i64 ay)/\W.cell? ⟨w.heap.size,4,none⟩=some (.int .i64 tn)/\W.cell? ⟨w.heap.size,5,none⟩=some (.bool mr)):=Lib.hid fun W h=>by
  obtain⟨_,r5⟩:=h
  refine⟨?_,?_,?_,?_⟩<;>(rw[cell_of_row _ _ _ _ _ _ r5];rfl)
 refine wp_region_G (fun W=>(Ext w W/\N+2<=W.heap.size)/\W.heap[w.heap.size]? = some (.cells #[.int .i64 bx,.int .i64 by',.int .i64 ax,.int .i64 ay,.int .i64 tn,.bool mr] 61))
  (fun W=>(W.heap[N]? = some (.cells #[.int .i64 a.k,.slice p1 a.n c1,.int .i64 a.r] 24)/\W.heap[N+1]? = some (.cells #[.int .i64 b.k,.slice p2 b.n c2,.int .i64 b.r] 24))/\ShAt W a p1 c1/\ShAt W b p2 c2) (by kernel_rfl) (by kernel_rfl) ?_ ?_ ?_ ?_
 ·exact⟨⟨⟨X3.out,by rw[VZ.out];exact Nat.le_refl _⟩,R5.out⟩,⟨R8.out,R9.out⟩,T1.out,T2.out⟩
 ·rintro W W' ⟨⟨⟨h1, h2⟩, h3⟩, ⟨h4, h5⟩, h6, h7⟩ hb
  exact⟨⟨⟨Ext.step h1 hb,Nat.le_trans h2 hb.size⟩,heap_ext h3 hb⟩,⟨heap_ext h4 hb,heap_ext h5 hb⟩,h6.ext hb,h7.ext hb⟩
 ·rintro W ⟨⟨h1, h2⟩, _⟩
  rw[VZ.out];exact h2
 repeat (refine F_run (v:=?_) (by rfl) ?_ ?_;rotate_left;(· (intro W hW;obtain⟨c2,c3,c4,c5⟩:=CC.out W hW;go_simp;try with_reducible rfl));simp only[Act.put,List.setIfInBounds_toArray,List.set_cons_zero,List.set_cons_succ])
 refine F_c (.int .i64 (modZ tn 4)) (fun W _=>MO.out W) ?_
 repeat (refine F_run (v:=?_) (by rfl) ?_ ?_;rotate_left;(· (intro W hW;obtain⟨c2,c3,c4,c5⟩:=CC.out W hW;go_simp;try with_reducible rfl));simp only[Act.put,List.setIfInBounds_toArray,List.set_cons_zero,List.set_cons_succ])
 refine F_al (obj:=.cells #[.int .i64 0,.int .i64 0,.int .i64 0,.bool false] 59) fun g hg=>?_
 have hg:V.heap.size<=g:=by
  rcases Nat.lt_or_ge g V.heap.size with h|h
  ·exact absurd (List.mem_range.2 h) hg
  ·exact h
 rw[VZ.out] at hg
 refine F_store (fun W=>(((Ext w W/\N+2<=W.heap.size)/\W.heap[g]? = some (.cells #[.int .i64 (ax.tmod 1000),.int .i64 (ay.tmod 1000),.int .i64 (modZ tn 4),.bool mr] 59))/\(W.heap[N]? = some (.cells #[.int .i64 a.k,.slice p1 a.n c1,.int .i64 a.r] 24)/\W.heap[N+1]? = some (.cells #[.int .i64 b.k,.slice p2 b.n c2,.int .i64 b.r] 24))/\ShAt W a p1 c1/\ShAt W b p2 c2)/\W.heap[w.heap.size]? = some (.cells #[.int .i64 bx,.int .i64 by',.int .i64 ax,.int .i64 ay,.int .i64 tn,.bool mr] 61))
  ?_ (fun W h=>⟨h.1.1.1,h.2⟩) (by rfl) (by rfl) (fun W hW=>?_) ?_
 ·rintro W W' ⟨⟨⟨⟨h1, h2⟩, h3⟩, ⟨h4, h5⟩, h6, h7⟩, h8⟩ hb
  exact⟨⟨⟨⟨Ext.step h1 hb,Nat.le_trans h2 hb.size⟩,heap_ext h3 hb⟩,⟨heap_ext h4 hb,heap_ext h5 hb⟩,h6.ext hb,h7.ext hb⟩,heap_ext h8 hb⟩
 ·obtain ⟨⟨⟨⟨h1, h2⟩, h3⟩, ⟨h4, h5⟩, h6, h7⟩, h8⟩ := hW
  refine giv_all [.int .i64 0,.int .i64 0,.int .i64 0,.bool false] [.int .i64 (ax.tmod 1000),.int .i64 (ay.tmod 1000),.int .i64 (modZ tn 4),.bool mr] h8 rfl (by rfl) (by rfl) (by kernel_rfl) rfl (fun v hv=>by simp only[List.mem_cons,List.not_mem_nil,or_false] at hv;rcases hv with rfl|rfl|rfl|rfl<;>rfl) fun W2 o1 o2=>⟨rfl,by rw[o1.size];exact Nat.le_refl _,⟨⟨⟨h1.trans (o1.below (by omega)),by rw[o1.size];exact h2⟩,o2⟩,⟨(o1.block _ (by omega)).trans h4,(o1.block _ (by omega)).trans h5⟩,h6.only o1 h8 (by simp),h7.only o1 h8 (by simp)⟩,(o1.block _ (by omega)).trans h3⟩
 simp only[Act.put,List.setIfInBounds_toArray,List.set_cons_zero,List.set_cons_succ]
 rintro W3 ⟨⟨⟨⟨⟨h1,h2⟩,h3⟩,⟨h4,h5⟩,h6,h7⟩,_⟩,hgz⟩
 have hgz:=hgz g (List.mem_cons_self ..)
 rw[MX.out,MY.out,MT.out] at h3
 have X3:=Lib.hid h1
 have RG:=Lib.hid h3
 have R8:=Lib.hid h4
 have R9:=Lib.hid h5
 have T1:=Lib.hid h6
 have T2:=Lib.hid h7
 clear h1 h3 h4 h5 h6 h7 VZ R5 CC MO
 rw[MX.out,MY.out,MT.out]
 go_upto_region 4 with (fail)
 have CC:Hid (∀W,(((Ext w W/\W3.heap.size<=W.heap.size)/\W.heap[g]? = some (.cells #[.int .i64 mx,.int .i64 my,.int .i64 tt,.bool mr] 59))/\W.heap[N]? = some (.cells #[.int .i64 a.k,.slice p1 a.n c1,.int .i64 a.r] 24)/\W.heap[N+1]? = some (.cells #[.int .i64 b.k,.slice p2 b.n c2,.int .i64 b.r] 24)) ->
   (W.cell? ⟨N,0,none⟩=some (.int .i64 a.k)/\W.cell? ⟨N,1,none⟩=some (.slice p1 a.n c1)/\W.cell? ⟨N,2,none⟩=some (.int .i64 a.r))/\(W.cell? ⟨N+1,0,none⟩=some (.int .i64 b.k)/\W.cell? ⟨N+1,1,none⟩=some (.slice p2 b.n c2)/\W.cell? ⟨N+1,2,none⟩=some (.int .i64 b.r)) /\
   W.cell? ⟨g,0,none⟩=some (.int .i64 mx)/\W.cell? ⟨g,1,none⟩=some (.int .i64 my)/\W.cell? ⟨g,2,none⟩=some (.int .i64 tt)/\W.cell? ⟨g,3,none⟩=some (.bool mr)):=Lib.hid fun W h=>by
  obtain⟨⟨_,r3⟩,r1,r2⟩:=h
  refine⟨⟨?_,?_,?_⟩,⟨?_,?_,?_⟩,?_,?_,?_,?_⟩
  ·rw[cell_of_row _ _ _ _ _ _ r1];rfl
  ·rw[cell_of_row _ _ _ _ _ _ r1];rfl
  ·rw[cell_of_row _ _ _ _ _ _ r1];rfl
  ·rw[cell_of_row _ _ _ _ _ _ r2];rfl
  ·rw[cell_of_row _ _ _ _ _ _ r2];rfl
  ·rw[cell_of_row _ _ _ _ _ _ r2];rfl
  ·rw[cell_of_row _ _ _ _ _ _ r3];rfl
  ·rw[cell_of_row _ _ _ _ _ _ r3];rfl
  ·rw[cell_of_row _ _ _ _ _ _ r3];rfl
  ·rw[cell_of_row _ _ _ _ _ _ r3];rfl
 refine wp_region_G (fun W=>(((Ext w W/\W3.heap.size<=W.heap.size)/\W.heap[g]? = some (.cells #[.int .i64 mx,.int .i64 my,.int .i64 tt,.bool mr] 59))/\W.heap[N]? = some (.cells #[.int .i64 a.k,.slice p1 a.n c1,.int .i64 a.r] 24)/\W.heap[N+1]? = some (.cells #[.int .i64 b.k,.slice p2 b.n c2,.int .i64 b.r] 24)))
  (fun W=>ShAt W a p1 c1/\ShAt W b p2 c2) (by kernel_rfl) (by kernel_rfl) ?_ ?_ ?_ ?_
 ·exact⟨⟨⟨⟨X3.out,Nat.le_refl _⟩,RG.out⟩,R8.out,R9.out⟩,T1.out,T2.out⟩
 ·rintro W W' ⟨⟨⟨⟨h1, h2⟩, h3⟩, h4, h5⟩, h6, h7⟩ hb
  exact⟨⟨⟨⟨Ext.step h1 hb,Nat.le_trans h2 hb.size⟩,heap_ext h3 hb⟩,heap_ext h4 hb,heap_ext h5 hb⟩,h6.ext hb,h7.ext hb⟩
 ·rintro W ⟨⟨⟨_, h2⟩, _⟩, _⟩
  exact h2
 repeat (refine F_run (v:=?_) (by rfl) ?_ ?_;rotate_left;(· (intro W hW;obtain⟨⟨c0,c1,c2⟩,⟨c3,c4,c5⟩,c6,c7,c8,c9⟩:=CC.out W hW;go_simp;try with_reducible rfl));simp only[Act.put,List.setIfInBounds_toArray,List.set_cons_zero,List.set_cons_succ])
 refine F_callE (I:=Value) (fun v=>v) (fun v W=>RepV W W (fun _=>0) 0 (shpV ma) v) (shpV_mono _) (by rfl) (by rfl) (fun W hW=>?_) fun u1 hu1=>?_
 ·refine gives_enter (f := 22) (args := #[.agg #[.int .i64 a.k, .slice p1 a.n c1, .int .i64 a.r], .agg #[.int .i64 mx, .int .i64 my, .int .i64 tt, .bool mr]]) (by go_simp; try with_reducible rfl) ((MA.out W p1 c1 hW.2.1).mono ?_)
  rintro e W' ⟨v,rfl,hv,hx⟩
  exact⟨v,rfl,v,rfl,hx,hv⟩
 simp only[Act.put,List.setIfInBounds_toArray,List.set_cons_zero,List.set_cons_succ]
 repeat (refine F_run (v:=?_) (by rfl) ?_ ?_;rotate_left;(· (intro W hW;obtain⟨⟨c0,c1,c2⟩,⟨c3,c4,c5⟩,c6,c7,c8,c9⟩:=CC.out W hW;go_simp;try with_reducible rfl));simp only[Act.put,List.setIfInBounds_toArray,List.set_cons_zero,List.set_cons_succ])
 obtain⟨Wx,_,hux⟩:=hu1
 obtain⟨p3,c3,rfl,_⟩:=ShAt.of hux
 clear hux
 refine F_callE (I:=Value) (fun v=>v) (fun v W=>RepV W W (fun _=>0) 0 (shpV mb) v) (shpV_mono _) (by rfl) (by rfl) (fun W hW=>?_) fun u2 hu2=>?_
 ·refine gives_enter (f := 22) (args := #[.agg #[.int .i64 b.k, .slice p2 b.n c2, .int .i64 b.r], .agg #[.int .i64 mx, .int .i64 my, .int .i64 tt, .bool mr]]) (by go_simp; try with_reducible rfl) ((MB.out W p2 c2 hW.1.2.2).mono ?_)
  rintro e W' ⟨v,rfl,hv,hx⟩
  exact⟨v,rfl,v,rfl,hx,hv⟩
 simp only[Act.put,List.setIfInBounds_toArray,List.set_cons_zero,List.set_cons_succ]
 obtain⟨Wy,_,huy⟩:=hu2
 obtain⟨p4,c4,rfl,_⟩:=ShAt.of huy
 clear huy
 refine F_al (obj:=(.cells #[.int .i64 0,.slice none 0 0,.int .i64 0] 24)) fun g1 hg1=>?_
 refine F_al (obj:=(.cells #[.int .i64 0,.slice none 0 0,.int .i64 0] 24)) fun g2 hg2=>?_
 have ne12:g1≠g2:=fun e=>hg2 (by rw[e];exact List.mem_cons_self ..)
 have hg1:W3.heap.size<=g1:=by
  rcases Nat.lt_or_ge g1 W3.heap.size with h|h
  ·exact absurd (List.mem_range.2 h) hg1
  ·exact h
 have hg2:W3.heap.size<=g2:=by
  rcases Nat.lt_or_ge g2 W3.heap.size with h|h
  ·exact absurd (List.mem_cons_of_mem _ (List.mem_range.2 h)) hg2
  ·exact h
 refine F_store (fun W=>((((Ext w W/\W3.heap.size<=W.heap.size)/\W.heap[g]? = some (.cells #[.int .i64 mx,.int .i64 my,.int .i64 tt,.bool mr] 59))/\W.heap[N]? = some (.cells #[.int .i64 a.k,.slice p1 a.n c1,.int .i64 a.r] 24)/\W.heap[N+1]? = some (.cells #[.int .i64 b.k,.slice p2 b.n c2,.int .i64 b.r] 24))/\(ShAt W a p1 c1/\ShAt W b p2 c2)/\ShAt W ma p3 c3/\ShAt W mb p4 c4)/\W.heap[g1]? = some (.cells #[.int .i64 ma.k,.slice p3 ma.n c3,.int .i64 ma.r] 24)/\W.heap[g2]? = some (.cells #[.int .i64 0,.slice none 0 0,.int .i64 0] 24))
  ?_ (fun W h=>h.1.1) (by rfl) (by rfl) (fun W hW=>?_) ?_
 ·rintro W W' ⟨⟨⟨⟨⟨h1, h2⟩, h3⟩, h4, h5⟩, ⟨h6, h7⟩, h8, h9⟩, i1, i2⟩ hb
  exact⟨⟨⟨⟨⟨Ext.step h1 hb,Nat.le_trans h2 hb.size⟩,heap_ext h3 hb⟩,heap_ext h4 hb,heap_ext h5 hb⟩,⟨h6.ext hb,h7.ext hb⟩,h8.ext hb,h9.ext hb⟩,heap_ext i1 hb,heap_ext i2 hb⟩
 ·obtain ⟨⟨⟨⟨⟨⟨⟨⟨h1, h2⟩, h3⟩, h4, h5⟩, h6, h7⟩, q3⟩, q4⟩, i1⟩, i2⟩ := hW
  obtain⟨p',c',e',h8⟩:=ShAt.of q3
  cases e'
  obtain⟨p',c',e',h9⟩:=ShAt.of q4
  cases e'
  refine giv_sh ma p3 c3 i1 rfl (by rfl) (by rfl) fun W5 o1 o2=>⟨rfl,by rw[o1.size];exact Nat.le_refl _,⟨⟨⟨⟨h1.trans (o1.below (by omega)),by rw[o1.size];exact h2⟩,(o1.block _ (by omega)).trans h3⟩,(o1.block _ (by omega)).trans h4,(o1.block _ (by omega)).trans h5⟩,⟨h6.only o1 i1 (by simp),h7.only o1 i1 (by simp)⟩,h8.only o1 i1 (by simp),h9.only o1 i1 (by simp)⟩,o2,(o1.block _ (by omega)).trans i2⟩
 simp only[Act.put,List.setIfInBounds_toArray,List.set_cons_zero,List.set_cons_succ]
 refine F_store (fun W=>((((Ext w W/\W3.heap.size<=W.heap.size)/\W.heap[g]? = some (.cells #[.int .i64 mx,.int .i64 my,.int .i64 tt,.bool mr] 59))/\W.heap[N]? = some (.cells #[.int .i64 a.k,.slice p1 a.n c1,.int .i64 a.r] 24)/\W.heap[N+1]? = some (.cells #[.int .i64 b.k,.slice p2 b.n c2,.int .i64 b.r] 24))/\(ShAt W a p1 c1/\ShAt W b p2 c2)/\ShAt W ma p3 c3/\ShAt W mb p4 c4)/\W.heap[g1]? = some (.cells #[.int .i64 ma.k,.slice p3 ma.n c3,.int .i64 ma.r] 24)/\W.heap[g2]? = some (.cells #[.int .i64 mb.k,.slice p4 mb.n c4,.int .i64 mb.r] 24))
  ?_ (fun W h=>h.1.1) (by rfl) (by rfl) (fun W hW=>?_) ?_
 ·rintro W W' ⟨⟨⟨⟨⟨h1, h2⟩, h3⟩, h4, h5⟩, ⟨h6, h7⟩, h8, h9⟩, i1, i2⟩ hb
  exact⟨⟨⟨⟨⟨Ext.step h1 hb,Nat.le_trans h2 hb.size⟩,heap_ext h3 hb⟩,heap_ext h4 hb,heap_ext h5 hb⟩,⟨h6.ext hb,h7.ext hb⟩,h8.ext hb,h9.ext hb⟩,heap_ext i1 hb,heap_ext i2 hb⟩
 ·obtain ⟨⟨⟨⟨⟨⟨h1, h2⟩, h3⟩, h4, h5⟩, ⟨h6, h7⟩, h8, h9⟩, i1, i2⟩, _⟩ := hW
  refine giv_sh mb p4 c4 i2 rfl (by rfl) (by rfl) fun W5 o1 o2=>⟨rfl,by rw[o1.size];exact Nat.le_refl _,⟨⟨⟨⟨h1.trans (o1.below (by omega)),by rw[o1.size];exact h2⟩,(o1.block _ (by omega)).trans h3⟩,(o1.block _ (by omega)).trans h4,(o1.block _ (by omega)).trans h5⟩,⟨h6.only o1 i2 (by simp),h7.only o1 i2 (by simp)⟩,h8.only o1 i2 (by simp),h9.only o1 i2 (by simp)⟩,(o1.block _ (by omega)).trans i1,o2⟩
 simp only[Act.put,List.setIfInBounds_toArray,List.set_cons_zero,List.set_cons_succ]
 rintro W4 ⟨⟨⟨⟨⟨⟨h1,h2⟩,h3⟩,h4,h5⟩,⟨h6,h7⟩,h8,h9⟩,i1,i2⟩,hz4⟩
 clear hz4
 rename_i K1 HK1 n1 n2 n3 n4 n5 n6
 refine HK1 _ _ (wp_as (c':=restS 5 (bodyF Tryz.prog 6)) (by kernel_rfl) (TL.out W4 _ N (N+1) g1 g2 rfl rfl rfl rfl rfl rfl rfl ?_ ?_ ?_ ?_ h1))
 ·exact .of (cs:=[.int .i64 a.k,.slice p1 a.n c1,.int .i64 a.r]) h4 h6.repF
 ·exact .of (cs:=[.int .i64 b.k,.slice p2 b.n c2,.int .i64 b.r]) h5 h7.repF
 ·exact .of (cs:=[.int .i64 ma.k,.slice p3 ma.n c3,.int .i64 ma.r]) i1 h8.repF
 ·exact .of (cs:=[.int .i64 mb.k,.slice p4 mb.n c4,.int .i64 mb.r]) i2 h9.repF
theorem turns_fok(L M:List Int)(bx by' ax ay tn:Int)(mr:Bool):Fok Tryz.prog 6 [⟨false,[.ds L]⟩,⟨false,[.ds M]⟩,⟨true,[.i bx lim,.i by' lim,.i ax lim,.i ay lim,.i tn lim,.v (.bool mr)]⟩] (.one (blV true)):=fun W vals hv=>by
 obtain⟨v1,h1,_,rfl,hv1⟩:=rvs_cons.1 hv
 obtain⟨v2,h2,_,rfl,hv2⟩:=rvs_cons.1 hv1
 obtain⟨v3,h3,_,rfl,hv3⟩:=rvs_cons.1 hv2
 cases hv3
 simp only[rv_t,rl_i,rl_v,rl_nil] at h3
 obtain⟨_,⟨_,_,rfl,_,_,rfl,_,_,rfl,_,_,rfl,_,_,rfl,_,_,rfl,rfl⟩,rfl⟩:=h3
 exact (gturns_ok L M bx by' ax ay tn mr v1 v2 W h1.scal.ints h2.scal.ints).mono fun e w' ⟨e1,hx⟩=>⟨_,e1,rv_v.2 ⟨rfl,rfl⟩,hx⟩
end
end Go.Proofs.YtceemiodpccbhaaGreat
