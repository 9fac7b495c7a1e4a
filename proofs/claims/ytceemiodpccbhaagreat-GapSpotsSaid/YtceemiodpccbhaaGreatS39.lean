import Derived.Test.YtceemiodpccbhaaGreatS38
set_option linter.unusedVariables false
set_option linter.unusedSimpArgs false

namespace Go.Proofs.YtceemiodpccbhaaGreat

section
open Go.RowKit
theorem mov_ok {s:Sh} (h:FineS s) {x y:Int} (t:Int) (m:Bool) (hx : -1048576<=x/\x<=1048576) (hy : -1048576<=y/\y<=1048576):OkS (movS s x y t m):=by
 obtain ⟨h,hs,_⟩:=h
 have ht:=modZ_bd t (m:=4) (by omega)
 refine ⟨h.k,h.n0,h.n1,fun i hi=>?_,fun i hi=>?_,fun hk=>?_,h.r⟩
 ·obtain ⟨⟨s1, s2⟩, ⟨s3, s4⟩, s5, s6⟩ := hs i hi
  unfold Sm3 at *
  exact move_ok (h.ok i hi) x y (modZ t 4) m (by omega) hx hy (by omega) (by omega) (by omega) (by omega) (by omega) (by omega)
 ·obtain ⟨e1, e2⟩ := h.ch i hi
  show (applyP x y (modZ t 4) m (s.e (i+1)).ax (s.e (i+1)).ay).1=(applyP x y (modZ t 4) m (s.e i).bx (s.e i).by').1/\(applyP x y (modZ t 4) m (s.e (i+1)).ax (s.e (i+1)).ay).2=(applyP x y (modZ t 4) m (s.e i).bx (s.e i).by').2
  rw [e1,e2]
  exact ⟨rfl,rfl⟩
 ·obtain ⟨e1, e2⟩ := h.cl hk
  show (applyP x y (modZ t 4) m (s.e 0).ax (s.e 0).ay).1=(applyP x y (modZ t 4) m (s.e (s.n - 1)).bx (s.e (s.n - 1)).by').1/\(applyP x y (modZ t 4) m (s.e 0).ax (s.e 0).ay).2=(applyP x y (modZ t 4) m (s.e (s.n - 1)).bx (s.e (s.n - 1)).by').2
  rw [e1,e2]
  exact ⟨rfl,rfl⟩
def shQ (z:Q4) (n:Int):Q4:=⟨z.a+n,z.s,z.n,z.d⟩
theorem shQ_ok {z:Q4} (h:z.ok) (n:Int):(shQ z n).ok:=⟨h.s,h.n0,h.n1,h.d0,h.d1⟩
theorem q_rt {z:Q4} (h:z.ok):z.rt=⟨z.a,nz z.s z.n.toNat,ofZ ((z.n.toNat / Nat.gcd z.n.toNat z.d.toNat:Nat):Int),ofZ ((z.d.toNat / Nat.gcd z.n.toNat z.d.toNat:Nat):Int)⟩:=by
 rw [h.root.1,rootOf_nz h.s (by have:=h.d0;omega)]
theorem plus_q {z:Q4} (h:z.ok) {n:Int} (hi:inI (z.a+n)=true):plusR z.rt n=((shQ z n).rt,true):=by
 unfold plusR
 have ha:z.rt.add=z.a:=by rw [q_rt h]
 rw [h.root.2.2,ha,hi,q_rt (shQ_ok h n),q_rt h]
 rfl
theorem shQ_shQ (z:Q4) (m n:Int):shQ (shQ z m) n=shQ z (m+n):=by unfold shQ;rw [Int.add_assoc]
theorem shQ_0 (z:Q4):shQ z 0=z:=by unfold shQ;rw [Int.add_zero]
theorem zrt_q (a b:Sh):zrt a b=(shQ (intQ 0) (sumR a b)).rt:=by
 have e:(ofP (sumR a b) 0 (ofZ ((0:Nat):Int)) (ofZ ((1:Nat):Int)))=(rootOf (sumR a b) 0 0 1,true):=ofP_nat (by decide) (by decide) (by decide) (by decide)
 have e2:shQ (intQ 0) (sumR a b)=intQ (sumR a b):=by unfold shQ intQ;simp
 rw [e2,intQ_rt]
 exact congrArg Prod.fst e
def Bd30 (x:Int):Prop := -1073741824<=x/\x<=1073741824
theorem point_a {e:Ed} (ho:e.ok=true) (x y:Int) : -134217728<=(pointQ e x y).a/\(pointQ e x y).a<=134217728:=by
 have hr:=(rad_b ho).1
 unfold pointQ lineQ arcQ endQ
 (repeat' split)<;>simp only<;>omega
theorem cand_a {a b:Ed} (ha:a.ok=true) (hb:b.ok=true):∀ z ∈ candQ a b,Bd30 z.a:=by
 intro z hz
 have r1:=(rad_b ha).1
 have r2:=(rad_b hb).1
 unfold Bd30
 unfold candQ at hz
 rcases List.mem_append.1 hz with hz | hz
 ·simp only [List.mem_cons, List.not_mem_nil, or_false] at hz
  rcases hz with rfl | rfl | rfl | rfl
  ·have:=point_a hb a.ax a.ay;omega
  ·have:=point_a hb a.bx a.by';omega
  ·have:=point_a ha b.ax b.ay;omega
  ·have:=point_a ha b.bx b.by';omega
 ·unfold innerQ footQ centQ at hz
  simp only at hz
  (repeat' split at hz)<;>first | (cases hz;done) | (simp only [List.mem_cons,List.not_mem_nil,or_false] at hz;subst hz;simp only;omega)
theorem gap_some (c:Nat->Pr):∀ k,0 < k->∃ i,i < k/\gapK c k=(c i).gp
 | 0,h=>absurd h (Nat.lt_irrefl _)
 | k+1,_=>by
  unfold gapK
  split
  ·exact ⟨k,Nat.lt_succ_self _,rfl⟩
  ·rename_i h
   have hk:0 < k:=by
    rcases Nat.eq_zero_or_pos k with h0 | h0
    ·subst h0;simp at h
    ·exact h0
   obtain ⟨i,h1,h2⟩:=gap_some c k hk
   exact ⟨i,by omega,h2⟩
theorem sum_r {a b:Sh} (ha:OkS a) (hb:OkS b):sumR a b = -a.r - b.r:=by
 obtain ⟨⟨a0,a1⟩,_⟩:=ha.r
 obtain ⟨⟨b0,b1⟩,_⟩:=hb.r
 unfold sumR
 have e:IntKind.i64.wrap (0 - a.r) = -a.r:=(wrap_in (by unfold I64;omega)).trans (by omega)
 rw [e,wrap_in (by unfold I64;omega)]
structure DistQ (a b:Sh) (z:Q4):Prop where
 ok:z.ok
 bd:Bd30 z.a
 eq:(ofQ a b).2=true/\(ofQ a b).1.m=metB a b/\(ofQ a b).1.d=(shQ z (-a.r - b.r)).rt
 met:metB a b=true->z=intQ 0/\(ofQ a b).1.a=Sp.no/\(ofQ a b).1.b=Sp.no
 far:metB a b=false->0 < cmpQ z (intQ 0)
theorem n_pos {s:Sh} (h:OkS s):0 < s.n:=by
 have:=h.n0
 unfold fewS at this
 split at this<;>omega
structure CoreQ (a b:Sh) (z:Q4):Prop where
 ok:z.ok
 bd:Bd30 z.a
 met:metB a b=true->z=intQ 0
 far:metB a b=false->0 < cmpQ z (intQ 0)/\(gapK (cnd a b) (a.n*b.n)).d=z.rt/\(gapK (cnd a b) (a.n*b.n)).m=false
theorem core_q {a b:Sh} (ha:OkS a) (hb:OkS b):∃ z,CoreQ a b z:=by
 cases hm:metB a b with
 | true=>exact ⟨intQ 0,intQ_ok 0,by unfold Bd30 intQ;simp only;omega,fun _=>rfl,fun h=>(by rw [hm] at h;cases h)⟩
 | false =>
  have hn:0 < a.n*b.n:=Nat.mul_pos (n_pos ha) (n_pos hb)
  obtain ⟨i,hi,hg⟩:=gap_some (cnd a b) (a.n*b.n) hn
  have hbn:=n_pos hb
  have i1:i / b.n < a.n:=(Nat.div_lt_iff_lt_mul hbn).2 hi
  have i2:i % b.n < b.n:=Nat.mod_lt _ hbn
  have oa:=ha.ok _ i1
  have ob:=hb.ok _ i2
  have hsep:sep a b i=true:=by
   have hm':=hm
   unfold metB at hm'
   simp only [Bool.or_eq_false_iff,Bool.not_eq_false'] at hm'
   exact allB_t.1 hm'.2 i hi
  have hc:countE (a.e (i / b.n)) (b.e (i % b.n))=0:=by unfold sep at hsep;simpa using hsep
  have hd:(gapK (cnd a b) (a.n*b.n)).d=(leastQ (candQ (a.e (i / b.n)) (b.e (i % b.n)))).rt:=by
   rw [hg]
   exact edgesR_Q oa ob hc
  have hmem:=leastQ_mem (candQ_ne (a.e (i / b.n)) (b.e (i % b.n)))
  exact ⟨_,candQ_ok oa ob _ hmem,cand_a oa ob _ hmem,fun h=>(by rw [hm] at h;cases h),fun _=>⟨least_gt oa ob hc,hd,by rw [hg];rfl⟩⟩
theorem core_dist {a b:Sh} (ha:OkS a) (hb:OkS b) {z:Q4} (C:CoreQ a b z):DistQ a b z:=by
 have h0:¬ (chkS a ≠ 0\/chkS b ≠ 0):=fun h=>h.elim (fun g=>g ha.chk) (fun g=>g hb.chk)
 have hs:=sum_r ha hb
 have ra:=ha.r.1
 have rb:=hb.r.1
 cases hm:metB a b with
 | true =>
  have e:ofQ a b=(metR a b,true):=by unfold ofQ;rw [if_neg h0,if_pos hm]
  refine ⟨C.ok,C.bd,⟨by rw [e],by rw [e,hm];rfl,?_⟩,fun _=>⟨C.met hm,by rw [e];exact ⟨rfl,rfl⟩⟩,fun h=>(by rw [hm] at h;cases h)⟩
  rw [e,<- hs,C.met hm]
  exact zrt_q a b
 | false =>
  have e:ofQ a b=({ gapK (cnd a b) (a.n*b.n) with d:=(plusR (gapK (cnd a b) (a.n*b.n)).d (sumR a b)).1 },true):=by unfold ofQ;rw [if_neg h0,if_neg (by rw [hm];decide)]
  obtain ⟨hgt,hd,hmf⟩:=C.far hm
  have hba:=C.bd
  refine ⟨C.ok,C.bd,⟨by rw [e],by rw [e,hm];exact hmf,?_⟩,fun h=>(by rw [hm] at h;cases h),fun _=>hgt⟩
  rw [e]
  show (plusR (gapK (cnd a b) (a.n*b.n)).d (sumR a b)).1=_
  unfold Bd30 at hba
  rw [hd,hs,plus_q C.ok (inI_iff.2 (by omega))]
theorem dist_q {a b:Sh} (ha:OkS a) (hb:OkS b):∃ z,DistQ a b z:=(core_q ha hb).imp fun _ C=>core_dist ha hb C
end

set_option maxRecDepth 100000
section
open Go.RowKit
attribute [local go_sem] Gives givesU
def KLw:List Con:=[cGapF,cTouch,cLeastG,cPlus,cCmpInt,cCmp,d02Right]
def lwD (a b:Sh):Ds:=⟨[(7,.eq (blV true)),(8,.eq (fpV (shL a))),(9,.eq (fpV (shL b)))],[]⟩
theorem spot_0:eqZ [.i Sp.no.x,.i Sp.no.y,.i Sp.no.dx,.i Sp.no.dy,.i Sp.no.p,.i Sp.no.q,.i Sp.no.len] [.i 0,.i 0,.i 0,.i 0,.i 0,.i 0,.i 0]=true:=by decide
theorem sumw {a b:Sh} (ha:OkS a) (hb:OkS b):IntKind.i64.wrap (a.r+b.r)=a.r+b.r:=by
 have:=ha.r.1
 have:=hb.r.1
 exact wrap_in (by unfold I64;omega)
theorem bare_q {a b:Sh} {z:Q4} (ha:OkS a) (hb:OkS b) (D:DistQ a b z):plusR (ofQ a b).1.d (IntKind.i64.wrap (a.r+b.r))=(z.rt,true):=by
 have ra:=ha.r.1
 have rb:=hb.r.1
 have hz:=D.bd
 unfold Bd30 at hz
 rw [D.eq.2.2,sumw ha hb,plus_q (shQ_ok D.ok _) (inI_iff.2 (by unfold shQ;simp only;omega)),shQ_shQ,show -a.r - b.r+(a.r+b.r)=0 by omega,shQ_0]
theorem spots_tail {a b:Sh} {z:Q4} (ha:OkS a) (hb:OkS b) (D:DistQ a b z) {w V:World} (A:Act) (B8 B9:Nat) (hsz:A.tmps.size=76) (hd:A.defers=[]) (h7:A.tmps.getD 7 undef=.bool true) (h8:A.tmps.getD 8 undef=ptrA B8) (h9:A.tmps.getD 9 undef=ptrA B9) (f8:FpAt V B8 (shL a)) (f9:FpAt V B9 (shL b)) (hx:Ext w V) :
  (restS 3 (bodyF Tryz.prog 9)).wp Tryz.prog (bodyPost Tryz.prog Tryz.f9 fun e w'=>e=.returned (.bool true)/\Ext w w') A V:=by
 obtain ⟨tm,df⟩:=A
 obtain rfl:df=[]:=hd
 have hJ:JJ V (mkS 76 (lwD a b)) ⟨tm,[]⟩ V:=old_J (a:=⟨tm,[]⟩) hsz fun z hz=>by
  simp only [List.mem_cons,List.not_mem_nil,or_false] at hz
  rcases hz with rfl | rfl | rfl
  ·rw [h7];exact rv_v.2 ⟨rfl,rfl⟩
  ·rw [h8];exact f8.rv
  ·rw [h9];exact f9.rv
 have bq:=bare_q ha hb D
 have e1:(plusR (ofQ a b).1.d (IntKind.i64.wrap (a.r+b.r))).2=true:=by rw [bq]
 have c0:cmpRt (plusR (ofQ a b).1.d (IntKind.i64.wrap (a.r+b.r))).1 ⟨0,0,zero,ofZ 1⟩=cmpQ z (intQ 0):=by rw [bq,<- intQ_rt,cmpQ_rt D.ok (intQ_ok 0)]
 cases hm:metB a b with
 | true =>
  obtain ⟨hz,g1,g2⟩:=D.met hm
  have ea:eqZ [.i (ofQ a b).1.a.x,.i (ofQ a b).1.a.y,.i (ofQ a b).1.a.dx,.i (ofQ a b).1.a.dy,.i (ofQ a b).1.a.p,.i (ofQ a b).1.a.q,.i (ofQ a b).1.a.len] [.i 0,.i 0,.i 0,.i 0,.i 0,.i 0,.i 0]=true:=by rw [g1];exact spot_0
  have eb:eqZ [.i (ofQ a b).1.b.x,.i (ofQ a b).1.b.y,.i (ofQ a b).1.b.dx,.i (ofQ a b).1.b.dy,.i (ofQ a b).1.b.p,.i (ofQ a b).1.b.q,.i (ofQ a b).1.b.len] [.i 0,.i 0,.i 0,.i 0,.i 0,.i 0,.i 0]=true:=by rw [g2];exact spot_0
  refine tail_wp (X:=[]) (K:=KLw) (res:=.one (blV (cmpRt (plusR (ofQ a b).1.d (IntKind.i64.wrap (a.r+b.r))).1 ⟨0,0,zero,ofZ 1⟩==0))) [false,false,true,true,true,true] [pEd a,pEd b,pF (not_F D.eq.1),pF (not_F e1),pT (D.eq.2.1.trans hm),pT (rfl:true=true),pT ea,pT eb] (by kernel_rfl) Tryz.func9 hJ fun v w' hv hx'=>?_
  refine ⟨?_,Ext.step hx hx'⟩
  rw [(rv_v.1 hv).2,c0,hz]
  rfl
 | false =>
  have hp:=D.far hm
  have hr:(ofQ a b).1.d.right=true:=by rw [D.eq.2.2];exact (shQ_ok D.ok _).root.2.2
  refine tail_wp (X:=[]) (K:=KLw) (res:=.one (blV (Rt.right (ofQ a b).1.d))) [false,false,false,true,true] [pEd a,pEd b,pF (not_F D.eq.1),pF (not_F e1),pF (D.eq.2.1.trans hm),pT (rfl:true=true),pT (show decide (cmpRt (plusR (ofQ a b).1.d (IntKind.i64.wrap (a.r+b.r))).1 ⟨0,0,zero,ofZ 1⟩ > 0)=true by rw [c0];simpa using hp)] (by kernel_rfl) Tryz.func9 hJ fun v w' hv hx'=>?_
  refine ⟨?_,Ext.step hx hx'⟩
  rw [(rv_v.1 hv).2,hr]
end

set_option maxHeartbeats 4000000
set_option maxRecDepth 100000
section
open Go.RowKit
attribute [local go_sem] Gives givesU
theorem fine_ok {s:Sh} (h:FineS s):(1<=s.n/\s.n<=1000)/\∀ i,i < s.n->(s.e i).ok=true:=⟨⟨n_pos h.1,by have:=h.1.n1;omega⟩,h.1.ok⟩
theorem mod_sm (z:Int) : -1048576<=z.tmod 60/\z.tmod 60<=1048576:=by
 obtain ⟨h1,h2⟩:=tmod_bd z (show (0:Int) < 60 by decide)
 generalize z.tmod 60=u at *
 omega
theorem spots_ok (L M:List Int) (bx by':Int) (v1 v2:Value) (w:World) (h1:IntsC w L v1) (h2:IntsC w M v2) :
  Calls Tryz.prog 9 #[v1,v2,.agg #[.int .i64 bx,.int .i64 by']] w fun e w'=>e=.returned (.bool true)/\Ext w w':=by
 have fa:=made_fine L
 have fb:=made_fine M
 have ob:=mov_ok fb 0 false (mod_sm bx) (mod_sm by')
 obtain ⟨z,D⟩:=dist_q fa.1 ob
 obtain ⟨q1,q2⟩:=fine_ok fb
 have SH:=Lib.hid (fun W (hW:Ext w W)=>shapesC L M bx by' v1 v2 W (h1.ext hW) (h2.ext hW) q1 q2)
 have TL:=Lib.hid (fun (V:World) A B8 B9 hsz hd h7 h8 h9 f8 f9 hx=>spots_tail (w:=w) (V:=V) fa.1 ob D A B8 B9 hsz hd h7 h8 h9 f8 f9 hx)
 clear h1 h2 fa fb ob D q1 q2
 generalize madeS L=a at *
 generalize movS (madeS M) (bx.tmod 60) (by'.tmod 60) 0 false=b at *
 have X0:Ext w (w.alloc (.cells #[.int .i64 bx,.int .i64 by'] 32)):=bxx
 have X0:=Lib.hid X0
 have c0:(w.alloc (.cells #[.int .i64 bx,.int .i64 by'] 32)).heap[w.heap.size]? = some (.cells #[.int .i64 bx,.int .i64 by'] 32):=World.alloc_heap_new _ _
 have C0:=Lib.hid c0
 clear c0
 go_enter Tryz.func9,Tryz.ntmps9
 go_wp2_with fail
 refine (sanC _).mono ?_
 rintro e W1 ⟨rfl,hx1⟩
 have x1:=Lib.hid (Ext.step X0.out hx1)
 have r5:=heap_ext C0.out hx1
 have k0:W1.cell? ⟨w.heap.size,0,none⟩=some (.int .i64 bx):=by rw [cell_of_row _ _ _ _ _ _ r5];rfl
 have k1:W1.cell? ⟨w.heap.size,1,none⟩=some (.int .i64 by'):=by rw [cell_of_row _ _ _ _ _ _ r5];rfl
 have kz:w.heap.size < W1.heap.size:=(Array.getElem?_eq_some_iff.1 r5).1
 clear hx1 r5 C0 X0
 go_wp2_with fail
 refine (SH.out _ x1.out).mono ?_
 rintro e W2 ⟨u1,u2,rfl,hu1,hu2,hx2⟩
 obtain ⟨p1,c1,rfl,hs1⟩:=ShAt.of hu1
 obtain ⟨p2,c2,rfl,hs2⟩:=ShAt.of hu2
 have x2:=Lib.hid (Ext.step x1.out hx2)
 have S1:=Lib.hid hs1
 have S2:=Lib.hid hs2
 clear hu1 hu2 hs1 hs2 hx2 k0 k1 kz SH
 rename_i K1 HK1 K2 HK2
 have FIN:=Lib.hid (fun (V:World) A B8 B9 hsz hd h7 h8 h9 f8 f9 hx=>HK1 A V (wp_as (c':=restS 3 (bodyF Tryz.prog 9)) (by kernel_rfl) (TL.out V A B8 B9 hsz hd h7 h8 h9 f8 f9 hx)))
 clear HK1 TL
 go_wp2
 have y1:=below_alloc W2 (.cells #[.int .i64 a.k,.slice p1 a.n c1,.int .i64 a.r] 24)
 have y2:=below_alloc (W2.alloc (.cells #[.int .i64 a.k,.slice p1 a.n c1,.int .i64 a.r] 24)) (.cells #[.int .i64 b.k,.slice p2 b.n c2,.int .i64 b.r] 24)
 refine FIN.out _ _ W2.heap.size (W2.heap.size+1) rfl rfl rfl rfl rfl ?_ ?_ (Ext.step (Ext.step x2.out y1) y2)
 ·exact .of (cs:=[.int .i64 a.k,.slice p1 a.n c1,.int .i64 a.r]) (heap_ext (World.alloc_heap_new _ _) y2) ((S1.out.ext y1).ext y2).repF
 ·have := World.alloc_heap_new (W2.alloc (.cells #[.int .i64 a.k, .slice p1 a.n c1, .int .i64 a.r] 24)) (.cells #[.int .i64 b.k, .slice p2 b.n c2, .int .i64 b.r] 24)
  exact .of (cs:=[.int .i64 b.k,.slice p2 b.n c2,.int .i64 b.r]) (by simpa using this) ((S2.out.ext y1).ext y2).repF
theorem spots_fok (L M:List Int) (bx by':Int):Fok Tryz.prog 9 [⟨false,[.ds L]⟩,⟨false,[.ds M]⟩,⟨true,[.i bx lim,.i by' lim]⟩] (.one (blV true)):=fun W vals hv=>by
 obtain ⟨v1,h1,_,rfl,hv1⟩:=rvs_cons.1 hv
 obtain ⟨v2,h2,_,rfl,hv2⟩:=rvs_cons.1 hv1
 obtain ⟨v3,h3,_,rfl,hv3⟩:=rvs_cons.1 hv2
 cases hv3
 simp only [rv_t,rl_i,rl_nil] at h3
 obtain ⟨_,⟨_,_,rfl,_,_,rfl,rfl⟩,rfl⟩:=h3
 exact (spots_ok L M bx by' v1 v2 W h1.scal.ints h2.scal.ints).mono fun e w' ⟨e1,hx⟩=>⟨_,e1,rv_v.2 ⟨rfl,rfl⟩,hx⟩
end
end Go.Proofs.YtceemiodpccbhaaGreat
