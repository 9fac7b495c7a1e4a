import Derived.Test.YtceemiodpccbhaaGreatQ27
set_option linter.unusedVariables false
set_option linter.unusedSimpArgs false

namespace Go.Proofs.YtceemiodpccbhaaGreat
open Go.RowKit

set_option maxRecDepth 100000
section
structure ButX (X:List Nat) (W W':World):Prop where
 os:W'.os=W.os
 tape:W'.tape=W.tape
 output:W'.output=W.output
 size:W.heap.size<=W'.heap.size
 block:∀k,k<W.heap.size->k∉X->W'.heap[k]? = W.heap[k]?
theorem ButX.ext{X:List Nat}{W W':World}(h:Ext W W'):ButX X W W':=⟨h.os,h.tape,h.output,h.size,fun k hk _=>h.block k hk⟩
theorem ButX.only{X:List Nat}{g:Nat}{W W':World}(h:OnlyB g W W')(hg:g∈X):ButX X W W':=⟨h.os,h.tape,h.output,by rw[h.size];exact Nat.le_refl _,fun k _ hx=>h.block k fun e=>hx (e ▸ hg)⟩
theorem ButX.two{X:List Nat}{a b:Nat}{W W':World}(h:But2 a b W W')(ha:a∈X)(hb:b∈X):ButX X W W':=⟨h.os,h.tape,h.output,h.size,fun k hk hx=>h.block k hk (fun e=>hx (e ▸ ha)) fun e=>hx (e ▸ hb)⟩
theorem ButX.trans{X:List Nat}{A B C:World}(h:ButX X A B)(k:ButX X B C):ButX X A C:=⟨k.os.trans h.os,k.tape.trans h.tape,k.output.trans h.output,Nat.le_trans h.size k.size,fun i hi hx=>(k.block i (Nat.lt_of_lt_of_le hi h.size) hx).trans (h.block i hi hx)⟩
theorem ButX.below{X:List Nat}{W W':World}{v:Nat}(h:ButX X W W')(hv:v<=W.heap.size)(hX:∀x∈X,v<=x):Below v W W':=⟨h.os,h.tape,h.output,h.size,fun k hk=>h.block k (by omega) fun hx=>by have:=hX k hx;omega⟩
theorem ButX.kp{X:List Nat}{W W':World}(h:ButX X W W'):KpP X W W':=⟨h.size,fun k o hk _ hx=>(h.block k (Array.getElem?_eq_some_iff.1 hk).1 hx).trans hk⟩
theorem ButX.at{X:List Nat}{W W':World}(h:ButX X W W'){k:Nat}{o:Obj}(hk:W.heap[k]? = some o)(hx:k∉X):W'.heap[k]? = some o:=(h.block k (Array.getElem?_eq_some_iff.1 hk).1 hx).trans hk
theorem ButX.keeps{X:List Nat}{W W':World}(h:ButX X W W')(B:Nat)(hX:∀x∈X,∃o,W.heap[x]? = some o/\o.isCells=true):KeepsFrom B W W':=(show KeepsOthers W W' from⟨h.size,fun k o hk ho=>by
 refine h.at hk fun hx=>?_
 obtain⟨o',h1,h2⟩:=hX k hx
 rw[hk] at h1
 cases h1
 rw[ho] at h2
 cases h2⟩).from B
theorem GpAt.but{X:List Nat}{W W':World}{B:Nat}{g:Gp}(h:GpAt W B g)(hk:ButX X W W')(hB:B∉X)(hX:∀x∈X,∃xs T,W.heap[x]? = some (.cells xs T)/\∀v∈xs.toList,nd v):GpAt W' B g:=by
 obtain⟨cs,h1,h2⟩:=h
 exact⟨cs,hk.at h1 hB,h2.kp hX hk.kp⟩
theorem nd_bool{b:Bool}:∀v∈(#[Value.bool b]:Array Value).toList,nd v:=fun v hv=>by rw[List.mem_singleton.1 hv];exact fun z h=>nomatch h
def rfOf:Code->Option Code
 | .seq a b=>match rfOf a with|some c=>some c|none=>rfOf b
 | .block _ c=>rfOf c
 | .scope c=>rfOf c
 | .rangeFunc _ _ _ c=>some c
 | _=>none
noncomputable def rfBody:Code:=(rfOf (bodyF Tryz.prog 14)).getD .skip
theorem rf_eq:rfBody=.block 1 (.seq (.seq (.region 8 (gR 8).toArray false) (.seq (.region 9 (gR 9).toArray false) (.cond (.tmp 49) (.exit 0) .skip))) (.seq (.region 10 (gR 10).toArray false) (.region 11 (gR 11).toArray false))):=by kernel_rfl
theorem inR{id r m:Nat}{l:List Oper}{Q:Exit->Act->World->Prop}{a:Act}{w:World}(hd:(l.all fun o=>match o.op with | .defer _=>false|_=>true)=true)(h:WpS Tryz.prog l.toArray (fun a w=>Q .normal a w) l a w):(Code.region id l.toArray false).wpIn (Fence.wide.inRound r) m Tryz.prog Q a w:=wpIn_region_lit (h.wpIn hd)
theorem body_ok(l m:Nat)(a:Act)(W:World)(x y:Ed)(met sm:Bool)(h:Gp)(B6 B7 Bs Bl P9 P10:Nat)(Q:Exit->Act->World->Prop)(hsz:a.tmps.size=94)(h6:a.tmps.getD 6 undef=ptrA B6)(h7:a.tmps.getD 7 undef=ptrA B7)(h9:a.tmps.getD 9 undef=ptrA P9)(h10:a.tmps.getD 10 undef=ptrA P10)
  (g6:W.heap[B6]? = some (.cells #[.bool met] 4)) (g7:W.heap[B7]? = some (.cells #[kpF Bs Bl] 85)) (g9:W.heap[P9]? = some (.cells (edL x).toArray 70)) (g10:W.heap[P10]? = some (.cells (edL y).toArray 70)) (hx:EdI x) (hy:EdI y)
  (hs:W.heap[Bs]? = some (.cells #[.bool sm] 4)) (hl:GpAt W Bl h) (n1:B6≠B7) (n2:B6≠Bs) (n3:B6≠Bl) (n4:Bs≠Bl) (n5:B6≠P9) (n6:B6≠P10)
  (Qx:∀a' W',ButX [B6,Bs,Bl] W W'->W'.heap[B6]? = some (.cells #[.bool true] 4)->(met || !(countE x y==0))=true->Q (.exit 0) a' W')
  (Qn:∀a' W',ButX [B6,Bs,Bl] W W'->W'.heap[B6]? = some (.cells #[.bool false] 4)->W'.heap[Bs]? = some (.cells #[.bool true] 4)->GpAt W' Bl (if (!sm||decide (cmpRt (edgesR x y).d h.d<0))=true then (edgesR x y).gp else h)->(met || !(countE x y==0))=false->Q .normal a' W'):rfBody.wpIn (Fence.wide.inRound l) m Tryz.prog Q a W:=by
 rw[rf_eq]
 refine wpIn_block (wpIn_seq (wpIn_seq (inR (by kernel_rfl) (r8 a W met x y B6 P9 P10 _ hsz h6 h9 h10 g6 g9 g10 hx hy fun a1 W1 W2 s1 df1 of1 x1 o1 b1=>?_))))
 have bx:ButX [B6,Bs,Bl] W W2:=(ButX.ext x1).trans (.only o1 (by simp))
 obtain⟨t,ht⟩:∃t,(met || !(countE x y==0))=t:=⟨_,rfl⟩
 rw[ht] at b1 Qx Qn
 have d9:gR 9=[gO 9 0]:=by kernel_rfl
 have e9:(gO 9 0).dst=some 49:=by kernel_rfl
 refine wpIn_seq (inR (by kernel_rfl) ?_)
 have r9':∀Q':Act->World->Prop,Q' (a1.put (some 49) (.bool t)) W2->WpS Tryz.prog (gR 9).toArray Q' (gR 9) a1 W2:=fun Q' hq=>by
  rw[show WpS Tryz.prog (gR 9).toArray Q' (gR 9) a1 W2=WpS Tryz.prog (gR 9).toArray Q' [gO 9 0] a1 W2 by rw[<- d9]]
  refine wpS_val (x:=.bool t) (W:=W2) (by kernel_rfl) ?_ ?_
  ·have := ex_load (P := Tryz.prog) (o := gO 9 0) (a := a1) (w := W2) (t := 4) (x := .tmp 6) (j := 0) (n := 1) (b := false) (cs := [.bool t]) (by kernel_rfl) (show a1.tmps.getD 6 undef = _ by rw [of1 6 (by kernel_rfl)]; exact h6) b1 (by kernel_rfl) (by kernel_rfl) (by simp) (fun _ => rfl)
   exact this
  ·rw[e9];exact hq
 refine r9' _ ?_
 have e49:(a1.put (some 49) (.bool t)).eval (.tmp 49)=.bool t:=put_lt (by rw[s1];decide)
 cases t with
 | true=>exact wpIn_cond_true e49 (wpIn_exit (Qx _ _ bx b1 rfl))
 | false =>
  refine wpIn_cond_false e49 (wpIn_skip ?_)
  have hX:∀k ∈ [B6],∃xs T,W1.heap[k]? = some (.cells xs T)/\∀v∈xs.toList,nd v:=fun k hk=>by
   rw[List.mem_singleton.1 hk];exact⟨_,_,heap_ext g6 x1,nd_bool⟩
  have bo:ButX [B6] W1 W2:=.only o1 (by simp)
  have f9:FpAt W2 P9 (edI x):=.of (bo.at (heap_ext g9 x1) (by simpa using Ne.symm n5)) (hx.rep W2)
  have f10:FpAt W2 P10 (edI y):=.of (bo.at (heap_ext g10 x1) (by simpa using Ne.symm n6)) (hy.rep W2)
  refine wpIn_seq (inR (by kernel_rfl) (r10 (a1.put (some 49) (.bool false)) W2 x y P9 P10 _ (by simp[Act.put,s1]) (by rw[put_ne (by decide),of1 9 (by kernel_rfl)];exact h9) (by rw[put_ne (by decide),of1 10 (by kernel_rfl)];exact h10) f9 f10 fun a2 W3 s2 df2 of2 x2 hp=>?_))
  obtain⟨p,q,r,p1,p2,p3,p4,p5,p6⟩:=hp
  have g7':W3.heap[B7]? = some (.cells #[kpF Bs Bl] 85):=heap_ext (bo.at (heap_ext g7 x1) (by simpa using Ne.symm n1)) x2
  have hs':W3.heap[Bs]? = some (.cells #[.bool sm] 4):=heap_ext (bo.at (heap_ext hs x1) (by simpa using Ne.symm n2)) x2
  have hl':GpAt W3 Bl h:=(((hl.ext x1).but bo (by simpa using Ne.symm n3) hX).ext x2)
  refine inR (by kernel_rfl) (r11 a2 W3 (edgesR x y) h sm B7 Bs Bl p q r _ s2 (by rw[of2 7 (by kernel_rfl),put_ne (by decide),of1 7 (by kernel_rfl)];exact h7) p1 p2 p3 g7' p4 p5 p6 hs' hl' n4 fun a3 W4 W5 df3 x3 b3 k1 k2=>?_)
  have b2:ButX [B6,Bs,Bl] W2 W4:=.ext (x2.trans (x3.mono x2.size))
  refine Qn _ _ (bx.trans (b2.trans (.two b3 (by simp) (by simp)))) ?_ k1 k2 rfl
  rw[b3.block B6 (Nat.lt_of_lt_of_le (Array.getElem?_eq_some_iff.1 b1).1 b2.size) n2 n3]
  exact heap_ext b1 (Ext.step x2 x3)
end
def shC3(s:Sh)(p:Option Addr)(c:Nat):Array Value:=#[.int .i64 s.k,.slice p s.n c,.int .i64 s.r]
structure PS (w W:World) (a b:Sh) (p q:Option Addr) (c d:Nat):Prop where
 ex:Ext w W
 b2:W.heap[w.heap.size]? = some (.cells (shC3 a p c) 24)
 b3:W.heap[w.heap.size+1]? = some (.cells (shC3 b q d) 24)
 b4:W.heap[w.heap.size+1+1]? = some (.cells zGp.toArray 42)
theorem PS.step{w W W':World}{a b:Sh}{p q:Option Addr}{c d:Nat}(h:PS w W a b p q c d)(hx:Ext W W'):PS w W' a b p q c d:=⟨Ext.step h.ex hx,heap_ext h.b2 hx,heap_ext h.b3 hx,heap_ext h.b4 hx⟩
theorem PS.sz{w W:World}{a b:Sh}{p q:Option Addr}{c d:Nat}(h:PS w W a b p q c d):w.heap.size+1+1<W.heap.size:=(Array.getElem?_eq_some_iff.1 h.b4).1
theorem PS.cells{w W:World}{a b:Sh}{p q:Option Addr}{c d:Nat}(h:PS w W a b p q c d):(W.cell? ⟨w.heap.size,0,none⟩=some (.int .i64 a.k)/\W.cell? ⟨w.heap.size,1,none⟩=some (.slice p a.n c)/\W.cell? ⟨w.heap.size,2,none⟩=some (.int .i64 a.r))/\W.cell? ⟨w.heap.size+1,0,none⟩=some (.int .i64 b.k)/\W.cell? ⟨w.heap.size+1,1,none⟩=some (.slice q b.n d)/\W.cell? ⟨w.heap.size+1,2,none⟩=some (.int .i64 b.r):=by
 have e2:=h.b2
 have e3:=h.b3
 have c2:∀i,W.cell? ⟨w.heap.size,i,none⟩=(shC3 a p c)[i]? := fun i=>by rw[cell_of_row _ _ _ _ _ _ e2]
 have c3:∀i,W.cell? ⟨w.heap.size+1,i,none⟩=(shC3 b q d)[i]? := fun i=>by rw[cell_of_row _ _ _ _ _ _ e3]
 exact⟨⟨(c2 0).trans rfl,(c2 1).trans rfl,(c2 2).trans rfl⟩,(c3 0).trans rfl,(c3 1).trans rfl,(c3 2).trans rfl⟩

set_option maxRecDepth 100000
section
def scOf:Code->Code
 | .seq _ (.scope c)=>c
 | c=>c
def sndS:Code->Code
 | .seq _ b=>b
 | c=>c
noncomputable def rest4:Code:=sndS (sndS (scOf (bodyF Tryz.prog 14)))
noncomputable def rest12:Code:=sndS (sndS (sndS rest4))
theorem rest12_eq:rest12=.seq (.seq (.region 12 (gR 12).toArray false) (.cond (.tmp 63) (.seq (.region 13 (gR 13).toArray true) (.seq (.region 14 (gR 14).toArray false) .ret)) .skip)) (.seq (.region 15 (gR 15).toArray false) (.seq (.region 16 (gR 16).toArray false) (.seq (.region 17 (gR 17).toArray false) .ret))):=by kernel_rfl
theorem kp_put{W:World}{D:Nat}{o o':Obj}(h:W.heap[D]? = some o)(ho:o.isCells=false):KpP [] W (W.putObj D o'):=⟨(grownBy_putObj' W D o').size,fun k u hk hu _=>by
 have hne:k≠D:=fun e=>by subst e;rw[h] at hk;cases hk;rw[ho] at hu;cases hu
 exact (World.putObj_heap_other (by omega)).trans hk⟩
theorem ret12{w W':World}{a':Act}{g:Gp}{b:Bool}{vs:List Value}{D B4:Nat}(hd:a'.defers=[{ target:=.collected D,args:=#[] }])(h4:a'.tmps.getD 4 undef=ptrA B4)(h5:a'.tmps.getD 5 undef=.bool b)(hg:W'.heap[B4]? = some (.cells vs.toArray 42))(hc:GpC W' g vs)(hx:Ext w W')(hD:W'.heap[D]? = some (.deferred (some [])))(hDw:w.heap.size<=D) :
  bodyPostM Fence.wide 6 Tryz.prog Tryz.f14 (OfPost w g b) .ret a' W':=by
 obtain⟨tm,df⟩:=a'
 obtain rfl:df=_:=hd
 have kp:=kp_put (o':=.deferred none) hD rfl
 have hg':=kp.same B4 _ hg rfl (by simp)
 have hc':GpC (W'.putObj D (.deferred none)) g vs:=hc.kp (X:=[]) (fun x hx=>by simp at hx) kp
 refine⟨by simp,.inl ⟨_,_,rfl,run_takeDeferred hD,?_⟩⟩
 refine⟨_,gapRes h4 h5 hg' hc.one.1,_,rfl,gapVal hc',?_⟩
 exact hx.trans ((Below.refl _ W').grown (grownBy_putObj' W' D (.deferred none)) (Nat.le_trans hDw (by have:=(Array.getElem?_eq_some_iff.1 hD).1;omega)) (fun k e=>by cases e;omega))
theorem nd_zGp:∀v∈zGp.toArray.toList,nd v:=fun v hv=>(zGpC default).nd v (by simpa using hv)
theorem GpC.only{W W':World}{B4:Nat}{g:Gp}{vs:List Value}(h:GpC W g vs)(ho:OnlyB B4 W W')(hB:W.heap[B4]? = some (.cells zGp.toArray 42)):GpC W' g vs :=
 h.kp (X:=[B4]) (fun x hx=>by rw[List.mem_singleton.1 hx];exact⟨_,_,hB,nd_zGp⟩) (ButX.only ho (by simp)).kp
theorem rest12_ok(w W:World)(A:Act)(a b:Sh)(met:Bool)(g:Gp)(B2 B3 B4 B6 Bl D:Nat)(hsz:A.tmps.size=94)(hd:A.defers=[{ target:=.collected D,args:=#[] }])(h2:A.tmps.getD 2 undef=ptrA B2)(h3:A.tmps.getD 3 undef=ptrA B3)(h4:A.tmps.getD 4 undef=ptrA B4)(h6:A.tmps.getD 6 undef=ptrA B6)(h8:A.tmps.getD 8 undef=lsF Bl)
  (g2:FpAt W B2 (shL a)) (g3:FpAt W B3 (shL b)) (g4:W.heap[B4]? = some (.cells zGp.toArray 42)) (g6:W.heap[B6]? = some (.cells #[.bool met] 4)) (gl:met=false->GpAt W Bl g) (hx:Ext w W) (hB4:w.heap.size<=B4) (hD:W.heap[D]? = some (.deferred (some []))) (hDw:w.heap.size<=D) :
  rest12.wp Tryz.prog (Exit.noGoto (bodyPostM Fence.wide 6 Tryz.prog Tryz.f14 (OfPost w (if met=true then ⟨true,zrt a b,Sp.no,Sp.no⟩ else { g with d:=(plusR g.d (sumR a b)).1 }) true))) A W:=by
 have hne:D≠B4:=fun e=>by rw[e,g4] at hD;cases hD
 rw[rest12_eq]
 have d12:gR 12=[gO 12 0]:=by kernel_rfl
 have e12:(gO 12 0).dst=some 63:=by kernel_rfl
 have r12':∀Q':Act->World->Prop,Q' (A.put (some 63) (.bool met)) W->WpS Tryz.prog (gR 12).toArray Q' (gR 12) A W:=fun Q' hq=>by
  rw[show WpS Tryz.prog (gR 12).toArray Q' (gR 12) A W=WpS Tryz.prog (gR 12).toArray Q' [gO 12 0] A W by rw[<- d12]]
  refine wpS_val (x:=.bool met) (W:=W) (by kernel_rfl) ?_ ?_
  ·have := ex_load (P := Tryz.prog) (o := gO 12 0) (a := A) (w := W) (t := 4) (x := .tmp 6) (j := 0) (n := 1) (b := false) (cs := [.bool met]) (by kernel_rfl) h6 g6 (by kernel_rfl) (by kernel_rfl) (by simp) (fun _ => rfl)
   exact this
  ·rw[e12];exact hq
 have s1:(A.put (some 63) (.bool met)).tmps.size=94:=by simp[Act.put,hsz]
 have e63:(A.put (some 63) (.bool met)).eval (.tmp 63)=.bool met:=put_lt (by rw[hsz];decide)
 refine wp_seq (wp_seq (wp_region_lit (WpS.wp (r12' _ ?_))))
 cases met with
 | true =>
  rw[if_pos rfl]
  refine wp_cond_true e63 (wp_seq (r13 _ W a b B2 B3 _ s1 (by rw[put_ne (by decide)];exact h2) (by rw[put_ne (by decide)];exact h3) g2 g3 fun a1 W1 s2 df1 of1 x1 hp=>?_))
  obtain⟨p,p1,p2⟩:=hp
  refine wp_seq (wp_region_lit (WpS.wp (r14 a1 W1 _ B4 p _ s2 (by rw[of1 4 (by kernel_rfl),put_ne (by decide)];exact h4) p1 p2 (heap_ext g4 x1) fun a2 W2 W3 vs x2 hc hr=>wp_ret ?_)))
  have xx:=Ext.step x1 x2
  exact ret12 (hr.df.trans (df1.trans hd)) hr.t4 hr.t5 hr.c (hc.only hr.on (heap_ext g4 xx)) ((Ext.step hx xx).trans (hr.on.below hB4)) ((hr.on.block D hne).trans (heap_ext hD xx)) hDw
 | false =>
  rw[if_neg (by decide)]
  refine wp_cond_false e63 (wp_skip ?_)
  refine wp_seq (wp_region_lit (WpS.wp (r15 _ W g a b B2 B3 Bl _ s1 (by rw[put_ne (by decide)];exact h8) (by rw[put_ne (by decide)];exact h2) (by rw[put_ne (by decide)];exact h3) g2 g3 (gl rfl) fun a1 V1 W1 x1 hJ1 of1=>?_)))
  refine wp_seq (wp_region_lit (WpS.wp (r16 _ V1 W1 g a b _ (show JJ V1 (mkS 94 (dG g a b)) (dfA [] (dfA _ a1)) W1 from ?_) fun a2 W2 hJ2 of2=>?_)))
  ·obtain ⟨r, cm, hj⟩ := hJ1
   exact⟨r,cm,⟨hj.1.1,rfl⟩,hj.2⟩
  refine wp_seq (wp_region_lit (WpS.wp (r17 _ V1 W2 _ a b B4 _ (show JJ V1 (mkS 94 (dG { g with d:=(plusR g.d (sumR a b)).1 } a b)) (dfA [] (dfA _ a2)) W2 from ?_) ?_ (heap_ext g4 x1) fun a3 W3 W4 vs x3 hc hr=>wp_ret ?_)))
  ·obtain ⟨r, cm, hj⟩ := hJ2
   exact⟨r,cm,⟨hj.1.1,rfl⟩,hj.2⟩
  ·show a2.tmps.getD 4 undef = _
   rw[of2 4 (by kernel_rfl)]
   show a1.tmps.getD 4 undef=_
   rw[of1 4 (by kernel_rfl),put_ne (by decide)]
   exact h4
  have xx:=Ext.step x1 x3
  exact ret12 (hr.df.trans hd) hr.t4 hr.t5 hr.c (hc.only hr.on (heap_ext g4 xx)) ((Ext.step hx xx).trans (hr.on.below hB4)) ((hr.on.block D hne).trans (heap_ext hD xx)) hDw
end
def eT(s:Sh)(i:Nat):Ed:=if i<s.n then s.e i else ⟨0,0,0,0,0,0,0⟩
theorem eT_I{W:World}{s:Sh}{p:Option Addr}{c:Nat}(h:ShAt W s p c)(i:Nat):EdI (eT s i):=by
 unfold eT
 split
 ·rename_i hi
  obtain⟨_,_,_,_,_,h3⟩:=h.row
  obtain⟨g',o,xs,T,k1,k2,k3,cs,d,k4,k5⟩:=h3 i hi
  obtain⟨_,_,rfl,⟨rfl,_,a0⟩,_,_,rfl,⟨rfl,_,a1⟩,_,_,rfl,⟨rfl,_,a2⟩,_,_,rfl,⟨rfl,_,a3⟩,_,_,rfl,⟨rfl,_,a4⟩,_,_,rfl,⟨rfl,_,a5⟩,_,_,rfl,⟨rfl,_,a6⟩,rfl⟩:=k5
  exact⟨a0,a1,a2,a3,a4,a5,a6⟩
 ·have z : I64 0 := by unfold I64; omega
  exact⟨z,z,z,z,z,z,z⟩
theorem eT_row{v:Nat}{W:World}{s:Sh}{p:Option Addr}(h:EdRow v W p s.n s.e):EdRow v W p s.n (eT s):=fun i hi=>by
 obtain⟨g,o,h1,h2,h3⟩:=h i hi
 exact⟨g,o,h1,h2,by unfold eT;rw[if_pos hi];exact h3⟩
def cndT(a b:Sh)(i:Nat):Pr:=edgesR (eT a (i/b.n)) (eT b (i%b.n))
def sepT(a b:Sh)(i:Nat):Bool:=countE (eT a (i/b.n)) (eT b (i%b.n))==0
theorem eT_at{a b:Sh}{i:Nat}(hi:i<a.n*b.n):eT a (i/b.n)=a.e (i/b.n)/\eT b (i%b.n)=b.e (i%b.n):=by
 have hb:0<b.n:=Nat.pos_of_ne_zero fun e=>by rw[e,Nat.mul_zero] at hi;omega
 unfold eT
 rw[if_pos ((Nat.div_lt_iff_lt_mul hb).2 hi),if_pos (Nat.mod_lt _ hb)]
 exact⟨rfl,rfl⟩
theorem cndT_at{a b:Sh}{i:Nat}(hi:i<a.n*b.n):cndT a b i=cnd a b i:=by
 obtain⟨h1,h2⟩:=eT_at hi
 unfold cndT cnd
 rw[h1,h2]
theorem sepT_at{a b:Sh}{i:Nat}(hi:i<a.n*b.n):sepT a b i=sep a b i:=by
 obtain⟨h1,h2⟩:=eT_at hi
 unfold sepT sep
 rw[h1,h2]
def gapS(c:Nat->Pr)(l:List Nat):Bool×Gp:=l.foldl (fun s x=>(true,if (!s.1||decide (cmpRt (c x).d s.2.d<0))=true then (c x).gp else s.2)) (false,Gp.no)
theorem gapS_snoc(c:Nat->Pr)(l:List Nat)(x:Nat):gapS c (l++[x])=(true,if (!(gapS c l).1||decide (cmpRt (c x).d (gapS c l).2.d<0))=true then (c x).gp else (gapS c l).2):=by
 unfold gapS
 rw[List.foldl_append]
 rfl
theorem gapS_up(c c':Nat->Pr):∀k,(∀i,i<k->c i=c' i)->gapS c (upT k)=(!(k==0),gapK c' k)
 | 0,_=>rfl
 | k+1,h=>by
  rw[upT_succ,gapS_snoc,gapS_up c c' k fun i hi=>h i (by omega),h k (by omega)]
  simp only[Bool.not_not]
  rfl
structure LI (w W:World) (a b:Sh) (p q:Option Addr) (c d B6 B7 Bs Bl:Nat) (m:Bool):Prop where
 ps:PS w W a b p q c d
 b6:W.heap[B6]? = some (.cells #[.bool m] 4)
 b7:W.heap[B7]? = some (.cells #[kpF Bs Bl] 85)
theorem LI.kp{w W W':World}{a b:Sh}{p q:Option Addr}{c d B6 B7 Bs Bl:Nat}{m:Bool}(h:LI w W a b p q c d B6 B7 Bs Bl m)(hk:KpP [] W W')(hx:Ext w W'):LI w W' a b p q c d B6 B7 Bs Bl m :=
 ⟨⟨hx,hk.same _ _ h.ps.b2 rfl (by simp),hk.same _ _ h.ps.b3 rfl (by simp),hk.same _ _ h.ps.b4 rfl (by simp)⟩,hk.same _ _ h.b6 rfl (by simp),hk.same _ _ h.b7 rfl (by simp)⟩
theorem kp_grown{W W':World}{row:Option Nat}(hg:W.grownBy W' row)(hr:∀r,row=some r->∃o:Obj,W.heap[r]? = some o/\o.isCells=false):KpP [] W W':=⟨hg.size,fun _ _ hk ho _=>(grownBy_keeps_cells hg hr hk ho).trans hk⟩
theorem KpP.mono{X Y:List Nat}{A B:World}(h:KpP X A B)(hs:∀x∈X,x∈Y):KpP Y A B:=⟨h.size,fun k o hk ho hx=>h.same k o hk ho fun g=>hx (hs k g)⟩
theorem GpAt.kp{W W':World}{B:Nat}{g:Gp}(h:GpAt W B g)(hk:KpP [] W W'):GpAt W' B g:=by
 obtain⟨cs,h1,h2⟩:=h
 exact⟨cs,hk.same _ _ h1 rfl (by simp),h2.kp (X:=[]) (fun x hx=>by simp at hx) hk⟩
theorem ext_grown{w W W':World}{row:Option Nat}{B:Nat}(hx:Ext w W)(hg:W.grownBy W' row)(hB:w.heap.size<=B)(hr:∀r,row=some r->B<=r):Ext w W':=hx.trans ((Below.refl _ W).grown hg hx.size fun k e=>by have:=hr k e;omega)
structure RI (w w3:World) (a b:Sh) (p q:Option Addr) (c d B6 B7 Bs Bl:Nat) (m0:Bool) (pre:List Nat) (W:World):Prop where
 li:LI w W a b p q c d B6 B7 Bs Bl m0
 bs:W.heap[Bs]? = some (.cells #[.bool (gapS (cndT a b) pre).1] 4)
 bl:GpAt W Bl (gapS (cndT a b) pre).2
 sz:w3.heap.size<=W.heap.size
 m:pre ≠ []->m0=false
 sp:∀i∈pre,sepT a b i=true
theorem RI.own(w w3:World)(a b:Sh)(p q:Option Addr)(c d B6 B7 Bs Bl:Nat)(m0:Bool)(h3:w.heap.size<=w3.heap.size):OwnFrom w3.heap.size (RI w w3 a b p q c d B6 B7 Bs Bl m0):=fun _ A B row hs hg hr=>by
 have kp:=kp_grown hg fun r e=>(hr r e).2
 exact⟨hs.li.kp kp (ext_grown hs.li.ps.ex hg h3 fun r e=>(hr r e).1),kp.same _ _ hs.bs rfl (by simp),hs.bl.kp kp,Nat.le_trans hs.sz hg.size,hs.m,hs.sp⟩
structure XI (w w3:World) (a b:Sh) (p q:Option Addr) (c d B6 B7 Bs Bl:Nat) (m0:Bool) (cc:Code) (pre:List Nat) (W:World):Prop where
 cc:cc=.exit 0
 li:LI w W a b p q c d B6 B7 Bs Bl true
 sz:w3.heap.size<=W.heap.size
 why:m0=true\/∃i∈pre,sepT a b i=false
theorem XI.own(w w3:World)(a b:Sh)(p q:Option Addr)(c d B6 B7 Bs Bl:Nat)(m0:Bool)(cc:Code)(h3:w.heap.size<=w3.heap.size):OwnFrom w3.heap.size (XI w w3 a b p q c d B6 B7 Bs Bl m0 cc):=fun _ A B row hs hg hr=>by
 have kp:=kp_grown hg fun r e=>(hr r e).2
 exact⟨hs.cc,hs.li.kp kp (ext_grown hs.li.ps.ex hg h3 fun r e=>(hr r e).1),Nat.le_trans hs.sz hg.size,hs.why⟩
def AI(w3:World)(a b:Sh)(B6 B7:Nat)(x:Nat)(a':Act)(W:World):Prop:=∃P9 P10,a'.tmps.size=94/\a'.tmps.getD 6 undef=ptrA B6/\a'.tmps.getD 7 undef=ptrA B7/\a'.tmps.getD 9 undef=ptrA P9/\a'.tmps.getD 10 undef=ptrA P10/\(w3.heap.size<=P9/\w3.heap.size<=P10) /\
 W.heap[P9]? = some (.cells (edL (eT a (x/b.n))).toArray 70)/\W.heap[P10]? = some (.cells (edL (eT b (x%b.n))).toArray 70)
theorem AI.own(w3:World)(a b:Sh)(B6 B7:Nat)(x:Nat)(a':Act):OwnFrom w3.heap.size (fun (_:Unit) W=>AI w3 a b B6 B7 x a' W):=fun _ A B row ⟨P9,P10,s,h6,h7,h9,h10,hl,g9,g10⟩ hg hr=>by
 have kp:=kp_grown hg fun r e=>(hr r e).2
 exact⟨P9,P10,s,h6,h7,h9,h10,hl,kp.same _ _ g9 rfl (by simp),kp.same _ _ g10 rfl (by simp)⟩
theorem round_ok{w w3:World}{a b:Sh}{p q:Option Addr}{c d B6 B7 Bs Bl:Nat}{m0:Bool}(ha:ShAt w a p c)(hb:ShAt w b q d)(h3:w.heap.size+1+1<B6/\B6<Bl/\Bl<Bs/\Bs<B7/\B7<w3.heap.size)(l m:Nat)(pre:List Nat)(x:Nat)(a':Act)(W:World)(hI:RI w w3 a b p q c d B6 B7 Bs Bl m0 pre W)(hA:AI w3 a b B6 B7 x a' W) :
  rfBody.wpIn (Fence.wide.inRound l) m Tryz.prog (ownPostG w3.heap.size (KpP [B6,Bs,Bl]) (RI w w3 a b p q c d B6 B7 Bs Bl m0) (XI w w3 a b p q c d B6 B7 Bs Bl m0) (pre++[x]) W) a' W:=by
 obtain⟨P9,P10,s,h6,h7,h9,h10,⟨l9,l10⟩,g9,g10⟩:=hA
 obtain⟨k1,k2,k3,k4,k5⟩:=h3
 have hX:∀k ∈ [B6,Bs,Bl],∃o,W.heap[k]? = some o/\o.isCells=true:=fun k hk=>by
  simp only[List.mem_cons,List.not_mem_nil,or_false] at hk
  rcases hk with rfl|rfl|rfl
  ·exact⟨_,hI.li.b6,rfl⟩
  ·exact⟨_,hI.bs,rfl⟩
  ·obtain⟨cs,h,_⟩:=hI.bl;exact⟨_,h,rfl⟩
 have li':∀ {W':World} {t:Bool},ButX [B6,Bs,Bl] W W'->W'.heap[B6]? = some (.cells #[.bool t] 4)->LI w W' a b p q c d B6 B7 Bs Bl t:=fun {W' t} hb h=>by
  have no:∀k,(k<B6\/Bs<k)->k ∉ [B6,Bs,Bl]:=fun k hk hm=>by
   simp only[List.mem_cons,List.not_mem_nil,or_false] at hm
   omega
  refine⟨⟨hI.li.ps.ex.trans (hb.below hI.li.ps.ex.size fun x hx=>?_),hb.at hI.li.ps.b2 (no _ (by omega)),hb.at hI.li.ps.b3 (no _ (by omega)),hb.at hI.li.ps.b4 (no _ (by omega))⟩,h,hb.at hI.li.b7 (no _ (by omega))⟩
  simp only[List.mem_cons,List.not_mem_nil,or_false] at hx
  omega
 refine body_ok l m a' W (eT a (x/b.n)) (eT b (x%b.n)) m0 _ _ B6 B7 Bs Bl P9 P10 _ s h6 h7 h9 h10 hI.li.b6 hI.li.b7 g9 g10 (eT_I ha _) (eT_I hb _) hI.bs hI.bl (by omega) (by omega) (by omega) (by omega) (by omega) (by omega) ?_ ?_
 ·intro a2 W' bx h1 h2
  refine⟨bx.keeps _ hX,rfl,li' bx h1,Nat.le_trans hI.sz bx.size,?_⟩
  cases m0 with
  | true=>exact .inl rfl
  | false=>exact .inr ⟨x,by simp,by unfold sepT;simpa using h2⟩
 ·intro a2 W' bx h1 h2 h4 h5
  simp only[Bool.or_eq_false_iff] at h5
  obtain⟨m1,m2⟩:=h5
  subst m1
  refine⟨bx.keeps _ hX,bx.kp,li' bx h1,by rw[gapS_snoc];exact h2,by rw[gapS_snoc];exact h4,Nat.le_trans hI.sz bx.size,fun _=>rfl,fun i hi=>?_⟩
  rcases List.mem_append.1 hi with hi|hi
  ·exact hI.sp i hi
  ·rw[List.mem_singleton.1 hi];unfold sepT;simpa using m2

set_option maxHeartbeats 4000000
set_option maxRecDepth 100000
section
theorem put_size{a:Act}{d:Nat}{v:Value}:(a.put (some d) v).tmps.size=a.tmps.size:=by simp[Act.put]
theorem put_none{a:Act}{v:Value}:a.put none v=a:=rfl
theorem ex_extract{P:Program}{o:Oper}{a:Act}{x:Operand}{j:Nat}{vs:List Value}{v:Value}(ho:o.op=.extract x j)(hx:a.eval x=.tuple vs.toArray)(hv:vs[j]? = some v)(w:World):(execOp a.eval o).run P w=.ok (.value v) w:=by
 refine exec_val (m:=Instr.extract (a.eval x) j) (by unfold execOp;rw[ho]) ?_
 rw[hx]
 simp only[Instr.extract,List.getElem?_toArray,hv,Sem.run_pure]
theorem ex_alloc{P:Program}{o:Oper}{a:Act}{t:TypeId}{i:TypeInfo}{z:Value}(ho:o.op=.alloc t)(hi:P.info? t=some i)(hz:i.zero=some z)(w:World):(execOp a.eval o).run P w=.ok (.value (ptrA w.heap.size)) (w.alloc (.cells z.cells t)) :=
 exec_val (m:=Instr.alloc t true (.tuple #[])) (by unfold execOp;rw[ho]) (run_allocA hi hz w)
theorem info_of{P:Program}{t:TypeId}{z:Value}(h:((P.info? t).bind (·.zero))=some z):∃i,P.info? t=some i/\i.zero=some z:=by
 cases hi:P.info? t with
 | none=>rw[hi] at h;cases h
 | some i=>rw[hi] at h;exact⟨i,rfl,h⟩
theorem al_sto{ops:Array Oper}{o1 o2:Oper}{l:List Oper}(a:Act)(W:World)(t n d s:Nat)(z:Value)(old vs:List Value)(Q:Act->World->Prop)(h1:o1.op=.alloc t)(h2:o2.op=.store t (.tmp d) (.tmp s))(d1:o1.dst=some d)(d2:o2.dst=none)(g1:o1.guard=none)(g2:o2.guard=none)(hi:((Tryz.prog.info? t).bind (·.zero))=some z)(hz:z.cells=old.toArray)(hn:szT Tryz.prog t=some n)(ho:old.length=n)(hd:d<a.tmps.size)(hds:d≠s)
  (hs:(a.tmps.getD s undef).cells=vs.toArray) (hl:vs.length=n) (hv:∀v∈vs,v.oneCell'=true) (hQ:∀W',Ext W W'->W.heap.size<W'.heap.size->W'.heap[W.heap.size]? = some (.cells vs.toArray t)->WpS Tryz.prog ops Q l (a.put (some d) (ptrA W.heap.size)) W'):WpS Tryz.prog ops Q (o1::o2::l) a W:=by
 obtain⟨i,i1,i2⟩:=info_of hi
 refine wpS_val (by unfold Region.wanted;rw[g1]) (ex_alloc h1 i1 i2 W) ?_
 rw[d1,hz]
 have hg:(W.alloc (.cells old.toArray t)).heap[W.heap.size]? = some (.cells old.toArray t):=World.alloc_heap_new _ _
 obtain⟨k1,k2⟩:=onlyB_setRow (cs':=(old.take 0++(vs++old.drop (0+vs.length))).toArray) hg
 have ec:(old.take 0++(vs++old.drop (0+vs.length)))=vs:=by rw[List.take_zero,List.nil_append,Nat.zero_add,List.drop_eq_nil_of_le (by omega),List.append_nil]
 refine wpS_skip (W:=(W.alloc (.cells old.toArray t)).setRow W.heap.size (old.take 0++(vs++old.drop (0+vs.length))).toArray) (by unfold Region.wanted;rw[g2]) ?_ ?_
 ·exact ex_store h2 (show (a.put (some d) (ptrA W.heap.size)).tmps.getD d undef=_ from put_lt hd) hg (by rw[show (a.put (some d) (ptrA W.heap.size)).eval (.tmp s)=(a.put (some d) (ptrA W.heap.size)).tmps.getD s undef from rfl,put_ne hds];exact hs) hn hl (by omega) hv
 ·rw [d2, put_none]
  have hx:Ext W ((W.alloc (.cells old.toArray t)).setRow W.heap.size (old.take 0++(vs++old.drop (0+vs.length))).toArray):=(below_alloc W _).trans (k1.below (Nat.le_refl _))
  exact hQ _ hx (by rw[k1.size];simp) (by rw[k2,ec])
theorem r4(a:Act)(W:World)(Q:Act->World->Prop)(hsz:a.tmps.size=94)
  (hQ:∀a' W1 W2,a'.tmps.size=94->a'.defers=a.defers->(∀t,35≠t->34≠t->36≠t->37≠t->7≠t->8≠t->a'.tmps.getD t undef=a.tmps.getD t undef)->a'.tmps.getD 7 undef=ptrA W1.heap.size->a'.tmps.getD 8 undef=lsF W.heap.size->Ext W W1->Ext W1 W2->W1.heap[W.heap.size+1]? = some (.cells #[.bool false] 4)->W1.heap[W.heap.size]? = some (.cells zGp.toArray 42)->W2.heap[W1.heap.size]? = some (.cells #[kpF (W.heap.size+1) W.heap.size] 85)->Q a' W2):WpS Tryz.prog (gR 4).toArray Q (gR 4) a W:=by
 have es:gR 4=[gO 4 0,gO 4 1,gO 4 2,gO 4 3,gO 4 4,gO 4 5,gO 4 6]:=by kernel_rfl
 have d0:(gO 4 0).dst=some 35:=by kernel_rfl
 have d1:(gO 4 1).dst=some 34:=by kernel_rfl
 have d2:(gO 4 2).dst=some 36:=by kernel_rfl
 have d3:(gO 4 3).dst=some 37:=by kernel_rfl
 have d6:(gO 4 6).dst=some 8:=by kernel_rfl
 rw[show WpS Tryz.prog (gR 4).toArray Q (gR 4) a W=WpS Tryz.prog (gR 4).toArray Q [gO 4 0,gO 4 1,gO 4 2,gO 4 3,gO 4 4,gO 4 5,gO 4 6] a W by rw[<- es]]
 have en:(execOp a.eval (gO 4 0)).run Tryz.prog W=.ok (.enter 48 #[]) W:=by
  simpa using run_enter (P:=Tryz.prog) (o:=gO 4 0) (a:=a) (f:=48) (x:=.func 48) (caps:=#[]) (cl:={ callee:=.value (.func 48),args:=#[],argTypes:=#[] }) prog_nm Tryz.func48 rfl (by kernel_rfl) rfl rfl W
 refine wpS_call (by kernel_rfl) en (gap_nearest W) (fun e W h=>⟨_,h.1⟩) fun v W1 ⟨e,hx1,hs,hl⟩=>?_
 cases e
 rw[d0]
 refine wpS_val (by kernel_rfl) (ex_move (x:=.tmp 35) (by kernel_rfl) W1) ?_
 rw[d1,show (a.put (some 35) _).eval (.tmp 35)=_ from put_lt (by rw[hsz];decide)]
 refine wpS_val (by kernel_rfl) (ex_extract (x:=.tmp 34) (j:=0) (vs:=[kpF (W.heap.size+1) W.heap.size,lsF W.heap.size]) (by kernel_rfl) (put_lt (by simp[put_size,hsz])) rfl W1) ?_
 rw[d2]
 refine wpS_val (by kernel_rfl) (ex_extract (x:=.tmp 34) (j:=1) (vs:=[kpF (W.heap.size+1) W.heap.size,lsF W.heap.size]) (by kernel_rfl) (by rw[show ∀b:Act,b.eval (.tmp 34)=b.tmps.getD 34 undef from fun _=>rfl,put_ne (show 36≠34 by decide)];exact put_lt (by simp[put_size,hsz])) rfl W1) ?_
 rw[d3]
 refine al_sto _ W1 85 1 7 36 .nilFunc [.nilFunc] [kpF (W.heap.size+1) W.heap.size] Q (by kernel_rfl) (by kernel_rfl) (by kernel_rfl) (by kernel_rfl) (by kernel_rfl) (by kernel_rfl) (by kernel_rfl) (by kernel_rfl) (by kernel_rfl) rfl (by simp[put_size,hsz]) (by decide) (by rw[put_ne (show 37≠36 by decide),put_lt (by simp[put_size,hsz])];rfl) rfl (fun v hv=>by rw[List.mem_singleton.1 hv];rfl) fun W2 hx2 hlt h7=>?_
 refine wpS_val (by kernel_rfl) (ex_assign (x:=.tmp 37) (by kernel_rfl) W2) ?_
 rw[d6]
 refine hQ _ W1 W2 (by simp[put_size,hsz]) rfl (fun t n1 n2 n3 n4 n5 n6=>?_) (by rw[put_ne (show 8≠7 by decide)];exact put_lt (by simp[put_size,hsz])) ?_ hx1 hx2 hs hl h7
 ·rw[put_ne n6,put_ne n5,put_ne n4,put_ne n3,put_ne n2,put_ne n1]
 ·rw [put_lt (by simp [put_size, hsz])]
  show (Act.put _ (some 7) _).tmps.getD 37 undef=_
  rw[put_ne (show 7≠37 by decide),put_lt (by simp[put_size,hsz])]
end

set_option maxHeartbeats 4000000
set_option maxRecDepth 100000
section
theorem r5(a:Act)(W:World)(s u:Sh)(p q:Option Addr)(c d B2 B3:Nat)(Q:Act->World->Prop)(hsz:a.tmps.size=94)(h2:a.tmps.getD 2 undef=ptrA B2)(h3:a.tmps.getD 3 undef=ptrA B3)(g2:W.heap[B2]? = some (.cells (shC3 s p c) 24))(g3:W.heap[B3]? = some (.cells (shC3 u q d) 24))
  (hQ:∀a' W',a'.tmps.size=94->a'.defers=a.defers->(∀t,38≠t->39≠t->40≠t->a'.tmps.getD t undef=a.tmps.getD t undef)->a'.tmps.getD 40 undef=.func (.func 90) #[] #[ptrA W.heap.size,ptrA (W.heap.size+1)]->Ext W W'->W'.cell? ⟨W.heap.size,1,none⟩=some (.slice p s.n c)->W'.cell? ⟨W.heap.size+1,1,none⟩=some (.slice q u.n d)->W.heap.size+1<W'.heap.size->Q a' W'):WpS Tryz.prog (gR 5).toArray Q (gR 5) a W:=by
 have es:gR 5=[gO 5 0,gO 5 1,gO 5 2]:=by kernel_rfl
 have d0:(gO 5 0).dst=some 38:=by kernel_rfl
 have d1:(gO 5 1).dst=some 39:=by kernel_rfl
 have d2:(gO 5 2).dst=some 40:=by kernel_rfl
 rw[show WpS Tryz.prog (gR 5).toArray Q (gR 5) a W=WpS Tryz.prog (gR 5).toArray Q [gO 5 0,gO 5 1,gO 5 2] a W by rw[<- es]]
 have v1:=ex_load (P:=Tryz.prog) (o:=gO 5 0) (a:=a) (w:=W) (t:=24) (x:=.tmp 2) (j:=0) (n:=3) (b:=true) (cs:=(shC3 s p c).toList) (by kernel_rfl) h2 (by simpa using g2) (by kernel_rfl) (by kernel_rfl) (by simp[shC3]) nofun
 refine wpS_val (x:=.agg (shC3 s p c)) (W:=W) (by kernel_rfl) v1 ?_
 rw[d0]
 have v2:=ex_load (P:=Tryz.prog) (o:=gO 5 1) (a:=a.put (some 38) (.agg (shC3 s p c))) (w:=W) (t:=24) (x:=.tmp 3) (j:=0) (n:=3) (b:=true) (cs:=(shC3 u q d).toList) (by kernel_rfl) (show (a.put (some 38) (.agg (shC3 s p c))).tmps.getD 3 undef=_ by rw[put_ne (show 38≠3 by decide)];exact h3) (by simpa using g3) (by kernel_rfl) (by kernel_rfl) (by simp[shC3]) nofun
 refine wpS_val (x:=.agg (shC3 u q d)) (W:=W) (by kernel_rfl) v2 ?_
 rw[d1]
 have en:(execOp ((a.put (some 38) (.agg (shC3 s p c))).put (some 39) (.agg (shC3 u q d))).eval (gO 5 2)).run Tryz.prog W=.ok (.enter 49 #[.agg (shC3 s p c),.agg (shC3 u q d)]) W:=by
  have:=run_enter (P:=Tryz.prog) (o:=gO 5 2) (a:=(a.put (some 38) (.agg (shC3 s p c))).put (some 39) (.agg (shC3 u q d))) (f:=49) (x:=.func 49) (caps:=#[]) (cl:={ callee:=.value (.func 49),args:=#[.tmp 38,.tmp 39],argTypes:=#[24,24] }) prog_nm Tryz.func49 rfl (by kernel_rfl) rfl rfl W
  rw[this]
  simp only[List.map_toArray,List.map_cons,List.map_nil]
  rw[show ((a.put (some 38) (.agg (shC3 s p c))).put (some 39) (.agg (shC3 u q d))).eval (.tmp 38)=.agg (shC3 s p c) from (put_ne (by decide)).trans (put_lt (by rw[hsz];decide)),show ((a.put (some 38) (.agg (shC3 s p c))).put (some 39) (.agg (shC3 u q d))).eval (.tmp 39)=.agg (shC3 u q d) from put_lt (by rw[put_size,hsz];decide)]
  rfl
 refine wpS_call (by kernel_rfl) en (gap_pairs s.k s.r u.k u.r p q s.n c u.n d W) (fun e W h=>⟨_,h.1⟩) fun v W1 ⟨e,hx1,c0,c1,hz⟩=>?_
 cases e
 rw[d2]
 exact hQ _ W1 (by rw[put_size,put_size,put_size,hsz]) rfl (fun t n1 n2 n3=>by rw[put_ne n3,put_ne n2,put_ne n1]) (put_lt (by rw[put_size,put_size,hsz];decide)) hx1 c0 c1 hz
theorem edL_one(e:Ed):∀v∈edL e,v.oneCell'=true:=fun v hv=>by
 simp only[edL,List.mem_cons,List.not_mem_nil,or_false] at hv
 rcases hv with rfl|rfl|rfl|rfl|rfl|rfl|rfl<;>rfl
theorem r6(a:Act)(W:World)(x:Ed)(Q:Act->World->Prop)(hsz:a.tmps.size=94)(h41:a.tmps.getD 41 undef=edA x)(hQ:∀W',Ext W W'->W.heap.size<W'.heap.size->W'.heap[W.heap.size]? = some (.cells (edL x).toArray 70)->Q (a.put (some 9) (ptrA W.heap.size)) W'):WpS Tryz.prog (gR 6).toArray Q (gR 6) a W:=by
 have es:gR 6=[gO 6 0,gO 6 1]:=by kernel_rfl
 rw[show WpS Tryz.prog (gR 6).toArray Q (gR 6) a W=WpS Tryz.prog (gR 6).toArray Q [gO 6 0,gO 6 1] a W by rw[<- es]]
 exact al_sto a W 70 7 9 41 (.agg #[.int .i64 0,.int .i64 0,.int .i64 0,.int .i64 0,.int .i64 0,.int .i64 0,.int .i64 0]) [.int .i64 0,.int .i64 0,.int .i64 0,.int .i64 0,.int .i64 0,.int .i64 0,.int .i64 0] (edL x) Q (by kernel_rfl) (by kernel_rfl) (by kernel_rfl) (by kernel_rfl) (by kernel_rfl) (by kernel_rfl) (by kernel_rfl) rfl (by kernel_rfl) rfl (by rw[hsz];decide) (by decide) (by rw[h41];rfl) rfl (edL_one x) hQ
theorem r7(a:Act)(W:World)(x:Ed)(Q:Act->World->Prop)(hsz:a.tmps.size=94)(h42:a.tmps.getD 42 undef=edA x)(hQ:∀W',Ext W W'->W.heap.size<W'.heap.size->W'.heap[W.heap.size]? = some (.cells (edL x).toArray 70)->Q (a.put (some 10) (ptrA W.heap.size)) W'):WpS Tryz.prog (gR 7).toArray Q (gR 7) a W:=by
 have es:gR 7=[gO 7 0,gO 7 1]:=by kernel_rfl
 rw[show WpS Tryz.prog (gR 7).toArray Q (gR 7) a W=WpS Tryz.prog (gR 7).toArray Q [gO 7 0,gO 7 1] a W by rw[<- es]]
 exact al_sto a W 70 7 10 42 (.agg #[.int .i64 0,.int .i64 0,.int .i64 0,.int .i64 0,.int .i64 0,.int .i64 0,.int .i64 0]) [.int .i64 0,.int .i64 0,.int .i64 0,.int .i64 0,.int .i64 0,.int .i64 0,.int .i64 0] (edL x) Q (by kernel_rfl) (by kernel_rfl) (by kernel_rfl) (by kernel_rfl) (by kernel_rfl) (by kernel_rfl) (by kernel_rfl) rfl (by kernel_rfl) rfl (by rw[hsz];decide) (by decide) (by rw[h42];rfl) rfl (edL_one x) hQ
end

set_option maxHeartbeats 4000000
set_option maxRecDepth 100000
section
open Go.RowKit Go.Shelf
theorem rowG_ed{W:World}{n:Nat}{e:Nat->Ed}{v:Value}(h:RowC (RepF W) W 7 n (fun i=>edI (e i)) v):RowC (RepG W) W 7 n (fun i=>edI (e i)) v:=by
 obtain⟨a,c,e1,h1,h2,h3⟩:=h
 refine⟨a,c,e1,h1,h2,fun i hi=>?_⟩
 obtain⟨g,o,xs,T,k1,k2,k3,cs,d,k4,k5⟩:=h3 i hi
 obtain⟨c0,d0,e0,a0,c1,d1,e1,a1,c2,d2,e2,a2,c3,d3,e3,a3,c4,d4,e4,a4,c5,d5,e5,a5,c6,d6,e6,a6,e7⟩:=k5
 exact⟨g,o,xs,T,k1,k2,k3,cs,d,k4,c0,d0,e0,a0,c1,d1,e1,a1,c2,d2,e2,a2,c3,d3,e3,a3,c4,d4,e4,a4,c5,d5,e5,a5,c6,d6,e6,a6,e7⟩
theorem ShAt.repF{W:World}{s:Sh}{p:Option Addr}{c:Nat}(h:ShAt W s p c):RepF W (shL s) [.int .i64 s.k,.slice p s.n c,.int .i64 s.r] :=
 ⟨[_],_,rfl,⟨rfl,i64_lim h.k,h.k⟩,[_],_,rfl,⟨_,rfl,rowG_ed h.row⟩,[_],[],rfl,⟨rfl,i64_lim h.r,h.r⟩,rfl⟩
theorem rest4_eq:rest4=.seq (.region 4 (gR 4).toArray false) (.seq (.label 0) (.seq (.seq (.region 5 (gR 5).toArray false) (.block 0 (.rangeFunc (.tmp 40) #[41,42] (.seq (.region 6 (gR 6).toArray false) (.region 7 (gR 7).toArray false)) rfBody))) rest12)):=by kernel_rfl
def ofG(a b:Sh):Gp:=if metB a b=true then metR a b else { gapK (cnd a b) (a.n*b.n) with d:=(plusR (gapK (cnd a b) (a.n*b.n)).d (sumR a b)).1 }
theorem kp_obj{X:List Nat}{W:World}{l:Nat}{o o':Obj}(h:W.heap[l]? = some o)(ho:o.isCells=false):KpP X W (W.putObj l o'):=(kp_put h ho).mono (fun x hx=>by simp at hx)
theorem rest4_ok(w W:World)(A:Act)(a b:Sh)(p q:Option Addr)(c d B6:Nat)(m0:Bool)(ha:ShAt w a p c)(hb:ShAt w b q d)(na:1<=a.n/\a.n<=1000)(nb:1<=b.n/\b.n<=1000)(hm:(aroB a b||aroB b a)=m0)(hsz:A.tmps.size=94)(hd:A.defers=[])
  (h2:A.tmps.getD 2 undef=ptrA w.heap.size) (h3:A.tmps.getD 3 undef=ptrA (w.heap.size+1)) (h4:A.tmps.getD 4 undef=ptrA (w.heap.size+1+1)) (h6:A.tmps.getD 6 undef=ptrA B6) (ps:PS w W a b p q c d) (g6:W.heap[B6]? = some (.cells #[.bool m0] 4)) (hB6:w.heap.size+1+1<B6) :
  rest4.wp Tryz.prog (Exit.noGoto (bodyPostM Fence.wide 6 Tryz.prog Tryz.f14 (OfPost w (ofG a b) true))) A W:=by
 rw[rest4_eq]
 refine wp_seq (wp_region_lit (WpS.wp (r4 A W _ hsz fun a1 W1 W2 s1 df1 of1 e7 e8 x1 x2 cs cl c7=>?_)))
 refine wp_seq (wp_label ?_)
 have x12:=Ext.step x1 x2
 have ps2:=ps.step x12
 refine wp_seq (wp_seq (wp_region_lit (WpS.wp (r5 a1 W2 a b p q c d w.heap.size (w.heap.size+1) _ s1 (by rw[of1 2 (by decide) (by decide) (by decide) (by decide) (by decide) (by decide)];exact h2) (by rw[of1 3 (by decide) (by decide) (by decide) (by decide) (by decide) (by decide)];exact h3) ps2.b2 ps2.b3 fun a2 W3 s2 df2 of2 e40 x3 c0 c1 hz=>?_))))
 have of12:∀t,35≠t->34≠t->36≠t->37≠t->7≠t->8≠t->38≠t->39≠t->40≠t->a2.tmps.getD t undef=A.tmps.getD t undef:=fun t n1 n2 n3 n4 n5 n6 n7 n8 n9=>by rw[of2 t n7 n8 n9,of1 t n1 n2 n3 n4 n5 n6]
 have x13:=Ext.step x12 x3
 have ps3:=ps.step x13
 have zW:B6<W.heap.size:=(Array.getElem?_eq_some_iff.1 g6).1
 have z1:W.heap.size+1<W1.heap.size:=(Array.getElem?_eq_some_iff.1 cs).1
 have z2:W1.heap.size<W2.heap.size:=(Array.getElem?_eq_some_iff.1 c7).1
 have z3:=x3.size
 have zw:=ps.ex.size
 have LI3:LI w W3 a b p q c d B6 W1.heap.size (W.heap.size+1) W.heap.size m0:=⟨ps3,heap_ext g6 x13,heap_ext c7 x3⟩
 have h0:RI w W3 a b p q c d B6 W1.heap.size (W.heap.size+1) W.heap.size m0 [] W3:=⟨LI3,heap_ext cs (Ext.step x2 x3),⟨zGp,heap_ext cl (Ext.step x2 x3),zGpC W3⟩,Nat.le_refl _,fun h=>absurd rfl h,fun i hi=>by cases hi⟩
 have bw:Below w.heap.size w W3:=ps3.ex
 have t2:a2.tmps.getD 2 undef=ptrA w.heap.size:=by rw[of12 2 (by decide) (by decide) (by decide) (by decide) (by decide) (by decide) (by decide) (by decide) (by decide)];exact h2
 have t3:a2.tmps.getD 3 undef=ptrA (w.heap.size+1):=by rw[of12 3 (by decide) (by decide) (by decide) (by decide) (by decide) (by decide) (by decide) (by decide) (by decide)];exact h3
 have t4:a2.tmps.getD 4 undef=ptrA (w.heap.size+1+1):=by rw[of12 4 (by decide) (by decide) (by decide) (by decide) (by decide) (by decide) (by decide) (by decide) (by decide)];exact h4
 have t6:a2.tmps.getD 6 undef=ptrA B6:=by rw[of12 6 (by decide) (by decide) (by decide) (by decide) (by decide) (by decide) (by decide) (by decide) (by decide)];exact h6
 have t7:a2.tmps.getD 7 undef=ptrA W1.heap.size:=by rw[of2 7 (by decide) (by decide) (by decide)];exact e7
 have t8:a2.tmps.getD 8 undef=lsF W.heap.size:=by rw[of2 8 (by decide) (by decide) (by decide)];exact e8
 have fin:∀(D:Nat) (W4:World) (met:Bool) (g:Gp),W3.heap.size<=D->W4.heap[D]? = some (.deferred (some []))->LI w W4 a b p q c d B6 W1.heap.size (W.heap.size+1) W.heap.size met->(met=false->GpAt W4 W.heap.size g)->(if met=true then (⟨true,zrt a b,Sp.no,Sp.no⟩:Gp) else { g with d:=(plusR g.d (sumR a b)).1 })=ofG a b ->
   rest12.wp Tryz.prog (Exit.noGoto (bodyPostM Fence.wide 6 Tryz.prog Tryz.f14 (OfPost w (ofG a b) true))) { a2 with defers:={ target:=.collected D,args:=#[] }::a2.defers } W4:=fun D W4 met g hD hK hl hg he=>by
  have f2:FpAt W4 w.heap.size (shL a):=.of (cs:=(shC3 a p c).toList) (by simpa using hl.ps.b2) (ha.ext hl.ps.ex).repF
  have f3:FpAt W4 (w.heap.size+1) (shL b):=.of (cs:=(shC3 b q d).toList) (by simpa using hl.ps.b3) (hb.ext hl.ps.ex).repF
  rw[<- he]
  exact rest12_ok w W4 _ a b met g w.heap.size (w.heap.size+1) (w.heap.size+1+1) B6 W.heap.size D s2 (by show _::a2.defers=_;rw[df2,df1,hd]) t2 t3 t4 t6 t8 f2 f3 hl.ps.b4 hl.b6 hg hl.ps.ex (by omega) hK (by omega)
 refine wp_block ?_
 refine (wpIn_wide (n:=6)).1 ?_
 refine wpIn_rangeFunc_ownH rfl (by omega) (gf:=90) (lb:=#[ptrA W2.heap.size,ptrA (W2.heap.size+1)]) e40 trivial (enters_of Tryz.func90 (by kernel_rfl) rfl)
  (pairs_stops 5 (by omega) [B6,W.heap.size+1,W.heap.size] a.n b.n (eT a) (eT b) w.heap.size W2.heap.size (W2.heap.size+1) c d p q W3 (by omega) hz (by omega) (fun x hx=>by simp only[List.mem_cons,List.not_mem_nil,or_false] at hx;omega) (fun h=>by simp only[List.mem_cons,List.not_mem_nil,or_false] at h;omega) (fun h=>by simp only[List.mem_cons,List.not_mem_nil,or_false] at h;omega) c0 c1 ((eT_row ha.edr).below bw) ((eT_row hb.edr).below bw) na.2 nb.2) KpP.trans
  (fun W l o o' _ ho hc _=>kp_obj ho hc)
  (Below.refl _ _) (fun _=>rfl)
  (RI w W3 a b p q c d B6 W1.heap.size (W.heap.size+1) W.heap.size m0) (XI w W3 a b p q c d B6 W1.heap.size (W.heap.size+1) W.heap.size m0)
  (RI.own w W3 a b p q c d B6 _ _ _ m0 (by omega)) (fun cc=>XI.own w W3 a b p q c d B6 _ _ _ m0 cc (by omega)) h0
  (AI W3 a b B6 W1.heap.size) (AI.own W3 a b B6 W1.heap.size) ?assign ?body ?done ?stop
 case assign =>
  rintro l pre x V K hI hK
  have e41:(edA (eT a (x/b.n)))=edA (eT a (x/b.n)):=rfl
  refine wpIn_seq (inR (by kernel_rfl) (r6 _ V (eT a (x/b.n)) _ ?_ ?_ fun V1 y1 v1 q1=>?_))
  ·simp[s2]
  ·simp[s2]
  refine inR (by kernel_rfl) (r7 _ V1 (eT b (x%b.n)) _ ?_ ?_ fun V2 y2 v2 q2=>?_)
  ·simp[s2,put_size]
  ·rw[put_ne (by decide)];simp[s2]
  have y12:=Ext.step y1 y2
  have hVs:=hI.sz
  refine hK _ _ (ButX.keeps (X:=[]) (.ext y12) _ (fun x hx=>by simp at hx)) (.ext y12) ?_ ?_
  ·exact⟨hI.li.kp (.ext y12) (Ext.step hI.li.ps.ex y12),heap_ext hI.bs y12,hI.bl.ext y12,Nat.le_trans hVs y12.size,hI.m,hI.sp⟩
  ·refine ⟨V.heap.size, V1.heap.size, ?_, ?_, ?_, ?_, ?_, ⟨by omega, by omega⟩, heap_ext q1 y2, q2⟩
   ·simp[s2,put_size]
   ·rw[put_ne (by decide),put_ne (by decide)];simpa using t6
   ·rw[put_ne (by decide),put_ne (by decide)];simpa using t7
   ·rw[put_ne (by decide)];exact put_lt (by simp[s2])
   ·exact put_lt (by simp[s2,put_size])
 case body =>
  rintro l pre x a' V hl hr hI hA hlen
  exact round_ok ha hb ⟨by omega,by omega,by omega,by omega,by omega⟩ l _ pre x a' V hI hA
 case done =>
  rintro D xs V hD rfl hI hK
  have hne:upT (a.n*b.n) ≠ []:=fun e=>by
   have:=congrArg List.length e
   rw[upT_len] at this
   have:=Nat.mul_pos (show 0<a.n by omega) (show 0<b.n by omega)
   simp at *;omega
  have m1:=hI.m hne
  subst m1
  have hs:allB (sep a b) (a.n*b.n)=true:=allB_t.2 fun k hk=>by rw[<- sepT_at hk];exact hI.sp k (by unfold upT;exact List.mem_range.2 hk)
  have hg:=gapS_up (cndT a b) (cnd a b) (a.n*b.n) fun i hi=>cndT_at hi
  have bl:=hI.bl
  rw[hg] at bl
  refine fin D V false _ hD hK hI.li (fun _=>bl) ?_
  unfold ofG metB
  rw[hm,hs]
  rfl
 case stop =>
  rintro D cc pre V hD ⟨k,hk,rfl⟩ hX hK
  obtain rfl:=hX.cc
  refine wpIn_exit ?_
  refine fin D V true Gp.no hD hK hX.li (fun h=>by cases h) ?_
  have:metB a b=true:=by
   unfold metB
   rcases hX.why with h|⟨i,hi,hs⟩
   ·rw[hm,h];rfl
   ·have hik : i < a.n * b.n := by unfold upT at hi; have := List.mem_range.1 hi; omega
    rw[sepT_at hik] at hs
    cases hA:allB (sep a b) (a.n*b.n) with
    | true=>rw[allB_t.1 hA i hik] at hs;cases hs
    | false=>simp
  unfold ofG
  rw[if_pos rfl,if_pos this]
  rfl
end
end Go.Proofs.YtceemiodpccbhaaGreat
