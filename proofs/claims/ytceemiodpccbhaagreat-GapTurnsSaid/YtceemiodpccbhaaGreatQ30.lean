import Derived.Test.YtceemiodpccbhaaGreatQ29
set_option linter.unusedVariables false
set_option linter.unusedSimpArgs false

namespace Go.Proofs.YtceemiodpccbhaaGreat
open Go.RowKit

set_option maxHeartbeats 4000000
set_option maxRecDepth 100000
section
def sanL:List It:=[.k 1,.k 0,.k 0,.k 4,.k 0,.k 0,.k 0,.k 1,.k 4,.k 0,.k 4,.k 4,.k 0,.k 0,.k 1,.k 4,.k 4,.k 0,.k 4,.k 0,.k 0,.k 1,.k 0,.k 4,.k 0,.k 0,.k 0,.k 0]
def frS(k:Int)(l:List It)(n:Nat)(r:Int):Sh:=⟨k,n,fun i=>edAt ((l.drop (i*7)).take 7),r⟩
def sanO:Sh:=frS 2 sanL 4 0
def sanP:Sh:=shL' 1 [lnEd 2 2 2 2] 1
def sanM:List (Option Mb):=List.replicate 15 none++[some ⟨70,sanL⟩,some ⟨24,[.k 2,.sl 15 4 7,.k 0]⟩]
def sanD0:Ds:=⟨[(5,.eq (blV true)),(10,.eq (blV true)),(13,.eq (blV true)),(14,.eq (ptrN 16))],sanM⟩
def sanD1:Ds:=⟨[(5,.eq (blV true)),(10,.eq (blV true)),(13,.eq (blV true)),(14,.eq (ptrN 16)),(15,.eq (ptrN 17)),(16,.eq (blV (borderQ sanO sanP).2))],sanM++[some ⟨42,gpL (borderQ sanO sanP).1⟩]⟩
noncomputable def sR:List Oper:=match lpC 10 (2*10+1) with | .region _ ops _=>ops.toList|_=>[]
noncomputable def sO (i : Nat) : Oper := ((sR)[i]?).getD ⟨none, .move (.tmp 0), 0, "", #[], none⟩
theorem path_fok(x0 y0 x1 y1 r:Int):Fok Tryz.prog 31 [inV x0 lim,inV y0 lim,inV x1 lim,inV y1 lim,inV r lim] (.one (shpV (shL' 1 [lnEd x0 y0 x1 y1] r))):=fokS [] [] [] [] (by kernel_rfl)
theorem shpV_mono(s:Sh)(v:Value):FMono fun W=>RepV W W (fun _=>0) 0 (shpV s) v:=fun W W' h hb=>by
 obtain⟨p,c,rfl,h1⟩:=ShAt.of h
 exact (h1.ext hb).rep
theorem gpC_val{W:World}{g:Gp}{b:Bool}{v:Value}(h:RepA W W (fun _=>0) 0 (ofV (g,b)) v):∃cs,v=.tuple #[.agg cs.toArray,.bool b]/\GpC W g cs:=by
 obtain⟨_,rfl,h⟩:=h
 obtain⟨_,hx,_,rfl,h2⟩:=rvs_cons.1 h
 obtain⟨_,hy,_,rfl,h3⟩:=rvs_cons.1 h2
 cases h3
 obtain⟨cs,hr,rfl⟩:=rv_t.1 hx
 exact⟨cs,by rw[(rv_v.1 hy).2],gpC_ofL hr⟩
theorem gpL_rl{V W:World}{r:Nat->Nat}{k:Nat}{g:Gp}{cs:List Value}(h:GpC W g cs):RepL V W r k (gpL g) cs:=by
 obtain⟨n,p,l,c,m,q,k,d,rfl,h1,h2,⟨i1,i2⟩,⟨j1,j2,j3,j4,j5,j6,j7⟩,k1,k2,k3,k4,k5,k6,k7⟩:=h
 exact⟨[_],_,rfl,⟨rfl,rfl⟩,[_],_,rfl,⟨rfl,lim64 i1⟩,[_],_,rfl,⟨rfl,lim64 i2⟩,[_,_],_,rfl,⟨_,_,_,_,rfl,h1⟩,[_,_],_,rfl,⟨_,_,_,_,rfl,h2⟩,[_],_,rfl,⟨rfl,lim64 j1⟩,[_],_,rfl,⟨rfl,lim64 j2⟩,[_],_,rfl,⟨rfl,lim64 j3⟩,[_],_,rfl,⟨rfl,lim64 j4⟩,[_],_,rfl,⟨rfl,lim64 j5⟩,[_],_,rfl,⟨rfl,lim64 j6⟩,[_],_,rfl,⟨rfl,lim64 j7⟩,[_],_,rfl,⟨rfl,lim64 k1⟩,[_],_,rfl,⟨rfl,lim64 k2⟩,[_],_,rfl,⟨rfl,lim64 k3⟩,[_],_,rfl,⟨rfl,lim64 k4⟩,[_],_,rfl,⟨rfl,lim64 k5⟩,[_],_,rfl,⟨rfl,lim64 k6⟩,[_],[],rfl,⟨rfl,lim64 k7⟩,rfl⟩
theorem san_10:OrcOk Tryz.prog (lpC 10 (2*10+1)) ⟨nF 10,sanD0,.nm,sanD1⟩:=by
 intro V a w Q hJ hQ
 obtain⟨r,cm,⟨hM,hd⟩,hsz,hT⟩:=hJ
 have hn:a.tmps.size=134:=hsz.trans (by kernel_rfl)
 have t14:RepV V w r 17 (ptrN 16) (a.tmps.getD 14 undef):=hT 14 (.one (ptrN 16)) (by kernel_rfl)
 have e14:a.tmps.getD 14 undef=.pointer (some ⟨r 16,0,none⟩):=by simpa using t14.scal.2
 obtain⟨h15,q15⟩:=hM.blk 15 ⟨70,sanL⟩ (by kernel_rfl)
 obtain⟨h16,c,dd,e16,rl,hnd⟩:=hM.blk 16 ⟨24,[.k 2,.sl 15 4 7,.k 0]⟩ (by kernel_rfl)
 have A:∀W,Ext w W->RepV W W (fun _=>0) 0 (shpV sanO) (.agg c.toArray):=fun W hW =>
  toShF_rep (l:=[.k 2,.fs 0 sanL 4 7,.k 0]) (ps:=[]) (by kernel_rfl) trivial ⟨c,argL_rep (hM.step hW) (show argL sanM [.k 2,.sl 15 4 7,.k 0]=some [.k 2,.fs 0 sanL 4 7,.k 0] by kernel_rfl) (rl.imp (RepI.ext hW)),rfl,nofun⟩
 have hc3:c.length=3:=by
  obtain⟨_,_,rfl,⟨rfl,_⟩,_,_,rfl,⟨_,_,_,_,rfl,_⟩,_,_,rfl,⟨rfl,_⟩,rfl⟩:=rl
  rfl
 refine wp_as (c':=Code.region 10 sR.toArray true) (by kernel_rfl) ?_
 refine wp_region_F (fun W=>Ext w W) (by kernel_rfl) (by kernel_rfl) (fun W W' h hb=>Ext.step h hb) (fun W h=>h.size) (Below.refl _ _) ?_
 rw[show sR=[sO 0,sO 1,sO 2,sO 3,sO 4,sO 5,sO 6,sO 7,sO 8] by kernel_rfl]
 have d0:(sO 0).dst=some 87:=by kernel_rfl
 have d1:(sO 1).dst=some 88:=by kernel_rfl
 have d2:(sO 2).dst=some 89:=by kernel_rfl
 have d3:(sO 3).dst=some 86:=by kernel_rfl
 have d4:(sO 4).dst=some 90:=by kernel_rfl
 have d5:(sO 5).dst=some 91:=by kernel_rfl
 have d6:(sO 6).dst=some 15:=by kernel_rfl
 have d7:(sO 7).dst=none:=by kernel_rfl
 have d8:(sO 8).dst=some 16:=by kernel_rfl
 refine F_run (v:=.agg c.toArray) (by kernel_rfl) (fun W hW=>?_) ?_
 ·have := ex_load (P := Tryz.prog) (o := sO 0) (a := a) (w := W) (t := 24) (x := .tmp 14) (j := 0) (n := 3) (b := true) (cs := cm 16) (by kernel_rfl) e14 (heap_ext h16 hW) (by kernel_rfl) (by kernel_rfl) (by rw [e16, List.length_append]; omega) nofun
  rw[List.drop_zero,e16,List.take_left' hc3] at this
  exact this
 rw[d0]
 refine F_callE (I:=Value) (fun v=>v) (fun v W=>RepV W W (fun _=>0) 0 (shpV sanP) v) (shpV_mono sanP) (by kernel_rfl) (by kernel_rfl) (fun W hW=>?_) fun v1 hv1=>?_
 ·have en:(execOp (a.put (some 87) (.agg c.toArray)).eval (sO 1)).run Tryz.prog W=.ok (.enter 31 #[.int .i64 2,.int .i64 2,.int .i64 2,.int .i64 2,.int .i64 1]) W:=by
   have:=run_enter (P:=Tryz.prog) (o:=sO 1) (a:=a.put (some 87) (.agg c.toArray)) (f:=31) (x:=.func 31) (caps:=#[]) (cl:={ callee:=.value (.func 31),args:=#[.const (.int .i64 2),.const (.int .i64 2),.const (.int .i64 2),.const (.int .i64 2),.const (.int .i64 1)],argTypes:=#[3,3,3,3,3] }) prog_nm Tryz.func31 rfl (by kernel_rfl) rfl rfl W
   rw[this]
   simp only[List.map_toArray,List.map_cons,List.map_nil]
   rfl
  refine gives_enter en ((path_fok 2 2 2 2 1 W [.int .i64 2,.int .i64 2,.int .i64 2,.int .i64 2,.int .i64 1] ?_).mono ?_)
  ·have i2 : ∀ z : Int, I64 z -> RepV W W (fun _ => 0) 0 (inV z lim) (.int .i64 z) := fun z hz => rv_i.2 ⟨lim64 hz, rfl⟩
   have b2:I64 2:=by unfold I64;omega
   have b1:I64 1:=by unfold I64;omega
   exact rvs_cons.2 ⟨_,i2 2 b2,_,rfl,rvs_cons.2 ⟨_,i2 2 b2,_,rfl,rvs_cons.2 ⟨_,i2 2 b2,_,rfl,rvs_cons.2 ⟨_,i2 2 b2,_,rfl,rvs_cons.2 ⟨_,i2 1 b1,_,rfl,rfl⟩⟩⟩⟩⟩
  ·rintro e W' ⟨v, rfl, hv, hx⟩
   exact⟨v,rfl,v,rfl,hx,hv⟩
 rw[d1]
 refine F_callE (I:=List Value) (fun cs=>.tuple #[.agg cs.toArray,.bool (borderQ sanO sanP).2]) (fun cs W=>GpC W (borderQ sanO sanP).1 cs) (fun cs W W' h hb=>h.ext hb) (by kernel_rfl) (by kernel_rfl) (fun W hW=>?_) fun cs hcs=>?_
 ·have en:(execOp ((a.put (some 87) (.agg c.toArray)).put (some 88) v1).eval (sO 2)).run Tryz.prog W=.ok (.enter 33 #[.agg c.toArray,v1]) W:=by
   have:=run_enter (P:=Tryz.prog) (o:=sO 2) (a:=(a.put (some 87) (.agg c.toArray)).put (some 88) v1) (f:=33) (x:=.func 33) (caps:=#[]) (cl:={ callee:=.value (.func 33),args:=#[.tmp 87,.tmp 88],argTypes:=#[24,24] }) prog_nm Tryz.func33 rfl (by kernel_rfl) rfl rfl W
   rw[this]
   simp only[List.map_toArray,List.map_cons,List.map_nil]
   rw[show ((a.put (some 87) (.agg c.toArray)).put (some 88) v1).eval (.tmp 87)=.agg c.toArray from (put_ne (by decide)).trans (put_lt (by rw[hn];decide)),show ((a.put (some 87) (.agg c.toArray)).put (some 88) v1).eval (.tmp 88)=v1 from put_lt (by rw[put_size,hn];decide)]
   rfl
  refine gives_enter en ((border_fok sanO sanP W _ (rvs_cons.2 ⟨_,A W hW.1,_,rfl,rvs_cons.2 ⟨_,hW.2,_,rfl,rfl⟩⟩)).mono ?_)
  rintro e W' ⟨v,rfl,hv,hx⟩
  obtain⟨cs,rfl,hg⟩:=gpC_val hv
  exact⟨_,rfl,cs,rfl,hx,hg⟩
 rw[d2]
 obtain⟨W0,hW0⟩:=hcs
 obtain⟨h21,h1c⟩:=hW0.2.one
 have hnc:=hW0.2.nd
 clear hW0
 obtain⟨ok,hok⟩:∃ok,(borderQ sanO sanP).2=ok:=⟨_,rfl⟩
 obtain⟨G,hG⟩:∃G,(borderQ sanO sanP).1=G:=⟨_,rfl⟩
 rw[hok,hG]
 refine F_run (v:=.tuple #[.agg cs.toArray,.bool ok]) (by kernel_rfl) (fun W _=>?_) ?_
 ·have := ex_move (P := Tryz.prog) (o := sO 3) (a := ((a.put (some 87) (.agg c.toArray)).put (some 88) v1).put (some 89) (.tuple #[.agg cs.toArray, .bool ok])) (x := .tmp 89) (by kernel_rfl) W
  rw[show ∀b:Act,b.eval (.tmp 89)=b.tmps.getD 89 undef from fun _=>rfl,put_lt (by rw[put_size,put_size,hn];decide)] at this
  exact this
 rw[d3]
 have s86:((((a.put (some 87) (.agg c.toArray)).put (some 88) v1).put (some 89) (.tuple #[.agg cs.toArray,.bool ok])).put (some 86) (.tuple #[.agg cs.toArray,.bool ok])).tmps.size=134:=by simp[put_size,hn]
 have e86:((((a.put (some 87) (.agg c.toArray)).put (some 88) v1).put (some 89) (.tuple #[.agg cs.toArray,.bool ok])).put (some 86) (.tuple #[.agg cs.toArray,.bool ok])).tmps.getD 86 undef=.tuple #[.agg cs.toArray,.bool ok]:=put_lt (by simp[put_size,hn])
 have off86:∀t,t≠86->t≠87->t≠88->t≠89->((((a.put (some 87) (.agg c.toArray)).put (some 88) v1).put (some 89) (.tuple #[.agg cs.toArray,.bool ok])).put (some 86) (.tuple #[.agg cs.toArray,.bool ok])).tmps.getD t undef=a.tmps.getD t undef:=fun t h1 h2 h3 h4=>by rw[put_ne (Ne.symm h1),put_ne (Ne.symm h4),put_ne (Ne.symm h3),put_ne (Ne.symm h2)]
 have hd86:((((a.put (some 87) (.agg c.toArray)).put (some 88) v1).put (some 89) (.tuple #[.agg cs.toArray,.bool ok])).put (some 86) (.tuple #[.agg cs.toArray,.bool ok])).defers=[]:=hd
 generalize (((a.put (some 87) (.agg c.toArray)).put (some 88) v1).put (some 89) (.tuple #[.agg cs.toArray,.bool ok])).put (some 86) (.tuple #[.agg cs.toArray,.bool ok])=b at *
 refine F_run (v:=.agg cs.toArray) (by kernel_rfl) (fun W _=>ex_extract (x:=.tmp 86) (j:=0) (vs:=[.agg cs.toArray,.bool ok]) (by kernel_rfl) e86 rfl W) ?_
 rw[d4]
 refine F_run (v:=.bool ok) (by kernel_rfl) (fun W _=>ex_extract (x:=.tmp 86) (j:=1) (vs:=[.agg cs.toArray,.bool ok]) (by kernel_rfl) (by show (b.put (some 90) _).tmps.getD 86 undef=_;rw[put_ne (by decide)];exact e86) rfl W) ?_
 rw[d5]
 refine F_alloc (.cells zGp.toArray 42) (by kernel_rfl) (by kernel_rfl) (fun W _=>?_) (fun g hg=>?_) (by intro g;kernel_rfl)
 ·obtain ⟨i, i1, i2⟩ := info_of (P := Tryz.prog) (t := 42) (z := .agg zGp.toArray) (by kernel_rfl)
  exact ex_alloc (by kernel_rfl) i1 i2 W
 rw[d6]
 have hgw:w.heap.size<=g:=Nat.le_of_not_lt fun h=>hg (List.mem_range.2 h)
 have sB:((b.put (some 90) (.agg cs.toArray)).put (some 91) (.bool ok)).tmps.size=134:=by simp[put_size,s86]
 refine F_store (fun W=>Ext w W/\GpC W G cs/\W.heap[g]? = some (.cells cs.toArray 42)) (fun W W' h hb=>⟨Ext.step h.1 hb,h.2.1.ext hb,heap_ext h.2.2 hb⟩) (fun _ h=>h.1) (by kernel_rfl) (by kernel_rfl) (fun W hW=>?_) ?_
 ·obtain ⟨⟨⟨x1, _⟩, hg1⟩, hgg⟩ := hW
  obtain⟨o1,o2⟩:=onlyB_setRow (cs':=(zGp.take 0++(cs++zGp.drop (0+cs.length))).toArray) hgg
  have ec:zGp.take 0++(cs++zGp.drop (0+cs.length))=cs:=by rw[List.take_zero,List.nil_append,Nat.zero_add,List.drop_eq_nil_of_le (by rw[h21];decide),List.append_nil]
  refine gives_skip (W:=W.setRow g (zGp.take 0++(cs++zGp.drop (0+cs.length))).toArray) (ex_store (t:=42) (vs:=cs) (x:=.tmp 15) (y:=.tmp 90) (n:=21) (by kernel_rfl) ?_ hgg ?_ (by kernel_rfl) h21 (by rw[h21];decide) h1c) ⟨rfl,by rw[o1.size];exact Nat.le_refl _,x1.trans (o1.below hgw),hg1.only o1 hgg,by rw[o2,ec]⟩
  ·exact put_lt (by rw[sB];decide)
  ·rw [show ∀ c : Act, c.eval (.tmp 90) = c.tmps.getD 90 undef from fun _ => rfl, put_ne (by decide), put_ne (by decide), put_lt (by rw [s86]; decide)]
   rfl
 rw[d7,put_none]
 refine F_run (v:=.bool ok) (by kernel_rfl) (fun W _=>?_) ?_
 ·have := ex_assign (P := Tryz.prog) (o := sO 8) (a := ((b.put (some 90) (.agg cs.toArray)).put (some 91) (.bool ok)).put (some 15) (.pointer (some ⟨g, 0, none⟩))) (x := .tmp 91) (by kernel_rfl) W
  rw[show ∀c:Act,c.eval (.tmp 91)=c.tmps.getD 91 undef from fun _=>rfl,put_ne (by decide),put_lt (by simp[put_size,s86])] at this
  exact this
 rw[d8]
 rintro W ⟨⟨x1,hg1,hgg⟩,_⟩
 have hM':=hM.step x1
 have hno:∀b x,mb (mkS (nF 10) sanD0).m b=some x->r b≠g:=fun b x hb e=>by
  have:=(Array.getElem?_eq_some_iff.1 (hM.blk b x hb).1).1
  omega
 have hM2:=hM'.new (T:=42) (l:=gpL G) hgg (RepL.pre (gpL_rl hg1)) (by have:=hM.ext.size;omega) hno
 have hd1:sanD1=⟨[(5,.eq (blV true)),(10,.eq (blV true)),(13,.eq (blV true)),(14,.eq (ptrN 16)),(15,.eq (ptrN 17)),(16,.eq (blV ok))],sanM++[some ⟨42,gpL G⟩]⟩:=by unfold sanD1;rw[hok,hG]
 rw[hd1] at hQ
 have off:∀t,t≠86->t≠87->t≠88->t≠89->t≠90->t≠91->t≠15->t≠16->((((b.put (some 90) (.agg cs.toArray)).put (some 91) (.bool ok)).put (some 15) (.pointer (some ⟨g,0,none⟩))).put (some 16) (.bool ok)).tmps.getD t undef=a.tmps.getD t undef:=fun t h1 h2 h3 h4 h5 h6 h7 h8=>by
  rw[put_ne (Ne.symm h8),put_ne (Ne.symm h7),put_ne (Ne.symm h6),put_ne (Ne.symm h5)]
  exact off86 t h1 h2 h3 h4
 have up':∀ {v:V1} {x:Value},RepV V w r 17 v x->RepV V W (up r 17 g) 18 v x:=fun {v x} h=>by
  obtain⟨cs',k1,k2⟩:=h
  exact⟨cs',k1.imp fun i cs h=>RepI.grow (Nat.le_succ _) (fun b hb=>up_old hb) i cs (RepI.ext x1 i cs h),k2⟩
 refine hQ _ _ ⟨up r 17 g,upM cm 17 cs,⟨hM2,hd86⟩,?_,fun i v hv=>?_⟩
 ·show (Act.put _ _ _).tmps.size = _
  rw[put_size,put_size,sB]
  kernel_rfl
 ·rcases Tr.sets_get (Tm.get_lt hv).2 with rfl | ⟨x, hx', rfl⟩
  ·trivial
  ·simp only [List.mem_cons, List.not_mem_nil, or_false, Prod.mk.injEq] at hx'
   rcases hx' with⟨rfl,rfl⟩|⟨rfl,rfl⟩|⟨rfl,rfl⟩|⟨rfl,rfl⟩|⟨rfl,rfl⟩|⟨rfl,rfl⟩
   ·rw[off 5 (by decide) (by decide) (by decide) (by decide) (by decide) (by decide) (by decide) (by decide)];exact up' (hT 5 (.one (blV true)) (by kernel_rfl))
   ·rw[off 10 (by decide) (by decide) (by decide) (by decide) (by decide) (by decide) (by decide) (by decide)];exact up' (hT 10 (.one (blV true)) (by kernel_rfl))
   ·rw[off 13 (by decide) (by decide) (by decide) (by decide) (by decide) (by decide) (by decide) (by decide)];exact up' (hT 13 (.one (blV true)) (by kernel_rfl))
   ·rw[off 14 (by decide) (by decide) (by decide) (by decide) (by decide) (by decide) (by decide) (by decide)];exact up' t14
   ·rw [put_ne (by decide), put_lt (by rw [sB]; decide)]
    exact RepI.val (i:=.p 17 0) ⟨Nat.lt_succ_self _,by simp[up]⟩
   ·rw [put_lt (by rw [put_size, sB]; decide)]
    exact rv_v.2 ⟨rfl,rfl⟩
end

set_option maxRecDepth 1000000
section
def KSa:List Con:=[cGapF,cTouch,cLeastG,cBord,cHolds,cRtOf,cNOf,cRight,cCmp,cCmpInt]
def pC:Pf:=⟨true=true,rfl⟩
theorem sanity10:Fok Tryz.prog 10 [] (.one (blV true)) :=
 fokL [] KSa _ (LT.cons san_10 LT.nil) (List.replicate 24 true) (List.replicate 13 pC++([pR (blV true),pR (blV true),pR (blV true),pR (ptrN 16),⟨It.sl 15 4 7=It.sl 15 4 7,rfl⟩]++List.replicate 11 pC)) (by kernel_rfl)
theorem sanC(w:World):Calls Tryz.prog 10 #[] w fun e w'=>e=.returned (.bool true)/\Ext w w' :=
 (sanity10 w [] rfl).mono fun e w' ⟨v,e1,h1,h2⟩=>⟨by rw[e1,(rv_v.1 h1).2],h2⟩
end

set_option maxRecDepth 100000
section
def KMd:List Con:=[dQuart,dApply]
def roundQ(px py r w h:Int):Sh :=
 let q:=fun (t x y:Int)=>applyQ 0 0 t false x y
 let n0:=(px+r+(q 0 w 0).1,py+(q 0 w 0).2)
 let c0:=(n0.1+(q 0 0 r).1,n0.2+(q 0 0 r).2)
 let e0:=(c0.1+(q 0 r 0).1,c0.2+(q 0 r 0).2)
 let n1:=(e0.1+(q 1 h 0).1,e0.2+(q 1 h 0).2)
 let c1:=(n1.1+(q 1 0 r).1,n1.2+(q 1 0 r).2)
 let e1:=(c1.1+(q 1 r 0).1,c1.2+(q 1 r 0).2)
 let n2:=(e1.1+(q 2 w 0).1,e1.2+(q 2 w 0).2)
 let c2:=(n2.1+(q 2 0 r).1,n2.2+(q 2 0 r).2)
 let e2:=(c2.1+(q 2 r 0).1,c2.2+(q 2 r 0).2)
 let n3:=(e2.1+(q 3 h 0).1,e2.2+(q 3 h 0).2)
 let c3:=(n3.1+(q 3 0 r).1,n3.2+(q 3 0 r).2)
 let e3:=(c3.1+(q 3 r 0).1,c3.2+(q 3 r 0).2)
 shL' 2 [lnEd (px+r) py n0.1 n0.2,⟨2,n0.1,n0.2,e0.1,e0.2,c0.1,c0.2⟩,lnEd e0.1 e0.2 n1.1 n1.2,⟨2,n1.1,n1.2,e1.1,e1.2,c1.1,c1.2⟩,
  lnEd e1.1 e1.2 n2.1 n2.2,⟨2,n2.1,n2.2,e2.1,e2.2,c2.1,c2.2⟩,lnEd e2.1 e2.2 n3.1 n3.2,⟨2,n3.1,n3.2,e3.1,e3.2,c3.1,c3.2⟩] 0
theorem roundQ_eq(px py r w h:Int):roundQ px py r w h=roundS px py r w h:=by
 have m0:modZ 0 4=0:=by decide
 have m1:modZ 1 4=1:=by decide
 have m2:modZ 2 4=2:=by decide
 have m3:modZ 3 4=3:=by decide
 have ex:∀ {a b c d e f a' b' c' d' e' f':Int},a=a'->b=b'->c=c'->d=d'->e=e'->f=f'->(⟨2,a,b,c,d,e,f⟩:Ed)=⟨2,a',b',c',d',e',f'⟩:=fun h1 h2 h3 h4 h5 h6=>by rw[h1,h2,h3,h4,h5,h6]
 have lx:∀ {a b c d a' b' c' d':Int},a=a'->b=b'->c=c'->d=d'->lnEd a b c d=lnEd a' b' c' d':=fun h1 h2 h3 h4=>by rw[h1,h2,h3,h4]
 unfold roundQ roundS
 simp only[tn0 m0,tn1 m1,tn2 m2,tn3 m3,Bool.false_eq_true,if_false]
 refine congrArg (fun l=>shL' 2 l 0) ?_
 refine congr (congrArg List.cons (lx ?_ ?_ ?_ ?_)) (congr (congrArg List.cons (ex ?_ ?_ ?_ ?_ ?_ ?_)) (congr (congrArg List.cons (lx ?_ ?_ ?_ ?_)) (congr (congrArg List.cons (ex ?_ ?_ ?_ ?_ ?_ ?_)) (congr (congrArg List.cons (lx ?_ ?_ ?_ ?_)) (congr (congrArg List.cons (ex ?_ ?_ ?_ ?_ ?_ ?_)) (congr (congrArg List.cons (lx ?_ ?_ ?_ ?_)) (congr (congrArg List.cons (ex ?_ ?_ ?_ ?_ ?_ ?_)) rfl)))))))<;>omega
theorem made_0(L:List Int)(h0:nV L 2 6=0):Fok Tryz.prog 12 [⟨false,[.ds L]⟩] (.one (shpV (madeS L))):=by
 unfold madeS
 simp only[if_pos h0]
 exact fokS [xNext] KMd [true] [pT (bq_T h0)] (by kernel_rfl)
theorem made_1(L:List Int)(h0:¬nV L 2 6=0)(h1:nV L 2 6=1):Fok Tryz.prog 12 [⟨false,[.ds L]⟩] (.one (shpV (madeS L))):=by
 unfold madeS
 simp only[if_neg h0,if_pos h1]
 rw[<- roundQ_eq]
 exact fokS [xNext] KMd [false,true] [pF (bq_F h0),pT (bq_T h1)] (by kernel_rfl)
theorem made_2(L:List Int)(h0:¬nV L 2 6=0)(h1:¬nV L 2 6=1)(h2:nV L 2 6=2):Fok Tryz.prog 12 [⟨false,[.ds L]⟩] (.one (shpV (madeS L))):=by
 unfold madeS
 simp only[if_neg h0,if_neg h1,if_pos h2]
 exact fokS [xNext] KMd [false,false,true] [pF (bq_F h0),pF (bq_F h1),pT (bq_T h2)] (by kernel_rfl)
theorem made_3(L:List Int)(h0:¬nV L 2 6=0)(h1:¬nV L 2 6=1)(h2:¬nV L 2 6=2)(h3:nV L 2 6=3):Fok Tryz.prog 12 [⟨false,[.ds L]⟩] (.one (shpV (madeS L))):=by
 unfold madeS
 simp only[if_neg h0,if_neg h1,if_neg h2,if_pos h3]
 exact fokS [xNext] KMd [false,false,false,true] [pF (bq_F h0),pF (bq_F h1),pF (bq_F h2),pT (bq_T h3)] (by kernel_rfl)
theorem path_T{L:List Int}{a:Nat}(h:nV L (a+2) 2=1):pathB L a=true:=by unfold pathB;simpa using h
theorem path_F{L:List Int}{a:Nat}(h:¬nV L (a+2) 2=1):pathB L a=false:=by unfold pathB;simpa using h
def NoK(L:List Int):Prop:=¬nV L 2 6=0/\¬nV L 2 6=1/\¬nV L 2 6=2/\¬nV L 2 6=3
theorem path_1T(L:List Int)(k:NoK L)(hm:nV L 4 3=0)(g0:nV L 7 2=1):Fok Tryz.prog 12 [⟨false,[.ds L]⟩] (.one (shpV (shL' 1 (pathL L 1 5 (nV L 0 50) (nV L 1 50)) (nV L 3 6)))):=by
 simp only[pathL,pathE,pathN,Nat.reduceAdd,path_T (a:=5) g0,if_true,if_false,Bool.false_eq_true]
 exact fokS [xNext] KMd [false,false,false,false,true,true,false] [pF (bq_F k.1),pF (bq_F k.2.1),pF (bq_F k.2.2.1),pF (bq_F k.2.2.2),pT (decide_eq_true (show (0:Int)<1+nV L 4 3 by omega)),pT (bq_T g0),pF (decide_eq_false (show ¬(0+1:Int)<1+nV L 4 3 by omega))] (by kernel_rfl)
theorem path_1F(L:List Int)(k:NoK L)(hm:nV L 4 3=0)(g0:¬nV L 7 2=1):Fok Tryz.prog 12 [⟨false,[.ds L]⟩] (.one (shpV (shL' 1 (pathL L 1 5 (nV L 0 50) (nV L 1 50)) (nV L 3 6)))):=by
 simp only[pathL,pathE,pathN,Nat.reduceAdd,path_F (a:=5) g0,if_true,if_false,Bool.false_eq_true]
 exact fokS [xNext] KMd [false,false,false,false,true,false,false] [pF (bq_F k.1),pF (bq_F k.2.1),pF (bq_F k.2.2.1),pF (bq_F k.2.2.2),pT (decide_eq_true (show (0:Int)<1+nV L 4 3 by omega)),pF (bq_F g0),pF (decide_eq_false (show ¬(0+1:Int)<1+nV L 4 3 by omega))] (by kernel_rfl)
theorem path_2TT(L:List Int)(k:NoK L)(hm:nV L 4 3=1)(g0:nV L 7 2=1)(g1:nV L 13 2=1):Fok Tryz.prog 12 [⟨false,[.ds L]⟩] (.one (shpV (shL' 1 (pathL L 2 5 (nV L 0 50) (nV L 1 50)) (nV L 3 6)))):=by
 simp only[pathL,pathE,pathN,Nat.reduceAdd,path_T (a:=5) g0,path_T (a:=11) g1,if_true,if_false,Bool.false_eq_true]
 exact fokS [xNext] KMd [false,false,false,false,true,true,true,true,false] [pF (bq_F k.1),pF (bq_F k.2.1),pF (bq_F k.2.2.1),pF (bq_F k.2.2.2),pT (decide_eq_true (show (0:Int)<1+nV L 4 3 by omega)),pT (bq_T g0),pT (decide_eq_true (show (0+1:Int)<1+nV L 4 3 by omega)),pT (bq_T g1),pF (decide_eq_false (show ¬(0+1+1:Int)<1+nV L 4 3 by omega))] (by kernel_rfl)
theorem path_2TF(L:List Int)(k:NoK L)(hm:nV L 4 3=1)(g0:nV L 7 2=1)(g1:¬nV L 13 2=1):Fok Tryz.prog 12 [⟨false,[.ds L]⟩] (.one (shpV (shL' 1 (pathL L 2 5 (nV L 0 50) (nV L 1 50)) (nV L 3 6)))):=by
 simp only[pathL,pathE,pathN,Nat.reduceAdd,path_T (a:=5) g0,path_F (a:=11) g1,if_true,if_false,Bool.false_eq_true]
 exact fokS [xNext] KMd [false,false,false,false,true,true,true,false,false] [pF (bq_F k.1),pF (bq_F k.2.1),pF (bq_F k.2.2.1),pF (bq_F k.2.2.2),pT (decide_eq_true (show (0:Int)<1+nV L 4 3 by omega)),pT (bq_T g0),pT (decide_eq_true (show (0+1:Int)<1+nV L 4 3 by omega)),pF (bq_F g1),pF (decide_eq_false (show ¬(0+1+1:Int)<1+nV L 4 3 by omega))] (by kernel_rfl)
theorem path_2FT(L:List Int)(k:NoK L)(hm:nV L 4 3=1)(g0:¬nV L 7 2=1)(g1:nV L 10 2=1):Fok Tryz.prog 12 [⟨false,[.ds L]⟩] (.one (shpV (shL' 1 (pathL L 2 5 (nV L 0 50) (nV L 1 50)) (nV L 3 6)))):=by
 simp only[pathL,pathE,pathN,Nat.reduceAdd,path_F (a:=5) g0,path_T (a:=8) g1,if_true,if_false,Bool.false_eq_true]
 exact fokS [xNext] KMd [false,false,false,false,true,false,true,true,false] [pF (bq_F k.1),pF (bq_F k.2.1),pF (bq_F k.2.2.1),pF (bq_F k.2.2.2),pT (decide_eq_true (show (0:Int)<1+nV L 4 3 by omega)),pF (bq_F g0),pT (decide_eq_true (show (0+1:Int)<1+nV L 4 3 by omega)),pT (bq_T g1),pF (decide_eq_false (show ¬(0+1+1:Int)<1+nV L 4 3 by omega))] (by kernel_rfl)
theorem path_2FF(L:List Int)(k:NoK L)(hm:nV L 4 3=1)(g0:¬nV L 7 2=1)(g1:¬nV L 10 2=1):Fok Tryz.prog 12 [⟨false,[.ds L]⟩] (.one (shpV (shL' 1 (pathL L 2 5 (nV L 0 50) (nV L 1 50)) (nV L 3 6)))):=by
 simp only[pathL,pathE,pathN,Nat.reduceAdd,path_F (a:=5) g0,path_F (a:=8) g1,if_true,if_false,Bool.false_eq_true]
 exact fokS [xNext] KMd [false,false,false,false,true,false,true,false,false] [pF (bq_F k.1),pF (bq_F k.2.1),pF (bq_F k.2.2.1),pF (bq_F k.2.2.2),pT (decide_eq_true (show (0:Int)<1+nV L 4 3 by omega)),pF (bq_F g0),pT (decide_eq_true (show (0+1:Int)<1+nV L 4 3 by omega)),pF (bq_F g1),pF (decide_eq_false (show ¬(0+1+1:Int)<1+nV L 4 3 by omega))] (by kernel_rfl)
theorem path_3TTT(L:List Int)(k:NoK L)(hm:nV L 4 3=2)(g0:nV L 7 2=1)(g1:nV L 13 2=1)(g2:nV L 19 2=1):Fok Tryz.prog 12 [⟨false,[.ds L]⟩] (.one (shpV (shL' 1 (pathL L 3 5 (nV L 0 50) (nV L 1 50)) (nV L 3 6)))):=by
 simp only[pathL,pathE,pathN,Nat.reduceAdd,path_T (a:=5) g0,path_T (a:=11) g1,path_T (a:=17) g2,if_true,if_false,Bool.false_eq_true]
 exact fokS [xNext] KMd [false,false,false,false,true,true,true,true,true,true,false] [pF (bq_F k.1),pF (bq_F k.2.1),pF (bq_F k.2.2.1),pF (bq_F k.2.2.2),pT (decide_eq_true (show (0:Int)<1+nV L 4 3 by omega)),pT (bq_T g0),pT (decide_eq_true (show (0+1:Int)<1+nV L 4 3 by omega)),pT (bq_T g1),pT (decide_eq_true (show (0+1+1:Int)<1+nV L 4 3 by omega)),pT (bq_T g2),pF (decide_eq_false (show ¬(0+1+1+1:Int)<1+nV L 4 3 by omega))] (by kernel_rfl)
theorem path_3TTF(L:List Int)(k:NoK L)(hm:nV L 4 3=2)(g0:nV L 7 2=1)(g1:nV L 13 2=1)(g2:¬nV L 19 2=1):Fok Tryz.prog 12 [⟨false,[.ds L]⟩] (.one (shpV (shL' 1 (pathL L 3 5 (nV L 0 50) (nV L 1 50)) (nV L 3 6)))):=by
 simp only[pathL,pathE,pathN,Nat.reduceAdd,path_T (a:=5) g0,path_T (a:=11) g1,path_F (a:=17) g2,if_true,if_false,Bool.false_eq_true]
 exact fokS [xNext] KMd [false,false,false,false,true,true,true,true,true,false,false] [pF (bq_F k.1),pF (bq_F k.2.1),pF (bq_F k.2.2.1),pF (bq_F k.2.2.2),pT (decide_eq_true (show (0:Int)<1+nV L 4 3 by omega)),pT (bq_T g0),pT (decide_eq_true (show (0+1:Int)<1+nV L 4 3 by omega)),pT (bq_T g1),pT (decide_eq_true (show (0+1+1:Int)<1+nV L 4 3 by omega)),pF (bq_F g2),pF (decide_eq_false (show ¬(0+1+1+1:Int)<1+nV L 4 3 by omega))] (by kernel_rfl)
theorem path_3TFT(L:List Int)(k:NoK L)(hm:nV L 4 3=2)(g0:nV L 7 2=1)(g1:¬nV L 13 2=1)(g2:nV L 16 2=1):Fok Tryz.prog 12 [⟨false,[.ds L]⟩] (.one (shpV (shL' 1 (pathL L 3 5 (nV L 0 50) (nV L 1 50)) (nV L 3 6)))):=by
 simp only[pathL,pathE,pathN,Nat.reduceAdd,path_T (a:=5) g0,path_F (a:=11) g1,path_T (a:=14) g2,if_true,if_false,Bool.false_eq_true]
 exact fokS [xNext] KMd [false,false,false,false,true,true,true,false,true,true,false] [pF (bq_F k.1),pF (bq_F k.2.1),pF (bq_F k.2.2.1),pF (bq_F k.2.2.2),pT (decide_eq_true (show (0:Int)<1+nV L 4 3 by omega)),pT (bq_T g0),pT (decide_eq_true (show (0+1:Int)<1+nV L 4 3 by omega)),pF (bq_F g1),pT (decide_eq_true (show (0+1+1:Int)<1+nV L 4 3 by omega)),pT (bq_T g2),pF (decide_eq_false (show ¬(0+1+1+1:Int)<1+nV L 4 3 by omega))] (by kernel_rfl)
theorem path_3TFF(L:List Int)(k:NoK L)(hm:nV L 4 3=2)(g0:nV L 7 2=1)(g1:¬nV L 13 2=1)(g2:¬nV L 16 2=1):Fok Tryz.prog 12 [⟨false,[.ds L]⟩] (.one (shpV (shL' 1 (pathL L 3 5 (nV L 0 50) (nV L 1 50)) (nV L 3 6)))):=by
 simp only[pathL,pathE,pathN,Nat.reduceAdd,path_T (a:=5) g0,path_F (a:=11) g1,path_F (a:=14) g2,if_true,if_false,Bool.false_eq_true]
 exact fokS [xNext] KMd [false,false,false,false,true,true,true,false,true,false,false] [pF (bq_F k.1),pF (bq_F k.2.1),pF (bq_F k.2.2.1),pF (bq_F k.2.2.2),pT (decide_eq_true (show (0:Int)<1+nV L 4 3 by omega)),pT (bq_T g0),pT (decide_eq_true (show (0+1:Int)<1+nV L 4 3 by omega)),pF (bq_F g1),pT (decide_eq_true (show (0+1+1:Int)<1+nV L 4 3 by omega)),pF (bq_F g2),pF (decide_eq_false (show ¬(0+1+1+1:Int)<1+nV L 4 3 by omega))] (by kernel_rfl)
theorem path_3FTT(L:List Int)(k:NoK L)(hm:nV L 4 3=2)(g0:¬nV L 7 2=1)(g1:nV L 10 2=1)(g2:nV L 16 2=1):Fok Tryz.prog 12 [⟨false,[.ds L]⟩] (.one (shpV (shL' 1 (pathL L 3 5 (nV L 0 50) (nV L 1 50)) (nV L 3 6)))):=by
 simp only[pathL,pathE,pathN,Nat.reduceAdd,path_F (a:=5) g0,path_T (a:=8) g1,path_T (a:=14) g2,if_true,if_false,Bool.false_eq_true]
 exact fokS [xNext] KMd [false,false,false,false,true,false,true,true,true,true,false] [pF (bq_F k.1),pF (bq_F k.2.1),pF (bq_F k.2.2.1),pF (bq_F k.2.2.2),pT (decide_eq_true (show (0:Int)<1+nV L 4 3 by omega)),pF (bq_F g0),pT (decide_eq_true (show (0+1:Int)<1+nV L 4 3 by omega)),pT (bq_T g1),pT (decide_eq_true (show (0+1+1:Int)<1+nV L 4 3 by omega)),pT (bq_T g2),pF (decide_eq_false (show ¬(0+1+1+1:Int)<1+nV L 4 3 by omega))] (by kernel_rfl)
theorem path_3FTF(L:List Int)(k:NoK L)(hm:nV L 4 3=2)(g0:¬nV L 7 2=1)(g1:nV L 10 2=1)(g2:¬nV L 16 2=1):Fok Tryz.prog 12 [⟨false,[.ds L]⟩] (.one (shpV (shL' 1 (pathL L 3 5 (nV L 0 50) (nV L 1 50)) (nV L 3 6)))):=by
 simp only[pathL,pathE,pathN,Nat.reduceAdd,path_F (a:=5) g0,path_T (a:=8) g1,path_F (a:=14) g2,if_true,if_false,Bool.false_eq_true]
 exact fokS [xNext] KMd [false,false,false,false,true,false,true,true,true,false,false] [pF (bq_F k.1),pF (bq_F k.2.1),pF (bq_F k.2.2.1),pF (bq_F k.2.2.2),pT (decide_eq_true (show (0:Int)<1+nV L 4 3 by omega)),pF (bq_F g0),pT (decide_eq_true (show (0+1:Int)<1+nV L 4 3 by omega)),pT (bq_T g1),pT (decide_eq_true (show (0+1+1:Int)<1+nV L 4 3 by omega)),pF (bq_F g2),pF (decide_eq_false (show ¬(0+1+1+1:Int)<1+nV L 4 3 by omega))] (by kernel_rfl)
theorem path_3FFT(L:List Int)(k:NoK L)(hm:nV L 4 3=2)(g0:¬nV L 7 2=1)(g1:¬nV L 10 2=1)(g2:nV L 13 2=1):Fok Tryz.prog 12 [⟨false,[.ds L]⟩] (.one (shpV (shL' 1 (pathL L 3 5 (nV L 0 50) (nV L 1 50)) (nV L 3 6)))):=by
 simp only[pathL,pathE,pathN,Nat.reduceAdd,path_F (a:=5) g0,path_F (a:=8) g1,path_T (a:=11) g2,if_true,if_false,Bool.false_eq_true]
 exact fokS [xNext] KMd [false,false,false,false,true,false,true,false,true,true,false] [pF (bq_F k.1),pF (bq_F k.2.1),pF (bq_F k.2.2.1),pF (bq_F k.2.2.2),pT (decide_eq_true (show (0:Int)<1+nV L 4 3 by omega)),pF (bq_F g0),pT (decide_eq_true (show (0+1:Int)<1+nV L 4 3 by omega)),pF (bq_F g1),pT (decide_eq_true (show (0+1+1:Int)<1+nV L 4 3 by omega)),pT (bq_T g2),pF (decide_eq_false (show ¬(0+1+1+1:Int)<1+nV L 4 3 by omega))] (by kernel_rfl)
theorem path_3FFF(L:List Int)(k:NoK L)(hm:nV L 4 3=2)(g0:¬nV L 7 2=1)(g1:¬nV L 10 2=1)(g2:¬nV L 13 2=1):Fok Tryz.prog 12 [⟨false,[.ds L]⟩] (.one (shpV (shL' 1 (pathL L 3 5 (nV L 0 50) (nV L 1 50)) (nV L 3 6)))):=by
 simp only[pathL,pathE,pathN,Nat.reduceAdd,path_F (a:=5) g0,path_F (a:=8) g1,path_F (a:=11) g2,if_true,if_false,Bool.false_eq_true]
 exact fokS [xNext] KMd [false,false,false,false,true,false,true,false,true,false,false] [pF (bq_F k.1),pF (bq_F k.2.1),pF (bq_F k.2.2.1),pF (bq_F k.2.2.2),pT (decide_eq_true (show (0:Int)<1+nV L 4 3 by omega)),pF (bq_F g0),pT (decide_eq_true (show (0+1:Int)<1+nV L 4 3 by omega)),pF (bq_F g1),pT (decide_eq_true (show (0+1+1:Int)<1+nV L 4 3 by omega)),pF (bq_F g2),pF (decide_eq_false (show ¬(0+1+1+1:Int)<1+nV L 4 3 by omega))] (by kernel_rfl)
theorem made_fok(L:List Int):Fok Tryz.prog 12 [⟨false,[.ds L]⟩] (.one (shpV (madeS L))):=by
 by_cases h0:nV L 2 6=0
 ·exact made_0 L h0
 by_cases h1:nV L 2 6=1
 ·exact made_1 L h0 h1
 by_cases h2:nV L 2 6=2
 ·exact made_2 L h0 h1 h2
 by_cases h3:nV L 2 6=3
 ·exact made_3 L h0 h1 h2 h3
 have k:NoK L:=⟨h0,h1,h2,h3⟩
 have hb:=nV_bd L 4 (m:=3) (by omega)
 unfold madeS
 simp only[if_neg h0,if_neg h1,if_neg h2,if_neg h3]
 obtain hm|hm|hm:nV L 4 3=0\/nV L 4 3=1\/nV L 4 3=2:=by omega
 ·rw [show (1 + nV L 4 3).toNat = 1 by omega]
  by_cases g0:nV L 7 2=1
  ·exact path_1T L k hm g0
  ·exact path_1F L k hm g0
 ·rw [show (1 + nV L 4 3).toNat = 2 by omega]
  by_cases g0:nV L 7 2=1
  ·by_cases g1 : nV L 13 2 = 1
   ·exact path_2TT L k hm g0 g1
   ·exact path_2TF L k hm g0 g1
  ·by_cases g1 : nV L 10 2 = 1
   ·exact path_2FT L k hm g0 g1
   ·exact path_2FF L k hm g0 g1
 ·rw [show (1 + nV L 4 3).toNat = 3 by omega]
  by_cases g0:nV L 7 2=1
  ·by_cases g1 : nV L 13 2 = 1
   ·by_cases g2 : nV L 19 2 = 1
    ·exact path_3TTT L k hm g0 g1 g2
    ·exact path_3TTF L k hm g0 g1 g2
   ·by_cases g2 : nV L 16 2 = 1
    ·exact path_3TFT L k hm g0 g1 g2
    ·exact path_3TFF L k hm g0 g1 g2
  ·by_cases g1 : nV L 10 2 = 1
   ·by_cases g2 : nV L 16 2 = 1
    ·exact path_3FTT L k hm g0 g1 g2
    ·exact path_3FTF L k hm g0 g1 g2
   ·by_cases g2 : nV L 13 2 = 1
    ·exact path_3FFT L k hm g0 g1 g2
    ·exact path_3FFF L k hm g0 g1 g2
end

set_option maxHeartbeats 1000000
set_option maxRecDepth 100000
section
def rowL(e:Nat->Ed):Nat->List Value
 | 0=>[]
 | n+1=>rowL e n++edL (e n)
theorem edL_len(e:Ed):(edL e).length=7:=rfl
theorem rowL_len(e:Nat->Ed):∀n,(rowL e n).length=n*7
 | 0=>rfl
 | n+1=>by rw[rowL,List.length_append,rowL_len e n,edL_len,Nat.succ_mul]
theorem rowL_at(e:Nat->Ed):∀(n i t:Nat),i<n->t<7->(rowL e n)[i*7+t]? = (edL (e i))[t]?
 | 0,_,_,h,_=>absurd h (Nat.not_lt_zero _)
 | n+1,i,t,h,ht=>by
  rw[rowL]
  by_cases hi:i<n
  ·rw [List.getElem?_append_left (by rw [rowL_len]; omega)]
   exact rowL_at e n i t hi ht
  ·obtain rfl : i = n := by omega
   rw[List.getElem?_append_right (by rw[rowL_len];omega),rowL_len]
   congr 1
   omega
theorem rowL_one(e:Nat->Ed):∀n,∀v∈rowL e n,v.oneCell'=true
 | 0,v,h=>by cases h
 | n+1,v,h=>by
  rw[rowL] at h
  rcases List.mem_append.1 h with h|h
  ·exact rowL_one e n v h
  ·exact edL_one (e n) v h
theorem edAt_cell{w:World}{g o t:Nat}{e:Ed}{u:Value}(h:EdAt w g o e)(hu:(edL e)[t]? = some u):w.cell? ⟨g,o+t,none⟩=some u:=by
 obtain⟨h0,h1,h2,h3,h4,h5,h6⟩:=h
 have ht:t<7:=by have:=(List.getElem?_eq_some_iff.1 hu).1;simpa[edL] using this
 obtain rfl|rfl|rfl|rfl|rfl|rfl|rfl:t=0\/t=1\/t=2\/t=3\/t=4\/t=5\/t=6:=by omega
 all_goals (simp only[edL,List.getElem?_cons_succ,List.getElem?_cons_zero,Option.some.injEq] at hu;subst hu;assumption)
theorem infoEd:(Tryz.prog.info? 70).map (fun i=>(i.zero,i.size,i.bytes))=some (some (.agg #[.int .i64 0,.int .i64 0,.int .i64 0,.int .i64 0,.int .i64 0,.int .i64 0,.int .i64 0]),7,56):=by kernel_rfl
def NewE(w:World)(e:Nat->Ed)(n:Nat)(v:Value)(w':World):Prop:=∃g c cur,v=.slice (some ⟨g,0,none⟩) n c/\w.heap.size<=g/\w'.heap[g]? = some (.cells cur 70)/\n<=c/\c<=maxLen/\cur.toList.take (n*7)=rowL e n/\Ext w w'
theorem cloneEd(n:Nat)(e:Nat->Ed)(p:Option Addr)(c:Nat)(w:World)(hR:EdRow w.heap.size w p n e)(h1:1<=n)(hn:n<=1000) :
  Calls Tryz.prog 54 #[.slice p n c] w fun x w'=>∃v,x=.returned v/\NewE w e n v w':=by
 obtain⟨b,o,rfl,hb,_⟩:=hR 0 (by omega)
 obtain⟨i,hi,hz0,hz1,hz2⟩:=info_parts infoEd
 have qT:∀(w:World) (a:Option Addr) (n c n' c':Nat),(binOp .eql 22 (.slice a n c) (.slice none n' c')).run Tryz.prog w=.ok (.bool a.isNone) w :=
  fun w a n c n' c'=>Lib.run_eql_slice_nil w _ _ a n c n' c' Tryz.underlying22
 have hnews:∀j u,(rowL e n)[j]? = some u->w.cell? ⟨b,o+j,none⟩=some u:=by
  intro j u hu
  have hj:j<n*7:=by have:=(List.getElem?_eq_some_iff.1 hu).1;rwa [rowL_len] at this
  obtain⟨g,o',hp,hg,hE⟩:=hR (j/7) (by omega)
  cases hp
  have hd:j/7*7+j%7=j:=by omega
  rw[<- hd] at hu
  rw[rowL_at e n _ _ (by omega) (by omega)] at hu
  have:=edAt_cell hE hu
  rw[Nat.add_assoc,hd] at this
  exact this
 have HN:=Lib.hid hnews
 have H1:=Lib.hid h1
 have HR:=Lib.hid hR
 clear hnews hR h1
 go_enter Tryz.func54,Tryz.ntmps54
 go_wp2_with (at_builtin;refine wpList_append_own _ rfl _ _ 22 rfl w.heap.size 70 i (.agg #[.int .i64 0,.int .i64 0,.int .i64 0,.int .i64 0,.int .i64 0,.int .i64 0,.int .i64 0]) 7 56 Tryz.underlying22 hi hz0 hz1 hz2 rfl (by decide) _ _ _ rfl (World.ownsRow_made w #[] 0 (Nat.le_refl _) (by decide) rfl) ⟨b,o,none⟩ n c (rowL e n) rfl (rowL_len e n) ?c2 (rowL_one e n) ?c3 ?c4 ?c5 ?_)
 case c2=>exact fun j u hu=>by rw[add_none];exact (cell_later ((Below.refl _ _).alloc (Nat.le_refl _) _) (HN.out j u hu))
 case c3=>unfold maxLen;omega
 case c4=>omega
 case c5=>simp
 intro v' w1 hown hgr _
 obtain⟨_,⟨_,h0⟩|⟨g,cp,cur,rfl,hbg,hc,hcp,hmx,hsz,htk⟩⟩:=hown
 ·have:=H1.out;omega
 have fin:Hid (NewE w e n (.slice (some ⟨g,0,none⟩) n cp) w1):=Lib.hid ⟨g,cp,cur,rfl,hbg,hc,by omega,hmx,by simpa using htk,((Below.refl _ _).alloc (Nat.le_refl _) _).grown hgr (by simp) (fun k hk=>by simp[Value.ownBlock] at hk;omega)⟩
 go_wp2
 go_ret
 exact⟨_,rfl,fin.out⟩
end

section
attribute [local go_sem] Gives givesU
def movS(s:Sh)(x y t:Int)(m:Bool):Sh:=⟨s.k,s.n,fun i=>moveE (s.e i) x y (modZ t 4) m,s.r⟩
def ptE(e f:Nat->Ed)(k i:Nat):Ed:=if i<k then f i else e i
theorem rowL_congr{e e':Nat->Ed}:∀ {n:Nat},(∀i,i<n->e i=e' i)->rowL e n=rowL e' n
 | 0,_=>rfl
 | n+1,h=>by rw[rowL,rowL,rowL_congr fun i hi=>h i (by omega),h n (by omega)]
theorem rowL_split(e:Nat->Ed){k:Nat}:∀ {n:Nat},k<n->rowL e n=rowL e k++(edL (e k)++rowL (fun i=>e (k+1+i)) (n-k-1))
 | 0,h=>absurd h (Nat.not_lt_zero _)
 | n+1,h=>by
  by_cases hk:k=n
  ·subst hk
   rw[show k+1-k-1=0 by omega]
   simp[rowL]
  ·rw [show n + 1 - k - 1 = (n - k - 1) + 1 by omega, rowL, rowL, rowL_split e (show k < n by omega), show k + 1 + (n - k - 1) = n by omega]
   simp only[List.append_assoc]
theorem row_take(e:Nat->Ed){k n:Nat}(h:k<n)(sl:List Value):(rowL e n++sl).take (k*7)=rowL e k:=by
 rw[rowL_split e h,List.append_assoc,<- rowL_len e k,List.take_left]
theorem row_mid(e:Nat->Ed){k n:Nat}(h:k<n)(sl:List Value):((rowL e n++sl).drop (k*7)).take 7=edL (e k):=by
 rw[rowL_split e h,List.append_assoc,<- rowL_len e k,List.drop_left,List.append_assoc]
 exact List.take_left' rfl
theorem row_put(e f:Nat->Ed){k n:Nat}(h:k<n)(sl:List Value):(rowL (ptE e f k) n++sl).take (k*7)++(edL (f k)++(rowL (ptE e f k) n++sl).drop (k*7+(edL (f k)).length))=rowL (ptE e f (k+1)) n++sl:=by
 rw[row_take _ h,rowL_split (ptE e f (k+1)) h,rowL_split (ptE e f k) h,edL_len]
 rw[show rowL (ptE e f (k+1)) k=rowL (ptE e f k) k from rowL_congr fun i hi=>by unfold ptE;rw[if_pos (by omega),if_pos hi]]
 rw[show ptE e f (k+1) k=f k by unfold ptE;rw[if_pos (by omega)]]
 rw[show (fun i=>ptE e f (k+1) (k+1+i))=(fun i=>ptE e f k (k+1+i)) by funext i;unfold ptE;rw[if_neg (by omega),if_neg (by omega)]]
 simp only[List.append_assoc]
 congr 2
 rw[<- List.drop_drop,<- rowL_len (ptE e f k) k,List.drop_left]
 exact List.drop_left' rfl
theorem row_set{W:World}{B i:Nat}{xs:Array Value}{T:TypeId}(v:Value)(h:W.heap[B]? = some (.cells xs T)):(W.setCell ⟨B,i,none⟩ v).heap[B]? = some (.cells (xs.setIfInBounds i v) T):=by
 have hB:=(Array.getElem?_eq_some_iff.1 h).1
 have e:=(Array.getElem?_eq_some_iff.1 h).2
 rw[Array.getElem?_eq_some_iff]
 refine⟨by simpa[World.setCell] using hB,?_⟩
 simp only[World.setCell,Array.getElem_modify,if_true,e]
 simp
theorem row_oth{W:World}{B g i:Nat}(v:Value)(h:B≠g):(W.setCell ⟨B,i,none⟩ v).heap[g]? = W.heap[g]? := by
 simp[World.setCell,Array.getElem?_modify,h]
structure MI (w W:World) (s:Sh) (x y t:Int) (m:Bool) (g cp:Nat) (sl:List Value) (k:Nat):Prop where
 ex:Ext w W
 b2:W.heap[w.heap.size]? = some (.cells #[.int .i64 s.k,.slice (some ⟨g,0,none⟩) s.n cp,.int .i64 s.r] 24)
 b3:W.heap[w.heap.size+1]? = some (.cells #[.int .i64 x,.int .i64 y,.int .i64 t,.bool m] 59)
 b4:W.heap[w.heap.size+1+1]? = some (.cells #[.int .i64 0,.slice none 0 0,.int .i64 0] 24)
 bg:W.heap[g]? = some (.cells (rowL (ptE s.e (movS s x y t m).e k) s.n++sl).toArray 70)
 lt:w.heap.size+1+1<g
theorem MI.ext{w W W':World}{s:Sh}{x y t:Int}{m:Bool}{g cp:Nat}{sl:List Value}{k:Nat}(h:MI w W s x y t m g cp sl k)(hx:Ext W W'):MI w W' s x y t m g cp sl k:=⟨Ext.step h.ex hx,heap_ext h.b2 hx,heap_ext h.b3 hx,heap_ext h.b4 hx,heap_ext h.bg hx,h.lt⟩
theorem MI.cells{w W:World}{s:Sh}{x y t:Int}{m:Bool}{g cp:Nat}{sl:List Value}{k:Nat}(h:MI w W s x y t m g cp sl k):(W.cell? ⟨w.heap.size,0,none⟩=some (.int .i64 s.k)/\W.cell? ⟨w.heap.size,1,none⟩=some (.slice (some ⟨g,0,none⟩) s.n cp)/\W.cell? ⟨w.heap.size,2,none⟩=some (.int .i64 s.r)) /\
  W.cell? ⟨w.heap.size+1,0,none⟩=some (.int .i64 x)/\W.cell? ⟨w.heap.size+1,1,none⟩=some (.int .i64 y)/\W.cell? ⟨w.heap.size+1,2,none⟩=some (.int .i64 t)/\W.cell? ⟨w.heap.size+1,3,none⟩=some (.bool m):=by
 have e2:=h.b2
 have e3:=h.b3
 have c2:∀i,W.cell? ⟨w.heap.size,i,none⟩=(#[.int .i64 s.k,.slice (some ⟨g,0,none⟩) s.n cp,.int .i64 s.r]:Array Value)[i]? := fun i=>by rw[cell_of_row _ _ _ _ _ _ e2]
 have c3:∀i,W.cell? ⟨w.heap.size+1,i,none⟩=(#[.int .i64 x,.int .i64 y,.int .i64 t,.bool m]:Array Value)[i]? := fun i=>by rw[cell_of_row _ _ _ _ _ _ e3]
 exact⟨⟨(c2 0).trans rfl,(c2 1).trans rfl,(c2 2).trans rfl⟩,(c3 0).trans rfl,(c3 1).trans rfl,(c3 2).trans rfl,(c3 3).trans rfl⟩
theorem MI.edge{w W:World}{s:Sh}{x y t:Int}{m:Bool}{g cp:Nat}{sl:List Value}{k:Nat}(h:MI w W s x y t m g cp sl k)(hk:k<s.n):EdAt W g (k*7) (s.e k):=by
 have key:∀j u,(edL (s.e k))[j]? = some u->W.cell? ⟨g,k*7+j,none⟩=some u:=fun j u hu=>by
  have hj:j<7:=by have:=(List.getElem?_eq_some_iff.1 hu).1;simpa[edL] using this
  rw[cell_of_row _ _ _ _ _ _ h.bg]
  simp only[List.getElem?_toArray]
  rw[List.getElem?_append_left (by rw[rowL_len];omega),rowL_at _ _ _ _ hk hj]
  unfold ptE
  rw[if_neg (Nat.lt_irrefl _)]
  exact hu
 exact⟨key 0 _ rfl,key 1 _ rfl,key 2 _ rfl,key 3 _ rfl,key 4 _ rfl,key 5 _ rfl,key 6 _ rfl⟩
end

section
section
variable {P:Program} {ops:Array Oper} {S:World->Prop} {Q:Act->World->Prop} {tail:List Oper} {o:Oper} {l:List Oper} {a:Act} {own:List Nat} {F:World->Prop}
theorem T_run{v:Value}(hw:Region.wanted o (yielded ops a.tmps)=true)(hr:∀w,S w->(execOp a.eval o).run P w=.ok (.value v) w)(h:WpT P ops S Q tail l (a.put o.dst v) own F) :
  WpT P ops S Q tail (o::l) a own F:=.pure v (.inl ⟨hw,hr⟩) h
theorem T_call{v:Value}(hk:fkind o=2)(hw:Region.wanted o (yielded ops a.tmps)=true)
  (hg:∀w,F w->Gives P o a w (fun u w'=>u=v/\Below w.heap.size w w')) (h:WpT P ops S Q tail l (a.put o.dst v) own F):WpT P ops S Q tail (o::l) a own F:=by
 refine .eff hk hw Unit (fun _=>v) (fun _ _=>True) (fun _ _ _ h _=>h) (fun w hf=>(hg w hf).imp fun u w' h=>⟨(),h.1,h.2,trivial⟩) (fun t ht=>?_)
 have e:(fun w=>F w/\True)=F:=by funext w;simp
 rw[e]
 exact h
theorem T_done(h:WpF P ops (fun _=>True) Q tail a own F):WpT P ops S Q tail [] a own F:=h
end
end
end Go.Proofs.YtceemiodpccbhaaGreat
