import Derived.Test.YtceemiodpccbhaaGreatP37
set_option linter.unusedVariables false
set_option linter.unusedSimpArgs false

namespace Go.Proofs.YtceemiodpccbhaaGreat
open Go.RowKit

set_option maxHeartbeats 4000000
set_option maxRecDepth 100000
section
def sanL:List It:=[.k 1,.k 0,.k 0,.k 4,.k 0,.k 0,.k 0,.k 1,.k 4,.k 0,.k 4,.k 4,.k 0,.k 0,.k 1,.k 4,.k 4,.k 0,.k 4,.k 0,.k 0,.k 1,.k 0,.k 4,.k 0,.k 0,.k 0,.k 0]
def frS(k:Int)(l:List It)(n:Nat)(r:Int):Sh:=⟨k,n,fun i=>edAt ((l.drop (i*7)).take 7),r⟩
def sanO:Sh:=frS 2 sanL 4 0
def sanP:Sh:=shL' 1 [lnEd 2 2 2 2] 1
def sanM:List (Option Mb):=List.replicate 15 none++[some ⟨70,sanL⟩,some ⟨24,[.k 2,.sl 15 4 7,.k 0]⟩]
def sanD0:Ds:=⟨[(5,.eq (blV true)),(10,.eq (blV true)),(13,.eq (blV true)),(14,.eq (ptrN 16))],sanM⟩
def sanD1:Ds:=⟨[(5,.eq (blV true)),(10,.eq (blV true)),(13,.eq (blV true)),(14,.eq (ptrN 16)),(15,.eq (ptrN 17)),(16,.eq (blV (borderQ sanO sanP).2))],sanM++[some ⟨42,gpL (borderQ sanO sanP).1⟩]⟩
noncomputable def sR:List Oper:=match lpC 10 (2*10+1) with | .region _ ops _=>ops.toList|_=>[]
noncomputable def sO (i : Nat) : Oper := ((sR)[i]?).getD ⟨none, .move (.tmp 0), 0, "", #[], none⟩
theorem path_fok(x0 y0 x1 y1 r:Int):Fok Tryz.prog 31 [inV x0 lim,inV y0 lim,inV x1 lim,inV y1 lim,inV r lim] (.one (shpV (shL' 1 [lnEd x0 y0 x1 y1] r))):=fokS [] [] [] [] (by kernel_rfl)
theorem shpV_mono(s:Sh)(v:Value):FMono fun W=>RepV W W (fun _=>0) 0 (shpV s) v:=fun W W' h hb=>by
 obtain⟨p,c,rfl,h1⟩:=ShAt.of h
 exact (h1.ext hb).rep
theorem gpC_val{W:World}{g:Gp}{b:Bool}{v:Value}(h:RepA W W (fun _=>0) 0 (ofV (g,b)) v):∃cs,v=.tuple #[.agg cs.toArray,.bool b]/\GpC W g cs:=by
 obtain⟨_,rfl,h⟩:=h
 obtain⟨_,hx,_,rfl,h2⟩:=rvs_cons.1 h
 obtain⟨_,hy,_,rfl,h3⟩:=rvs_cons.1 h2
 cases h3
 obtain⟨cs,hr,rfl⟩:=rv_t.1 hx
 exact⟨cs,by rw[(rv_v.1 hy).2],gpC_ofL hr⟩
theorem gpL_rl{V W:World}{r:Nat->Nat}{k:Nat}{g:Gp}{cs:List Value}(h:GpC W g cs):RepL V W r k (gpL g) cs:=by
 obtain⟨n,p,l,c,m,q,k,d,rfl,h1,h2,⟨i1,i2⟩,⟨j1,j2,j3,j4,j5,j6,j7⟩,k1,k2,k3,k4,k5,k6,k7⟩:=h
 exact⟨[_],_,rfl,⟨rfl,rfl⟩,[_],_,rfl,⟨rfl,lim64 i1⟩,[_],_,rfl,⟨rfl,lim64 i2⟩,[_,_],_,rfl,⟨_,_,_,_,rfl,h1⟩,[_,_],_,rfl,⟨_,_,_,_,rfl,h2⟩,[_],_,rfl,⟨rfl,lim64 j1⟩,[_],_,rfl,⟨rfl,lim64 j2⟩,[_],_,rfl,⟨rfl,lim64 j3⟩,[_],_,rfl,⟨rfl,lim64 j4⟩,[_],_,rfl,⟨rfl,lim64 j5⟩,[_],_,rfl,⟨rfl,lim64 j6⟩,[_],_,rfl,⟨rfl,lim64 j7⟩,[_],_,rfl,⟨rfl,lim64 k1⟩,[_],_,rfl,⟨rfl,lim64 k2⟩,[_],_,rfl,⟨rfl,lim64 k3⟩,[_],_,rfl,⟨rfl,lim64 k4⟩,[_],_,rfl,⟨rfl,lim64 k5⟩,[_],_,rfl,⟨rfl,lim64 k6⟩,[_],[],rfl,⟨rfl,lim64 k7⟩,rfl⟩
theorem san_10:OrcOk Tryz.prog (lpC 10 (2*10+1)) ⟨nF 10,sanD0,.nm,sanD1⟩:=by
 intro V a w Q hJ hQ
 obtain⟨r,cm,⟨hM,hd⟩,hsz,hT⟩:=hJ
 have hn:a.tmps.size=134:=hsz.trans (by kernel_rfl)
 have t14:RepV V w r 17 (ptrN 16) (a.tmps.getD 14 undef):=hT 14 (.one (ptrN 16)) (by kernel_rfl)
 have e14:a.tmps.getD 14 undef=.pointer (some ⟨r 16,0,none⟩):=by simpa using t14.scal.2
 obtain⟨h15,q15⟩:=hM.blk 15 ⟨70,sanL⟩ (by kernel_rfl)
 obtain⟨h16,c,dd,e16,rl,hnd⟩:=hM.blk 16 ⟨24,[.k 2,.sl 15 4 7,.k 0]⟩ (by kernel_rfl)
 have A:∀W,Ext w W->RepV W W (fun _=>0) 0 (shpV sanO) (.agg c.toArray):=fun W hW =>
  toShF_rep (l:=[.k 2,.fs 0 sanL 4 7,.k 0]) (ps:=[]) (by kernel_rfl) trivial ⟨c,argL_rep (hM.step hW) (show argL sanM [.k 2,.sl 15 4 7,.k 0]=some [.k 2,.fs 0 sanL 4 7,.k 0] by kernel_rfl) (rl.imp (RepI.ext hW)),rfl,nofun⟩
 have hc3:c.length=3:=by
  obtain⟨_,_,rfl,⟨rfl,_⟩,_,_,rfl,⟨_,_,_,_,rfl,_⟩,_,_,rfl,⟨rfl,_⟩,rfl⟩:=rl
  rfl
 refine wp_as (c':=Code.region 10 sR.toArray true) (by kernel_rfl) ?_
 refine wp_region_F (fun W=>Ext w W) (by kernel_rfl) (by kernel_rfl) (fun W W' h hb=>Ext.step h hb) (fun W h=>h.size) (Below.refl _ _) ?_
 rw[show sR=[sO 0,sO 1,sO 2,sO 3,sO 4,sO 5,sO 6,sO 7,sO 8] by kernel_rfl]
 have d0:(sO 0).dst=some 87:=by kernel_rfl
 have d1:(sO 1).dst=some 88:=by kernel_rfl
 have d2:(sO 2).dst=some 89:=by kernel_rfl
 have d3:(sO 3).dst=some 86:=by kernel_rfl
 have d4:(sO 4).dst=some 90:=by kernel_rfl
 have d5:(sO 5).dst=some 91:=by kernel_rfl
 have d6:(sO 6).dst=some 15:=by kernel_rfl
 have d7:(sO 7).dst=none:=by kernel_rfl
 have d8:(sO 8).dst=some 16:=by kernel_rfl
 refine F_run (v:=.agg c.toArray) (by kernel_rfl) (fun W hW=>?_) ?_
 ·have := ex_load (P := Tryz.prog) (o := sO 0) (a := a) (w := W) (t := 24) (x := .tmp 14) (j := 0) (n := 3) (b := true) (cs := cm 16) (by kernel_rfl) e14 (heap_ext h16 hW) (by kernel_rfl) (by kernel_rfl) (by rw [e16, List.length_append]; omega) nofun
  rw[List.drop_zero,e16,List.take_left' hc3] at this
  exact this
 rw[d0]
 refine F_callE (I:=Value) (fun v=>v) (fun v W=>RepV W W (fun _=>0) 0 (shpV sanP) v) (shpV_mono sanP) (by kernel_rfl) (by kernel_rfl) (fun W hW=>?_) fun v1 hv1=>?_
 ·have en:(execOp (a.put (some 87) (.agg c.toArray)).eval (sO 1)).run Tryz.prog W=.ok (.enter 31 #[.int .i64 2,.int .i64 2,.int .i64 2,.int .i64 2,.int .i64 1]) W:=by
   have:=run_enter (P:=Tryz.prog) (o:=sO 1) (a:=a.put (some 87) (.agg c.toArray)) (f:=31) (x:=.func 31) (caps:=#[]) (cl:={ callee:=.value (.func 31),args:=#[.const (.int .i64 2),.const (.int .i64 2),.const (.int .i64 2),.const (.int .i64 2),.const (.int .i64 1)],argTypes:=#[3,3,3,3,3] }) prog_nm Tryz.func31 rfl (by kernel_rfl) rfl rfl W
   rw[this]
   simp only[List.map_toArray,List.map_cons,List.map_nil]
   rfl
  refine gives_enter en ((path_fok 2 2 2 2 1 W [.int .i64 2,.int .i64 2,.int .i64 2,.int .i64 2,.int .i64 1] ?_).mono ?_)
  ·have i2 : ∀ z : Int, I64 z -> RepV W W (fun _ => 0) 0 (inV z lim) (.int .i64 z) := fun z hz => rv_i.2 ⟨lim64 hz, rfl⟩
   have b2:I64 2:=by unfold I64;omega
   have b1:I64 1:=by unfold I64;omega
   exact rvs_cons.2 ⟨_,i2 2 b2,_,rfl,rvs_cons.2 ⟨_,i2 2 b2,_,rfl,rvs_cons.2 ⟨_,i2 2 b2,_,rfl,rvs_cons.2 ⟨_,i2 2 b2,_,rfl,rvs_cons.2 ⟨_,i2 1 b1,_,rfl,rfl⟩⟩⟩⟩⟩
  ·rintro e W' ⟨v, rfl, hv, hx⟩
   exact⟨v,rfl,v,rfl,hx,hv⟩
 rw[d1]
 refine F_callE (I:=List Value) (fun cs=>.tuple #[.agg cs.toArray,.bool (borderQ sanO sanP).2]) (fun cs W=>GpC W (borderQ sanO sanP).1 cs) (fun cs W W' h hb=>h.ext hb) (by kernel_rfl) (by kernel_rfl) (fun W hW=>?_) fun cs hcs=>?_
 ·have en:(execOp ((a.put (some 87) (.agg c.toArray)).put (some 88) v1).eval (sO 2)).run Tryz.prog W=.ok (.enter 33 #[.agg c.toArray,v1]) W:=by
   have:=run_enter (P:=Tryz.prog) (o:=sO 2) (a:=(a.put (some 87) (.agg c.toArray)).put (some 88) v1) (f:=33) (x:=.func 33) (caps:=#[]) (cl:={ callee:=.value (.func 33),args:=#[.tmp 87,.tmp 88],argTypes:=#[24,24] }) prog_nm Tryz.func33 rfl (by kernel_rfl) rfl rfl W
   rw[this]
   simp only[List.map_toArray,List.map_cons,List.map_nil]
   rw[show ((a.put (some 87) (.agg c.toArray)).put (some 88) v1).eval (.tmp 87)=.agg c.toArray from (put_ne (by decide)).trans (put_lt (by rw[hn];decide)),show ((a.put (some 87) (.agg c.toArray)).put (some 88) v1).eval (.tmp 88)=v1 from put_lt (by rw[put_size,hn];decide)]
   rfl
  refine gives_enter en ((border_fok sanO sanP W _ (rvs_cons.2 ⟨_,A W hW.1,_,rfl,rvs_cons.2 ⟨_,hW.2,_,rfl,rfl⟩⟩)).mono ?_)
  rintro e W' ⟨v,rfl,hv,hx⟩
  obtain⟨cs,rfl,hg⟩:=gpC_val hv
  exact⟨_,rfl,cs,rfl,hx,hg⟩
 rw[d2]
 obtain⟨W0,hW0⟩:=hcs
 obtain⟨h21,h1c⟩:=hW0.2.one
 have hnc:=hW0.2.nd
 clear hW0
 obtain⟨ok,hok⟩:∃ok,(borderQ sanO sanP).2=ok:=⟨_,rfl⟩
 obtain⟨G,hG⟩:∃G,(borderQ sanO sanP).1=G:=⟨_,rfl⟩
 rw[hok,hG]
 refine F_run (v:=.tuple #[.agg cs.toArray,.bool ok]) (by kernel_rfl) (fun W _=>?_) ?_
 ·have := ex_move (P := Tryz.prog) (o := sO 3) (a := ((a.put (some 87) (.agg c.toArray)).put (some 88) v1).put (some 89) (.tuple #[.agg cs.toArray, .bool ok])) (x := .tmp 89) (by kernel_rfl) W
  rw[show ∀b:Act,b.eval (.tmp 89)=b.tmps.getD 89 undef from fun _=>rfl,put_lt (by rw[put_size,put_size,hn];decide)] at this
  exact this
 rw[d3]
 have s86:((((a.put (some 87) (.agg c.toArray)).put (some 88) v1).put (some 89) (.tuple #[.agg cs.toArray,.bool ok])).put (some 86) (.tuple #[.agg cs.toArray,.bool ok])).tmps.size=134:=by simp[put_size,hn]
 have e86:((((a.put (some 87) (.agg c.toArray)).put (some 88) v1).put (some 89) (.tuple #[.agg cs.toArray,.bool ok])).put (some 86) (.tuple #[.agg cs.toArray,.bool ok])).tmps.getD 86 undef=.tuple #[.agg cs.toArray,.bool ok]:=put_lt (by simp[put_size,hn])
 have off86:∀t,t≠86->t≠87->t≠88->t≠89->((((a.put (some 87) (.agg c.toArray)).put (some 88) v1).put (some 89) (.tuple #[.agg cs.toArray,.bool ok])).put (some 86) (.tuple #[.agg cs.toArray,.bool ok])).tmps.getD t undef=a.tmps.getD t undef:=fun t h1 h2 h3 h4=>by rw[put_ne (Ne.symm h1),put_ne (Ne.symm h4),put_ne (Ne.symm h3),put_ne (Ne.symm h2)]
 have hd86:((((a.put (some 87) (.agg c.toArray)).put (some 88) v1).put (some 89) (.tuple #[.agg cs.toArray,.bool ok])).put (some 86) (.tuple #[.agg cs.toArray,.bool ok])).defers=[]:=hd
 generalize (((a.put (some 87) (.agg c.toArray)).put (some 88) v1).put (some 89) (.tuple #[.agg cs.toArray,.bool ok])).put (some 86) (.tuple #[.agg cs.toArray,.bool ok])=b at *
 refine F_run (v:=.agg cs.toArray) (by kernel_rfl) (fun W _=>ex_extract (x:=.tmp 86) (j:=0) (vs:=[.agg cs.toArray,.bool ok]) (by kernel_rfl) e86 rfl W) ?_
 rw[d4]
 refine F_run (v:=.bool ok) (by kernel_rfl) (fun W _=>ex_extract (x:=.tmp 86) (j:=1) (vs:=[.agg cs.toArray,.bool ok]) (by kernel_rfl) (by show (b.put (some 90) _).tmps.getD 86 undef=_;rw[put_ne (by decide)];exact e86) rfl W) ?_
 rw[d5]
 refine F_alloc (.cells zGp.toArray 42) (by kernel_rfl) (by kernel_rfl) (fun W _=>?_) (fun g hg=>?_) (by intro g;kernel_rfl)
 ·obtain ⟨i, i1, i2⟩ := info_of (P := Tryz.prog) (t := 42) (z := .agg zGp.toArray) (by kernel_rfl)
  exact ex_alloc (by kernel_rfl) i1 i2 W
 rw[d6]
 have hgw:w.heap.size<=g:=Nat.le_of_not_lt fun h=>hg (List.mem_range.2 h)
 have sB:((b.put (some 90) (.agg cs.toArray)).put (some 91) (.bool ok)).tmps.size=134:=by simp[put_size,s86]
 refine F_store (fun W=>Ext w W/\GpC W G cs/\W.heap[g]? = some (.cells cs.toArray 42)) (fun W W' h hb=>⟨Ext.step h.1 hb,h.2.1.ext hb,heap_ext h.2.2 hb⟩) (fun _ h=>h.1) (by kernel_rfl) (by kernel_rfl) (fun W hW=>?_) ?_
 ·obtain ⟨⟨⟨x1, _⟩, hg1⟩, hgg⟩ := hW
  obtain⟨o1,o2⟩:=onlyB_setRow (cs':=(zGp.take 0++(cs++zGp.drop (0+cs.length))).toArray) hgg
  have ec:zGp.take 0++(cs++zGp.drop (0+cs.length))=cs:=by rw[List.take_zero,List.nil_append,Nat.zero_add,List.drop_eq_nil_of_le (by rw[h21];decide),List.append_nil]
  refine gives_skip (W:=W.setRow g (zGp.take 0++(cs++zGp.drop (0+cs.length))).toArray) (ex_store (t:=42) (vs:=cs) (x:=.tmp 15) (y:=.tmp 90) (n:=21) (by kernel_rfl) ?_ hgg ?_ (by kernel_rfl) h21 (by rw[h21];decide) h1c) ⟨rfl,by rw[o1.size];exact Nat.le_refl _,x1.trans (o1.below hgw),hg1.only o1 hgg,by rw[o2,ec]⟩
  ·exact put_lt (by rw[sB];decide)
  ·rw [show ∀ c : Act, c.eval (.tmp 90) = c.tmps.getD 90 undef from fun _ => rfl, put_ne (by decide), put_ne (by decide), put_lt (by rw [s86]; decide)]
   rfl
 rw[d7,put_none]
 refine F_run (v:=.bool ok) (by kernel_rfl) (fun W _=>?_) ?_
 ·have := ex_assign (P := Tryz.prog) (o := sO 8) (a := ((b.put (some 90) (.agg cs.toArray)).put (some 91) (.bool ok)).put (some 15) (.pointer (some ⟨g, 0, none⟩))) (x := .tmp 91) (by kernel_rfl) W
  rw[show ∀c:Act,c.eval (.tmp 91)=c.tmps.getD 91 undef from fun _=>rfl,put_ne (by decide),put_lt (by simp[put_size,s86])] at this
  exact this
 rw[d8]
 rintro W ⟨⟨x1,hg1,hgg⟩,_⟩
 have hM':=hM.step x1
 have hno:∀b x,mb (mkS (nF 10) sanD0).m b=some x->r b≠g:=fun b x hb e=>by
  have:=(Array.getElem?_eq_some_iff.1 (hM.blk b x hb).1).1
  omega
 have hM2:=hM'.new (T:=42) (l:=gpL G) hgg (RepL.pre (gpL_rl hg1)) (by have:=hM.ext.size;omega) hno
 have hd1:sanD1=⟨[(5,.eq (blV true)),(10,.eq (blV true)),(13,.eq (blV true)),(14,.eq (ptrN 16)),(15,.eq (ptrN 17)),(16,.eq (blV ok))],sanM++[some ⟨42,gpL G⟩]⟩:=by unfold sanD1;rw[hok,hG]
 rw[hd1] at hQ
 have off:∀t,t≠86->t≠87->t≠88->t≠89->t≠90->t≠91->t≠15->t≠16->((((b.put (some 90) (.agg cs.toArray)).put (some 91) (.bool ok)).put (some 15) (.pointer (some ⟨g,0,none⟩))).put (some 16) (.bool ok)).tmps.getD t undef=a.tmps.getD t undef:=fun t h1 h2 h3 h4 h5 h6 h7 h8=>by
  rw[put_ne (Ne.symm h8),put_ne (Ne.symm h7),put_ne (Ne.symm h6),put_ne (Ne.symm h5)]
  exact off86 t h1 h2 h3 h4
 have up':∀ {v:V1} {x:Value},RepV V w r 17 v x->RepV V W (up r 17 g) 18 v x:=fun {v x} h=>by
  obtain⟨cs',k1,k2⟩:=h
  exact⟨cs',k1.imp fun i cs h=>RepI.grow (Nat.le_succ _) (fun b hb=>up_old hb) i cs (RepI.ext x1 i cs h),k2⟩
 refine hQ _ _ ⟨up r 17 g,upM cm 17 cs,⟨hM2,hd86⟩,?_,fun i v hv=>?_⟩
 ·show (Act.put _ _ _).tmps.size = _
  rw[put_size,put_size,sB]
  kernel_rfl
 ·rcases Tr.sets_get (Tm.get_lt hv).2 with rfl | ⟨x, hx', rfl⟩
  ·trivial
  ·simp only [List.mem_cons, List.not_mem_nil, or_false, Prod.mk.injEq] at hx'
   rcases hx' with⟨rfl,rfl⟩|⟨rfl,rfl⟩|⟨rfl,rfl⟩|⟨rfl,rfl⟩|⟨rfl,rfl⟩|⟨rfl,rfl⟩
   ·rw[off 5 (by decide) (by decide) (by decide) (by decide) (by decide) (by decide) (by decide) (by decide)];exact up' (hT 5 (.one (blV true)) (by kernel_rfl))
   ·rw[off 10 (by decide) (by decide) (by decide) (by decide) (by decide) (by decide) (by decide) (by decide)];exact up' (hT 10 (.one (blV true)) (by kernel_rfl))
   ·rw[off 13 (by decide) (by decide) (by decide) (by decide) (by decide) (by decide) (by decide) (by decide)];exact up' (hT 13 (.one (blV true)) (by kernel_rfl))
   ·rw[off 14 (by decide) (by decide) (by decide) (by decide) (by decide) (by decide) (by decide) (by decide)];exact up' t14
   ·rw [put_ne (by decide), put_lt (by rw [sB]; decide)]
    exact RepI.val (i:=.p 17 0) ⟨Nat.lt_succ_self _,by simp[up]⟩
   ·rw [put_lt (by rw [put_size, sB]; decide)]
    exact rv_v.2 ⟨rfl,rfl⟩
end

set_option maxRecDepth 1000000
section
def KSa:List Con:=[cGapF,cTouch,cLeastG,cBord,cHolds,cRtOf,cNOf,cRight,cCmp,cCmpInt]
def pC:Pf:=⟨true=true,rfl⟩
theorem sanity10:Fok Tryz.prog 10 [] (.one (blV true)) :=
 fokL [] KSa _ (LT.cons san_10 LT.nil) (List.replicate 24 true) (List.replicate 13 pC++([pR (blV true),pR (blV true),pR (blV true),pR (ptrN 16),⟨It.sl 15 4 7=It.sl 15 4 7,rfl⟩]++List.replicate 11 pC)) (by kernel_rfl)
theorem sanC(w:World):Calls Tryz.prog 10 #[] w fun e w'=>e=.returned (.bool true)/\Ext w w' :=
 (sanity10 w [] rfl).mono fun e w' ⟨v,e1,h1,h2⟩=>⟨by rw[e1,(rv_v.1 h1).2],h2⟩
end

set_option maxRecDepth 100000
section
def KMd:List Con:=[dQuart,dApply]
def roundQ(px py r w h:Int):Sh :=
 let q:=fun (t x y:Int)=>applyQ 0 0 t false x y
 let n0:=(px+r+(q 0 w 0).1,py+(q 0 w 0).2)
 let c0:=(n0.1+(q 0 0 r).1,n0.2+(q 0 0 r).2)
 let e0:=(c0.1+(q 0 r 0).1,c0.2+(q 0 r 0).2)
 let n1:=(e0.1+(q 1 h 0).1,e0.2+(q 1 h 0).2)
 let c1:=(n1.1+(q 1 0 r).1,n1.2+(q 1 0 r).2)
 let e1:=(c1.1+(q 1 r 0).1,c1.2+(q 1 r 0).2)
 let n2:=(e1.1+(q 2 w 0).1,e1.2+(q 2 w 0).2)
 let c2:=(n2.1+(q 2 0 r).1,n2.2+(q 2 0 r).2)
 let e2:=(c2.1+(q 2 r 0).1,c2.2+(q 2 r 0).2)
 let n3:=(e2.1+(q 3 h 0).1,e2.2+(q 3 h 0).2)
 let c3:=(n3.1+(q 3 0 r).1,n3.2+(q 3 0 r).2)
 let e3:=(c3.1+(q 3 r 0).1,c3.2+(q 3 r 0).2)
 shL' 2 [lnEd (px+r) py n0.1 n0.2,⟨2,n0.1,n0.2,e0.1,e0.2,c0.1,c0.2⟩,lnEd e0.1 e0.2 n1.1 n1.2,⟨2,n1.1,n1.2,e1.1,e1.2,c1.1,c1.2⟩,
  lnEd e1.1 e1.2 n2.1 n2.2,⟨2,n2.1,n2.2,e2.1,e2.2,c2.1,c2.2⟩,lnEd e2.1 e2.2 n3.1 n3.2,⟨2,n3.1,n3.2,e3.1,e3.2,c3.1,c3.2⟩] 0
theorem roundQ_eq(px py r w h:Int):roundQ px py r w h=roundS px py r w h:=by
 have m0:modZ 0 4=0:=by decide
 have m1:modZ 1 4=1:=by decide
 have m2:modZ 2 4=2:=by decide
 have m3:modZ 3 4=3:=by decide
 have ex:∀ {a b c d e f a' b' c' d' e' f':Int},a=a'->b=b'->c=c'->d=d'->e=e'->f=f'->(⟨2,a,b,c,d,e,f⟩:Ed)=⟨2,a',b',c',d',e',f'⟩:=fun h1 h2 h3 h4 h5 h6=>by rw[h1,h2,h3,h4,h5,h6]
 have lx:∀ {a b c d a' b' c' d':Int},a=a'->b=b'->c=c'->d=d'->lnEd a b c d=lnEd a' b' c' d':=fun h1 h2 h3 h4=>by rw[h1,h2,h3,h4]
 unfold roundQ roundS
 simp only[tn0 m0,tn1 m1,tn2 m2,tn3 m3,Bool.false_eq_true,if_false]
 refine congrArg (fun l=>shL' 2 l 0) ?_
 refine congr (congrArg List.cons (lx ?_ ?_ ?_ ?_)) (congr (congrArg List.cons (ex ?_ ?_ ?_ ?_ ?_ ?_)) (congr (congrArg List.cons (lx ?_ ?_ ?_ ?_)) (congr (congrArg List.cons (ex ?_ ?_ ?_ ?_ ?_ ?_)) (congr (congrArg List.cons (lx ?_ ?_ ?_ ?_)) (congr (congrArg List.cons (ex ?_ ?_ ?_ ?_ ?_ ?_)) (congr (congrArg List.cons (lx ?_ ?_ ?_ ?_)) (congr (congrArg List.cons (ex ?_ ?_ ?_ ?_ ?_ ?_)) rfl)))))))<;>omega
theorem made_0(L:List Int)(h0:nV L 2 6=0):Fok Tryz.prog 12 [⟨false,[.ds L]⟩] (.one (shpV (madeS L))):=by
 unfold madeS
 simp only[if_pos h0]
 exact fokS [xNext] KMd [true] [pT (bq_T h0)] (by kernel_rfl)
theorem made_1(L:List Int)(h0:¬nV L 2 6=0)(h1:nV L 2 6=1):Fok Tryz.prog 12 [⟨false,[.ds L]⟩] (.one (shpV (madeS L))):=by
 unfold madeS
 simp only[if_neg h0,if_pos h1]
 rw[<- roundQ_eq]
 exact fokS [xNext] KMd [false,true] [pF (bq_F h0),pT (bq_T h1)] (by kernel_rfl)
theorem made_2(L:List Int)(h0:¬nV L 2 6=0)(h1:¬nV L 2 6=1)(h2:nV L 2 6=2):Fok Tryz.prog 12 [⟨false,[.ds L]⟩] (.one (shpV (madeS L))):=by
 unfold madeS
 simp only[if_neg h0,if_neg h1,if_pos h2]
 exact fokS [xNext] KMd [false,false,true] [pF (bq_F h0),pF (bq_F h1),pT (bq_T h2)] (by kernel_rfl)
theorem made_3(L:List Int)(h0:¬nV L 2 6=0)(h1:¬nV L 2 6=1)(h2:¬nV L 2 6=2)(h3:nV L 2 6=3):Fok Tryz.prog 12 [⟨false,[.ds L]⟩] (.one (shpV (madeS L))):=by
 unfold madeS
 simp only[if_neg h0,if_neg h1,if_neg h2,if_pos h3]
 exact fokS [xNext] KMd [false,false,false,true] [pF (bq_F h0),pF (bq_F h1),pF (bq_F h2),pT (bq_T h3)] (by kernel_rfl)
theorem path_T{L:List Int}{a:Nat}(h:nV L (a+2) 2=1):pathB L a=true:=by unfold pathB;simpa using h
theorem path_F{L:List Int}{a:Nat}(h:¬nV L (a+2) 2=1):pathB L a=false:=by unfold pathB;simpa using h
def NoK(L:List Int):Prop:=¬nV L 2 6=0/\¬nV L 2 6=1/\¬nV L 2 6=2/\¬nV L 2 6=3
theorem path_1T(L:List Int)(k:NoK L)(hm:nV L 4 3=0)(g0:nV L 7 2=1):Fok Tryz.prog 12 [⟨false,[.ds L]⟩] (.one (shpV (shL' 1 (pathL L 1 5 (nV L 0 50) (nV L 1 50)) (nV L 3 6)))):=by
 simp only[pathL,pathE,pathN,Nat.reduceAdd,path_T (a:=5) g0,if_true,if_false,Bool.false_eq_true]
 exact fokS [xNext] KMd [false,false,false,false,true,true,false] [pF (bq_F k.1),pF (bq_F k.2.1),pF (bq_F k.2.2.1),pF (bq_F k.2.2.2),pT (decide_eq_true (show (0:Int)<1+nV L 4 3 by omega)),pT (bq_T g0),pF (decide_eq_false (show ¬(0+1:Int)<1+nV L 4 3 by omega))] (by kernel_rfl)
theorem path_1F(L:List Int)(k:NoK L)(hm:nV L 4 3=0)(g0:¬nV L 7 2=1):Fok Tryz.prog 12 [⟨false,[.ds L]⟩] (.one (shpV (shL' 1 (pathL L 1 5 (nV L 0 50) (nV L 1 50)) (nV L 3 6)))):=by
 simp only[pathL,pathE,pathN,Nat.reduceAdd,path_F (a:=5) g0,if_true,if_false,Bool.false_eq_true]
 exact fokS [xNext] KMd [false,false,false,false,true,false,false] [pF (bq_F k.1),pF (bq_F k.2.1),pF (bq_F k.2.2.1),pF (bq_F k.2.2.2),pT (decide_eq_true (show (0:Int)<1+nV L 4 3 by omega)),pF (bq_F g0),pF (decide_eq_false (show ¬(0+1:Int)<1+nV L 4 3 by omega))] (by kernel_rfl)
theorem path_2TT(L:List Int)(k:NoK L)(hm:nV L 4 3=1)(g0:nV L 7 2=1)(g1:nV L 13 2=1):Fok Tryz.prog 12 [⟨false,[.ds L]⟩] (.one (shpV (shL' 1 (pathL L 2 5 (nV L 0 50) (nV L 1 50)) (nV L 3 6)))):=by
 simp only[pathL,pathE,pathN,Nat.reduceAdd,path_T (a:=5) g0,path_T (a:=11) g1,if_true,if_false,Bool.false_eq_true]
 exact fokS [xNext] KMd [false,false,false,false,true,true,true,true,false] [pF (bq_F k.1),pF (bq_F k.2.1),pF (bq_F k.2.2.1),pF (bq_F k.2.2.2),pT (decide_eq_true (show (0:Int)<1+nV L 4 3 by omega)),pT (bq_T g0),pT (decide_eq_true (show (0+1:Int)<1+nV L 4 3 by omega)),pT (bq_T g1),pF (decide_eq_false (show ¬(0+1+1:Int)<1+nV L 4 3 by omega))] (by kernel_rfl)
theorem path_2TF(L:List Int)(k:NoK L)(hm:nV L 4 3=1)(g0:nV L 7 2=1)(g1:¬nV L 13 2=1):Fok Tryz.prog 12 [⟨false,[.ds L]⟩] (.one (shpV (shL' 1 (pathL L 2 5 (nV L 0 50) (nV L 1 50)) (nV L 3 6)))):=by
 simp only[pathL,pathE,pathN,Nat.reduceAdd,path_T (a:=5) g0,path_F (a:=11) g1,if_true,if_false,Bool.false_eq_true]
 exact fokS [xNext] KMd [false,false,false,false,true,true,true,false,false] [pF (bq_F k.1),pF (bq_F k.2.1),pF (bq_F k.2.2.1),pF (bq_F k.2.2.2),pT (decide_eq_true (show (0:Int)<1+nV L 4 3 by omega)),pT (bq_T g0),pT (decide_eq_true (show (0+1:Int)<1+nV L 4 3 by omega)),pF (bq_F g1),pF (decide_eq_false (show ¬(0+1+1:Int)<1+nV L 4 3 by omega))] (by kernel_rfl)
theorem path_2FT(L:List Int)(k:NoK L)(hm:nV L 4 3=1)(g0:¬nV L 7 2=1)(g1:nV L 10 2=1):Fok Tryz.prog 12 [⟨false,[.ds L]⟩] (.one (shpV (shL' 1 (pathL L 2 5 (nV L 0 50) (nV L 1 50)) (nV L 3 6)))):=by
 simp only[pathL,pathE,pathN,Nat.reduceAdd,path_F (a:=5) g0,path_T (a:=8) g1,if_true,if_false,Bool.false_eq_true]
 exact fokS [xNext] KMd [false,false,false,false,true,false,true,true,false] [pF (bq_F k.1),pF (bq_F k.2.1),pF (bq_F k.2.2.1),pF (bq_F k.2.2.2),pT (decide_eq_true (show (0:Int)<1+nV L 4 3 by omega)),pF (bq_F g0),pT (decide_eq_true (show (0+1:Int)<1+nV L 4 3 by omega)),pT (bq_T g1),pF (decide_eq_false (show ¬(0+1+1:Int)<1+nV L 4 3 by omega))] (by kernel_rfl)
theorem path_2FF(L:List Int)(k:NoK L)(hm:nV L 4 3=1)(g0:¬nV L 7 2=1)(g1:¬nV L 10 2=1):Fok Tryz.prog 12 [⟨false,[.ds L]⟩] (.one (shpV (shL' 1 (pathL L 2 5 (nV L 0 50) (nV L 1 50)) (nV L 3 6)))):=by
 simp only[pathL,pathE,pathN,Nat.reduceAdd,path_F (a:=5) g0,path_F (a:=8) g1,if_true,if_false,Bool.false_eq_true]
 exact fokS [xNext] KMd [false,false,false,false,true,false,true,false,false] [pF (bq_F k.1),pF (bq_F k.2.1),pF (bq_F k.2.2.1),pF (bq_F k.2.2.2),pT (decide_eq_true (show (0:Int)<1+nV L 4 3 by omega)),pF (bq_F g0),pT (decide_eq_true (show (0+1:Int)<1+nV L 4 3 by omega)),pF (bq_F g1),pF (decide_eq_false (show ¬(0+1+1:Int)<1+nV L 4 3 by omega))] (by kernel_rfl)
theorem path_3TTT(L:List Int)(k:NoK L)(hm:nV L 4 3=2)(g0:nV L 7 2=1)(g1:nV L 13 2=1)(g2:nV L 19 2=1):Fok Tryz.prog 12 [⟨false,[.ds L]⟩] (.one (shpV (shL' 1 (pathL L 3 5 (nV L 0 50) (nV L 1 50)) (nV L 3 6)))):=by
 simp only[pathL,pathE,pathN,Nat.reduceAdd,path_T (a:=5) g0,path_T (a:=11) g1,path_T (a:=17) g2,if_true,if_false,Bool.false_eq_true]
 exact fokS [xNext] KMd [false,false,false,false,true,true,true,true,true,true,false] [pF (bq_F k.1),pF (bq_F k.2.1),pF (bq_F k.2.2.1),pF (bq_F k.2.2.2),pT (decide_eq_true (show (0:Int)<1+nV L 4 3 by omega)),pT (bq_T g0),pT (decide_eq_true (show (0+1:Int)<1+nV L 4 3 by omega)),pT (bq_T g1),pT (decide_eq_true (show (0+1+1:Int)<1+nV L 4 3 by omega)),pT (bq_T g2),pF (decide_eq_false (show ¬(0+1+1+1:Int)<1+nV L 4 3 by omega))] (by kernel_rfl)
theorem path_3TTF(L:List Int)(k:NoK L)(hm:nV L 4 3=2)(g0:nV L 7 2=1)(g1:nV L 13 2=1)(g2:¬nV L 19 2=1):Fok Tryz.prog 12 [⟨false,[.ds L]⟩] (.one (shpV (shL' 1 (pathL L 3 5 (nV L 0 50) (nV L 1 50)) (nV L 3 6)))):=by
 simp only[pathL,pathE,pathN,Nat.reduceAdd,path_T (a:=5) g0,path_T (a:=11) g1,path_F (a:=17) g2,if_true,if_false,Bool.false_eq_true]
 exact fokS [xNext] KMd [false,false,false,false,true,true,true,true,true,false,false] [pF (bq_F k.1),pF (bq_F k.2.1),pF (bq_F k.2.2.1),pF (bq_F k.2.2.2),pT (decide_eq_true (show (0:Int)<1+nV L 4 3 by omega)),pT (bq_T g0),pT (decide_eq_true (show (0+1:Int)<1+nV L 4 3 by omega)),pT (bq_T g1),pT (decide_eq_true (show (0+1+1:Int)<1+nV L 4 3 by omega)),pF (bq_F g2),pF (decide_eq_false (show ¬(0+1+1+1:Int)<1+nV L 4 3 by omega))] (by kernel_rfl)
theorem path_3TFT(L:List Int)(k:NoK L)(hm:nV L 4 3=2)(g0:nV L 7 2=1)(g1:¬nV L 13 2=1)(g2:nV L 16 2=1):Fok Tryz.prog 12 [⟨false,[.ds L]⟩] (.one (shpV (shL' 1 (pathL L 3 5 (nV L 0 50) (nV L 1 50)) (nV L 3 6)))):=by
 simp only[pathL,pathE,pathN,Nat.reduceAdd,path_T (a:=5) g0,path_F (a:=11) g1,path_T (a:=14) g2,if_true,if_false,Bool.false_eq_true]
 exact fokS [xNext] KMd [false,false,false,false,true,true,true,false,true,true,false] [pF (bq_F k.1),pF (bq_F k.2.1),pF (bq_F k.2.2.1),pF (bq_F k.2.2.2),pT (decide_eq_true (show (0:Int)<1+nV L 4 3 by omega)),pT (bq_T g0),pT (decide_eq_true (show (0+1:Int)<1+nV L 4 3 by omega)),pF (bq_F g1),pT (decide_eq_true (show (0+1+1:Int)<1+nV L 4 3 by omega)),pT (bq_T g2),pF (decide_eq_false (show ¬(0+1+1+1:Int)<1+nV L 4 3 by omega))] (by kernel_rfl)
theorem path_3TFF(L:List Int)(k:NoK L)(hm:nV L 4 3=2)(g0:nV L 7 2=1)(g1:¬nV L 13 2=1)(g2:¬nV L 16 2=1):Fok Tryz.prog 12 [⟨false,[.ds L]⟩] (.one (shpV (shL' 1 (pathL L 3 5 (nV L 0 50) (nV L 1 50)) (nV L 3 6)))):=by
 simp only[pathL,pathE,pathN,Nat.reduceAdd,path_T (a:=5) g0,path_F (a:=11) g1,path_F (a:=14) g2,if_true,if_false,Bool.false_eq_true]
 exact fokS [xNext] KMd [false,false,false,false,true,true,true,false,true,false,false] [pF (bq_F k.1),pF (bq_F k.2.1),pF (bq_F k.2.2.1),pF (bq_F k.2.2.2),pT (decide_eq_true (show (0:Int)<1+nV L 4 3 by omega)),pT (bq_T g0),pT (decide_eq_true (show (0+1:Int)<1+nV L 4 3 by omega)),pF (bq_F g1),pT (decide_eq_true (show (0+1+1:Int)<1+nV L 4 3 by omega)),pF (bq_F g2),pF (decide_eq_false (show ¬(0+1+1+1:Int)<1+nV L 4 3 by omega))] (by kernel_rfl)
theorem path_3FTT(L:List Int)(k:NoK L)(hm:nV L 4 3=2)(g0:¬nV L 7 2=1)(g1:nV L 10 2=1)(g2:nV L 16 2=1):Fok Tryz.prog 12 [⟨false,[.ds L]⟩] (.one (shpV (shL' 1 (pathL L 3 5 (nV L 0 50) (nV L 1 50)) (nV L 3 6)))):=by
 simp only[pathL,pathE,pathN,Nat.reduceAdd,path_F (a:=5) g0,path_T (a:=8) g1,path_T (a:=14) g2,if_true,if_false,Bool.false_eq_true]
 exact fokS [xNext] KMd [false,false,false,false,true,false,true,true,true,true,false] [pF (bq_F k.1),pF (bq_F k.2.1),pF (bq_F k.2.2.1),pF (bq_F k.2.2.2),pT (decide_eq_true (show (0:Int)<1+nV L 4 3 by omega)),pF (bq_F g0),pT (decide_eq_true (show (0+1:Int)<1+nV L 4 3 by omega)),pT (bq_T g1),pT (decide_eq_true (show (0+1+1:Int)<1+nV L 4 3 by omega)),pT (bq_T g2),pF (decide_eq_false (show ¬(0+1+1+1:Int)<1+nV L 4 3 by omega))] (by kernel_rfl)
theorem path_3FTF(L:List Int)(k:NoK L)(hm:nV L 4 3=2)(g0:¬nV L 7 2=1)(g1:nV L 10 2=1)(g2:¬nV L 16 2=1):Fok Tryz.prog 12 [⟨false,[.ds L]⟩] (.one (shpV (shL' 1 (pathL L 3 5 (nV L 0 50) (nV L 1 50)) (nV L 3 6)))):=by
 simp only[pathL,pathE,pathN,Nat.reduceAdd,path_F (a:=5) g0,path_T (a:=8) g1,path_F (a:=14) g2,if_true,if_false,Bool.false_eq_true]
 exact fokS [xNext] KMd [false,false,false,false,true,false,true,true,true,false,false] [pF (bq_F k.1),pF (bq_F k.2.1),pF (bq_F k.2.2.1),pF (bq_F k.2.2.2),pT (decide_eq_true (show (0:Int)<1+nV L 4 3 by omega)),pF (bq_F g0),pT (decide_eq_true (show (0+1:Int)<1+nV L 4 3 by omega)),pT (bq_T g1),pT (decide_eq_true (show (0+1+1:Int)<1+nV L 4 3 by omega)),pF (bq_F g2),pF (decide_eq_false (show ¬(0+1+1+1:Int)<1+nV L 4 3 by omega))] (by kernel_rfl)
theorem path_3FFT(L:List Int)(k:NoK L)(hm:nV L 4 3=2)(g0:¬nV L 7 2=1)(g1:¬nV L 10 2=1)(g2:nV L 13 2=1):Fok Tryz.prog 12 [⟨false,[.ds L]⟩] (.one (shpV (shL' 1 (pathL L 3 5 (nV L 0 50) (nV L 1 50)) (nV L 3 6)))):=by
 simp only[pathL,pathE,pathN,Nat.reduceAdd,path_F (a:=5) g0,path_F (a:=8) g1,path_T (a:=11) g2,if_true,if_false,Bool.false_eq_true]
 exact fokS [xNext] KMd [false,false,false,false,true,false,true,false,true,true,false] [pF (bq_F k.1),pF (bq_F k.2.1),pF (bq_F k.2.2.1),pF (bq_F k.2.2.2),pT (decide_eq_true (show (0:Int)<1+nV L 4 3 by omega)),pF (bq_F g0),pT (decide_eq_true (show (0+1:Int)<1+nV L 4 3 by omega)),pF (bq_F g1),pT (decide_eq_true (show (0+1+1:Int)<1+nV L 4 3 by omega)),pT (bq_T g2),pF (decide_eq_false (show ¬(0+1+1+1:Int)<1+nV L 4 3 by omega))] (by kernel_rfl)
theorem path_3FFF(L:List Int)(k:NoK L)(hm:nV L 4 3=2)(g0:¬nV L 7 2=1)(g1:¬nV L 10 2=1)(g2:¬nV L 13 2=1):Fok Tryz.prog 12 [⟨false,[.ds L]⟩] (.one (shpV (shL' 1 (pathL L 3 5 (nV L 0 50) (nV L 1 50)) (nV L 3 6)))):=by
 simp only[pathL,pathE,pathN,Nat.reduceAdd,path_F (a:=5) g0,path_F (a:=8) g1,path_F (a:=11) g2,if_true,if_false,Bool.false_eq_true]
 exact fokS [xNext] KMd [false,false,false,false,true,false,true,false,true,false,false] [pF (bq_F k.1),pF (bq_F k.2.1),pF (bq_F k.2.2.1),pF (bq_F k.2.2.2),pT (decide_eq_true (show (0:Int)<1+nV L 4 3 by omega)),pF (bq_F g0),pT (decide_eq_true (show (0+1:Int)<1+nV L 4 3 by omega)),pF (bq_F g1),pT (decide_eq_true (show (0+1+1:Int)<1+nV L 4 3 by omega)),pF (bq_F g2),pF (decide_eq_false (show ¬(0+1+1+1:Int)<1+nV L 4 3 by omega))] (by kernel_rfl)
theorem made_fok(L:List Int):Fok Tryz.prog 12 [⟨false,[.ds L]⟩] (.one (shpV (madeS L))):=by
 by_cases h0:nV L 2 6=0
 ·exact made_0 L h0
 by_cases h1:nV L 2 6=1
 ·exact made_1 L h0 h1
 by_cases h2:nV L 2 6=2
 ·exact made_2 L h0 h1 h2
 by_cases h3:nV L 2 6=3
 ·exact made_3 L h0 h1 h2 h3
 have k:NoK L:=⟨h0,h1,h2,h3⟩
 have hb:=nV_bd L 4 (m:=3) (by omega)
 unfold madeS
 simp only[if_neg h0,if_neg h1,if_neg h2,if_neg h3]
 obtain hm|hm|hm:nV L 4 3=0\/nV L 4 3=1\/nV L 4 3=2:=by omega
 ·rw [show (1 + nV L 4 3).toNat = 1 by omega]
  by_cases g0:nV L 7 2=1
  ·exact path_1T L k hm g0
  ·exact path_1F L k hm g0
 ·rw [show (1 + nV L 4 3).toNat = 2 by omega]
  by_cases g0:nV L 7 2=1
  ·by_cases g1 : nV L 13 2 = 1
   ·exact path_2TT L k hm g0 g1
   ·exact path_2TF L k hm g0 g1
  ·by_cases g1 : nV L 10 2 = 1
   ·exact path_2FT L k hm g0 g1
   ·exact path_2FF L k hm g0 g1
 ·rw [show (1 + nV L 4 3).toNat = 3 by omega]
  by_cases g0:nV L 7 2=1
  ·by_cases g1 : nV L 13 2 = 1
   ·by_cases g2 : nV L 19 2 = 1
    ·exact path_3TTT L k hm g0 g1 g2
    ·exact path_3TTF L k hm g0 g1 g2
   ·by_cases g2 : nV L 16 2 = 1
    ·exact path_3TFT L k hm g0 g1 g2
    ·exact path_3TFF L k hm g0 g1 g2
  ·by_cases g1 : nV L 10 2 = 1
   ·by_cases g2 : nV L 16 2 = 1
    ·exact path_3FTT L k hm g0 g1 g2
    ·exact path_3FTF L k hm g0 g1 g2
   ·by_cases g2 : nV L 13 2 = 1
    ·exact path_3FFT L k hm g0 g1 g2
    ·exact path_3FFF L k hm g0 g1 g2
end
noncomputable def tailF(X:List Eff)(K:List Con)(f:FuncId)(m:Nat)(c:Code)(d:Ds)(q:List Bool):Option (AV×List Prop) :=
 match Tryz.prog.funcs[f]? with
 | none=>none
 | some fn=>match aCodeL Tryz.prog (env X) (callK X K) [] c (mkS m d) q with
  | some (e,s,ps,[])=>(match e with
   | .ex _=>none
   | _=>match aRess Tryz.prog s fn.results.toList with
    | some l=>(match outVs (blI (l.map V1.l).flatten) l,outB s.m (blI (l.map V1.l).flatten) with
     | some l',some []=>some (oneA l',ps)
     | _,_=>none)
    | none=>none)
  | _=>none
theorem tail_wp{X:List Eff}{K:List Con}{f:FuncId}{fn:Func}{m:Nat}{c:Code}{d:Ds}{res:AV}(q:List Bool)(pf:List Pf)(h:tailF X K f m c d q=some (res,pf.map Pf.p))(hf:Tryz.prog.funcs[f]? = some fn){V w:World}{a:Act}{R:Ending->World->Prop}(hJ:JJ V (mkS m d) a w)(hR:∀v w',RepA w' w' (fun _=>0) 0 res v->Ext V w'->R (.returned v) w') :
  c.wp Tryz.prog (bodyPost Tryz.prog fn R) a w:=by
 have hp:=all_pf pf
 generalize pf.map Pf.p=ps at h hp
 unfold tailF at h
 rw[hf] at h
 simp only at h
 split at h
 ·rename_i e s ps1 hc
  split at h
  ·cases h
  ·rename_i hex
   split at h
   ·rename_i l hl
    split at h
    ·rename_i l' hl' hms
     simp only[Option.some.injEq,Prod.mk.injEq] at h
     obtain⟨h1,rfl⟩:=h
     refine aCodeL_wp (snd_ok X K) LpOk.nil hc hp hJ fun a' W' hJ'=>?_
     have key:=fin_ok hl hl' hms (res:=(res,[])) (by rw[h1]) hJ'
     obtain⟨k1,v,k2,v',r,cm,k3,k4,k5⟩:=key
     cases k3
     have post:∃v,(results fn a'.tmps).run Tryz.prog W'=.ok v W'/\R (.returned v) W':=⟨v,k2,hR _ _ (RepA.none k5) k4.ext⟩
     cases e with
     | nm=>exact⟨k1,post⟩
     | rt=>exact⟨k1,post⟩
     | ex k=>exact absurd rfl (hex k)
    ·cases h
   ·cases h
 ·cases h

section
section
variable {P:Program} {ops:Array Oper} {S:World->Prop} {Q:Act->World->Prop} {tail:List Oper} {o:Oper} {l:List Oper} {a:Act} {own:List Nat} {F:World->Prop}
theorem T_run{v:Value}(hw:Region.wanted o (yielded ops a.tmps)=true)(hr:∀w,S w->(execOp a.eval o).run P w=.ok (.value v) w)(h:WpT P ops S Q tail l (a.put o.dst v) own F) :
  WpT P ops S Q tail (o::l) a own F:=.pure v (.inl ⟨hw,hr⟩) h
theorem T_done(h:WpF P ops (fun _=>True) Q tail a own F):WpT P ops S Q tail [] a own F:=h
end
end

set_option maxHeartbeats 1000000
set_option maxRecDepth 100000
section
attribute [local go_sem] Gives givesU
def cutS(s:Sh):Sh:=⟨s.k,min s.n 4,s.e,s.r⟩
theorem cutC(s:Sh)(p:Option Addr)(c:Nat)(w:World)(h:ShAt w s p c):Calls Tryz.prog 11 #[.agg #[.int .i64 s.k,.slice p s.n c,.int .i64 s.r]] w fun e w'=>∃c',e=.returned (.agg #[.int .i64 s.k,.slice p (min s.n 4) c',.int .i64 s.r])/\min s.n 4<=c'/\c'<=maxLen/\Ext w w':=by
 have hle:=h.le
 have hmx:=h.mx
 clear h
 obtain⟨k,n,e,r⟩:=s
 simp only at *
 go_enter Tryz.func11,Tryz.ntmps11
 go_wp2
 have e1:(min (n:Int) 4).toNat=min n 4:=by omega
 rw[e1]
 refine bodyPost_ret (v:=.agg #[.int .i64 k,.slice p (min n 4) c,.int .i64 r]) (by simp only[results,Tryz.results11];go_simp) rfl ?_
 exact⟨c,rfl,by omega,hmx,bxx⟩
theorem rowC_less{R:List It->List Value->Prop}{V:World}{z n m:Nat}{f:Nat->List It}{p:Option Addr}{c c':Nat}(h:RowC R V z n f (.slice p n c))(hm:m<=n)(h1:m<=c')(h2:c'<=maxLen):RowC R V z m f (.slice p m c'):=by
 obtain⟨a,c0,e,_,_,k3⟩:=h
 cases e
 exact⟨p,c',rfl,h1,h2,fun i hi=>k3 i (by omega)⟩
theorem cut_fok(s:Sh):Fok Tryz.prog 11 [shpV s] (.one (shpV (cutS s))):=fun W vals hv=>by
 obtain⟨v,h1,_,rfl,hv1⟩:=rvs_cons.1 hv
 cases hv1
 obtain⟨p,c,rfl,h⟩:=ShAt.of h1
 refine (cutC s p c W h).mono ?_
 rintro e w' ⟨c',rfl,k1,k2,hx⟩
 have h':=h.ext hx
 exact⟨_,rfl,ShAt.rep (s:=cutS s) ⟨h'.k,h'.r,k1,k2,rowC_less h'.row (by show min s.n 4<=s.n;omega) k1 k2⟩,hx⟩
theorem mdC(L:List Int)(v:Value)(W:World)(hv:IntsC W L v):Calls Tryz.prog 12 #[v] W fun e w'=>∃v,e=.returned v/\RepV w' w' (fun _=>0) 0 (shpV (madeS L)) v/\Ext W w' :=
 made_fok L W [v] (rvs_cons.2 ⟨_,RepI.val (i:=.ds L) ⟨_,rfl,hv⟩,_,rfl,rfl⟩)
theorem ShAt.only3{W W':World}{s:Sh}{p:Option Addr}{c B:Nat}{xs:Array Value}{T:TypeId}(h:ShAt W s p c)(ho:OnlyB B W W')(hB:W.heap[B]? = some (.cells xs T))(hs:xs.size<7):ShAt W' s p c:=by
 refine⟨h.k,h.r,h.le,h.mx,?_⟩
 obtain⟨a,c',e,h1,h2,h3⟩:=h.row
 refine⟨a,c',e,h1,h2,fun i hi=>?_⟩
 obtain⟨g,o,ys,T',k1,k2,k3,cs,d,k4,k5⟩:=h3 i hi
 have hl:7<=ys.size:=by
  obtain⟨_,_,rfl,⟨rfl,_⟩,_,_,rfl,⟨rfl,_⟩,_,_,rfl,⟨rfl,_⟩,_,_,rfl,⟨rfl,_⟩,_,_,rfl,⟨rfl,_⟩,_,_,rfl,⟨rfl,_⟩,_,_,rfl,⟨rfl,_⟩,rfl⟩:=k5
  have:=congrArg List.length k4
  simp only[List.length_drop,Array.length_toList,List.length_append,List.length_cons,List.length_nil] at this
  omega
 have hg:g≠B:=fun e=>by
  subst e
  rw[k2] at hB
  injection hB with hB
  injection hB with hB
  subst hB
  omega
 refine⟨g,o,ys,T',k1,(ho.block g hg).trans k2,k3,cs,d,k4,?_⟩
 obtain⟨c0,d0,e0,a0,c1,d1,e1,a1,c2,d2,e2,a2,c3,d3,e3,a3,c4,d4,e4,a4,c5,d5,e5,a5,c6,d6,e6,a6,e7⟩:=k5
 exact⟨c0,d0,e0,a0,c1,d1,e1,a1,c2,d2,e2,a2,c3,d3,e3,a3,c4,d4,e4,a4,c5,d5,e5,a5,c6,d6,e6,a6,e7⟩
theorem cut_call(s:Sh)(v:Value)(w:World)(hv:RepV w w (fun _=>0) 0 (shpV s) v):Calls Tryz.prog 11 #[v] w fun e w'=>∃p c,e=.returned (.agg #[.int .i64 s.k,.slice p (cutS s).n c,.int .i64 s.r])/\ShAt w' (cutS s) p c/\Ext w w':=by
 refine (cut_fok s w [v] (rvs_cons.2 ⟨_,hv,_,rfl,rfl⟩)).mono ?_
 rintro e w' ⟨v,rfl,hv,hx⟩
 obtain⟨p,c,rfl,h⟩:=ShAt.of hv
 exact⟨p,c,rfl,h,hx⟩
def KRw:List Con:=[cSame]
def rwD(a b c:Sh):Ds:=⟨[(3,.eq (fpV (shL a))),(4,.eq (fpV (shL b))),(7,.eq (blV true)),(8,.eq (fpV (shL c)))],[]⟩
theorem raw_tail(a b c:Sh){w V:World}(A:Act)(B3 B4 B8:Nat)(hsz:A.tmps.size=nF 3)(hd:A.defers=[])(h3:A.tmps.getD 3 undef=ptrA B3)(h4:A.tmps.getD 4 undef=ptrA B4)(h7:A.tmps.getD 7 undef=.bool true)(h8:A.tmps.getD 8 undef=ptrA B8)(f3:FpAt V B3 (shL a))(f4:FpAt V B4 (shL b))(f8:FpAt V B8 (shL c))(hx:Ext w V) :
  (restS 4 (bodyF Tryz.prog 3)).wp Tryz.prog (bodyPost Tryz.prog Tryz.f3 fun e w'=>e=.returned (.bool true)/\Ext w w') A V:=by
 obtain⟨tm,df⟩:=A
 obtain rfl:df=[]:=hd
 have hJ:JJ V (mkS (nF 3) (rwD a b c)) ⟨tm,[]⟩ V:=old_J (a:=⟨tm,[]⟩) hsz fun z hz=>by
  simp only[List.mem_cons,List.not_mem_nil,or_false] at hz
  rcases hz with rfl|rfl|rfl|rfl
  ·rw[h3];exact f3.rv
  ·rw[h4];exact f4.rv
  ·rw[h7];exact rv_v.2 ⟨rfl,rfl⟩
  ·rw[h8];exact f8.rv
 refine tail_wp (X:=[]) (K:=KRw) (res:=.one (blV true)) [true,true,true] [pT (rfl:true=true),pEd a,pEd b,pT (rfl:true=true),pEd a,pEd c,pT (rfl:true=true),pEd c,pEd b] (by kernel_rfl) Tryz.func3 hJ fun v w' hv hx'=>?_
 exact⟨by rw[(rv_v.1 hv).2],Ext.step hx hx'⟩
end
end Go.Proofs.YtceemiodpccbhaaGreat
