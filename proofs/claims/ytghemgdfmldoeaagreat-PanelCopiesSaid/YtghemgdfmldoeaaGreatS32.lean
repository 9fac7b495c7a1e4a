import Derived.Test.YtghemgdfmldoeaaGreatS31
import Derived.Test.YtghemgdfmldoeaaGreatS28
import Derived.Test.YtghemgdfmldoeaaGreatS29
set_option linter.unusedVariables false
set_option linter.unusedSimpArgs false

namespace Go.Proofs.YtghemgdfmldoeaaGreat
open Go.RowKit

set_option maxHeartbeats 4000000
set_option maxRecDepth 100000
section
section
variable {P:Program} {ops:Array Oper} {Q:Exit->Act->World->Prop} {o:Oper} {a:Act} {w W:World}
theorem wpl_skip{rest:List Oper}(hw:Region.wanted o (yielded ops a.tmps)=true)(h:(execOp a.eval o).run P w=.ok .skip W)(hk:wpList P ops Q rest (a.put o.dst undef) W):wpList P ops Q (o::rest) a w:=by
 unfold wpList
 rw[if_pos hw]
 exact .inl (Gives.wp (gives_skip (R:=fun v w'=>v=undef/\w'=W) h ⟨rfl,rfl⟩) fun v w' h=>by obtain⟨rfl,rfl⟩:=h;exact hk)
theorem wpl_val{rest:List Oper}{x:Value}(hw:Region.wanted o (yielded ops a.tmps)=true)(h:(execOp a.eval o).run P w=.ok (.value x) W)(hk:wpList P ops Q rest (a.put o.dst x) W):wpList P ops Q (o::rest) a w:=by
 unfold wpList
 rw[if_pos hw]
 exact .inl (Gives.wp (gives_val (R:=fun v w'=>v=x/\w'=W) h ⟨rfl,rfl⟩) fun v w' h=>by obtain⟨rfl,rfl⟩:=h;exact hk)
theorem ex_load{t T:TypeId}{x:Operand}{g n j:Nat}{b:Bool}{cs:List Value}(ho:o.op=.load t x)(hx:a.eval x=.pointer (some ⟨g,j,none⟩))(hg:w.heap[g]? = some (.cells cs.toArray T))(h1:szT P t=some n)(h2:agT P t=some b)(h3:j+n<=cs.length)(h4:b=false->n=1):(execOp a.eval o).run P w=.ok (.value (cellsV b ((cs.drop j).take n))) w:=by
 refine exec_val (m:=Instr.loadAt t (a.eval x)) (by unfold execOp;rw[ho]) ?_
 rw[hx]
 simp only[Instr.loadAt,Instr.sureAddr,Sem.run_bind,Sem.run_pure,Result.andThen_ok]
 exact run_loadVarT hg h1 h2 h3 h4
theorem ex_store{t T:TypeId}{x y:Operand}{g n j:Nat}{old vs:List Value}(ho:o.op=.store t x y)(hx:a.eval x=.pointer (some ⟨g,j,none⟩))(hg:w.heap[g]? = some (.cells old.toArray T))(hy:(a.eval y).cells=vs.toArray)(hn:szT P t=some n)(hl:vs.length=n)(hj:j+vs.length<=old.length)(h1:∀v∈vs,v.oneCell'=true) :
  (execOp a.eval o).run P w=.ok .skip (w.setRow g (old.take j++(vs++old.drop (j+vs.length))).toArray):=by
 have:=run_storeA (P:=P) hg hy hn hl hj h1
 unfold execOp
 simp only[ho,hx,Sem.run_bind,this,Result.andThen_ok,Sem.run_pure]
end
structure But2 (a b:Nat) (W W':World):Prop where
 os:W'.os=W.os
 tape:W'.tape=W.tape
 output:W'.output=W.output
 size:W.heap.size<=W'.heap.size
 block:∀k,k<W.heap.size->k≠a->k≠b->W'.heap[k]? = W.heap[k]?
theorem But2.ext{a b:Nat}{W W':World}(h:Ext W W'):But2 a b W W':=⟨h.os,h.tape,h.output,h.size,fun k hk _ _=>h.block k hk⟩
theorem But2.fst{a b:Nat}{W W' W2:World}(h:But2 a b W W')(k:OnlyB a W' W2):But2 a b W W2:=⟨k.os.trans h.os,k.tape.trans h.tape,k.output.trans h.output,by rw[k.size];exact h.size,fun i hi ha hb=>(k.block i ha).trans (h.block i hi ha hb)⟩
theorem But2.snd{a b:Nat}{W W' W2:World}(h:But2 a b W W')(k:OnlyB b W' W2):But2 a b W W2:=⟨k.os.trans h.os,k.tape.trans h.tape,k.output.trans h.output,by rw[k.size];exact h.size,fun i hi ha hb=>(k.block i hb).trans (h.block i hi ha hb)⟩
theorem keep_ok(Bs Bl:Nat)(y0 y1 y2 y3 y4 y5 y6 y7 y8 y9 y10 y11 y12 y13 y14 y15 y16 y17 y18 y19 y20 x0 x1 x2 x3 x4 x5 x6 x7 x8 x9 x10 x11 x12 x13 x14 x15 x16 x17 x18 x19 x20:Value)(sm:Bool)(c:Int)(w:World)(hs:w.heap[Bs]? = some (.cells #[.bool sm] 4))(hl:w.heap[Bl]? = some (.cells #[x0,x1,x2,x3,x4,x5,x6,x7,x8,x9,x10,x11,x12,x13,x14,x15,x16,x17,x18,x19,x20] 89))(hne:Bs≠Bl)(h1:∀v ∈ [y0,y1,y2,y3,y4,y5,y6,y7,y8,y9,y10,y11,y12,y13,y14,y15,y16,y17,y18,y19,y20],v.oneCell'=true)
  (hc:∀W,Ext w W->Calls Tryz.prog 99 #[.agg #[y1,y2,y3,y4,y5,y6],.agg #[x1,x2,x3,x4,x5,x6]] W fun e W'=>e=.returned (.int .i64 c)/\Ext W W') :
  Calls Tryz.prog 129 #[.agg #[y0,y1,y2,y3,y4,y5,y6,y7,y8,y9,y10,y11,y12,y13,y14,y15,y16,y17,y18,y19,y20],.pointer (some ⟨Bs,0,none⟩),.pointer (some ⟨Bl,0,none⟩)] w fun e W'=>(∃v,e=.returned v)/\But2 Bs Bl w W'/\if (!sm||decide (c<0))=true then W'.heap[Bs]? = some (.cells #[.bool true] 4)/\W'.heap[Bl]? = some (.cells #[y0,y1,y2,y3,y4,y5,y6,y7,y8,y9,y10,y11,y12,y13,y14,y15,y16,y17,y18,y19,y20] 89) else Ext w W':=by
 have bs:Bs<w.heap.size:=(Array.getElem?_eq_some_iff.1 hs).1
 have bl:Bl<w.heap.size:=(Array.getElem?_eq_some_iff.1 hl).1
 have ls:w.cell? ⟨Bs,0,none⟩=some (.bool sm):=by rw[cell_of_row _ _ _ _ _ _ hs];simp
 have l0:∀i,w.cell? ⟨Bl,i,none⟩=[x0,x1,x2,x3,x4,x5,x6,x7,x8,x9,x10,x11,x12,x13,x14,x15,x16,x17,x18,x19,x20][i]? := fun i=>by rw[cell_of_row _ _ _ _ _ _ hl];simp
 have l1:=l0 1
 have l2:=l0 2
 have l3:=l0 3
 have l4:=l0 4
 have l5:=l0 5
 have l6:=l0 6
 simp only[List.getElem?_cons_succ,List.getElem?_cons_zero] at l1 l2 l3 l4 l5 l6
 have HC:=Lib.hid hc
 have HL:=Lib.hid hl
 have HS:=Lib.hid hs
 have H1:=Lib.hid h1
 clear hc l0 hl hs h1
 have fin:∀(W:World) (z3 z4 z5 z6 z7 z8 z9 z10 z11 z12 z13 z14:Value) (Q:Exit->Act->World->Prop),But2 Bs Bl w W->W.heap[Bs]? = some (.cells #[.bool sm] 4)->W.heap[Bl]? = some (.cells #[x0,x1,x2,x3,x4,x5,x6,x7,x8,x9,x10,x11,x12,x13,x14,x15,x16,x17,x18,x19,x20] 89)->(∃g,z3=.pointer (some ⟨g,0,none⟩)/\W.heap[g]? = some (.cells #[y0,y1,y2,y3,y4,y5,y6,y7,y8,y9,y10,y11,y12,y13,y14,y15,y16,y17,y18,y19,y20] 89)) ->
   (∀a W',a.defers=[]->But2 Bs Bl w W'->W'.heap[Bs]? = some (.cells #[.bool true] 4)->W'.heap[Bl]? = some (.cells #[y0,y1,y2,y3,y4,y5,y6,y7,y8,y9,y10,y11,y12,y13,y14,y15,y16,y17,y18,y19,y20] 89)->Q .normal a W') ->
   ((regOf 2 (bodyF Tryz.prog 129)).getD .skip).wp Tryz.prog Q { tmps:=#[.agg #[y0,y1,y2,y3,y4,y5,y6,y7,y8,y9,y10,y11,y12,y13,y14,y15,y16,y17,y18,y19,y20],.pointer (some ⟨Bs,0,none⟩),.pointer (some ⟨Bl,0,none⟩),z3,z4,z5,z6,z7,z8,z9,z10,z11,z12,z13,z14],defers:=[] } W:=by
  rintro W z3 z4 z5 z6 z7 z8 z9 z10 z11 z12 z13 z14 Q hB hs hl ⟨g,rfl,hg⟩ hQ
  have hb:bodyF Tryz.prog 129=(Tryz.f129.body).getD .skip:=by unfold bodyF;rw[Tryz.func129];rfl
  rw[hb]
  simp only[Tryz.f129,Option.getD,regOf,Nat.reduceEqDiff,reduceIte]
  refine wp_region_lit ?_
  refine wpl_val (x:=cellsV true ((([y0,y1,y2,y3,y4,y5,y6,y7,y8,y9,y10,y11,y12,y13,y14,y15,y16,y17,y18,y19,y20]:List Value).drop 0).take 21)) (W:=W) (by kernel_rfl) ?_ ?_
  ·exact ex_load (cs:=[y0,y1,y2,y3,y4,y5,y6,y7,y8,y9,y10,y11,y12,y13,y14,y15,y16,y17,y18,y19,y20]) rfl (by rfl) hg (n:=21) (by kernel_rfl) (b:=true) (by kernel_rfl) (by simp) nofun
  obtain⟨o1,o2⟩:=onlyB_setRow (cs':=(([x0,x1,x2,x3,x4,x5,x6,x7,x8,x9,x10,x11,x12,x13,x14,x15,x16,x17,x18,x19,x20]:List Value).take 0++([y0,y1,y2,y3,y4,y5,y6,y7,y8,y9,y10,y11,y12,y13,y14,y15,y16,y17,y18,y19,y20]++([x0,x1,x2,x3,x4,x5,x6,x7,x8,x9,x10,x11,x12,x13,x14,x15,x16,x17,x18,x19,x20]:List Value).drop (0+21))).toArray) hl
  have o2':(W.setRow Bl (([x0,x1,x2,x3,x4,x5,x6,x7,x8,x9,x10,x11,x12,x13,x14,x15,x16,x17,x18,x19,x20]:List Value).take 0++([y0,y1,y2,y3,y4,y5,y6,y7,y8,y9,y10,y11,y12,y13,y14,y15,y16,y17,y18,y19,y20]++([x0,x1,x2,x3,x4,x5,x6,x7,x8,x9,x10,x11,x12,x13,x14,x15,x16,x17,x18,x19,x20]:List Value).drop (0+21))).toArray).heap[Bl]? = some (.cells #[y0,y1,y2,y3,y4,y5,y6,y7,y8,y9,y10,y11,y12,y13,y14,y15,y16,y17,y18,y19,y20] 89):=o2
  generalize hW1:W.setRow Bl (([x0,x1,x2,x3,x4,x5,x6,x7,x8,x9,x10,x11,x12,x13,x14,x15,x16,x17,x18,x19,x20]:List Value).take 0++([y0,y1,y2,y3,y4,y5,y6,y7,y8,y9,y10,y11,y12,y13,y14,y15,y16,y17,y18,y19,y20]++([x0,x1,x2,x3,x4,x5,x6,x7,x8,x9,x10,x11,x12,x13,x14,x15,x16,x17,x18,x19,x20]:List Value).drop (0+21))).toArray=W1 at o1 o2'
  refine wpl_skip (W:=W1) (by kernel_rfl) ?_ ?_
  ·rw [<- hW1]
   exact ex_store (vs:=[y0,y1,y2,y3,y4,y5,y6,y7,y8,y9,y10,y11,y12,y13,y14,y15,y16,y17,y18,y19,y20]) rfl (by rfl) hl (by rfl) (n:=21) (by kernel_rfl) (by rfl) (by simp) H1.out
  have s1:W1.heap[Bs]? = some (.cells #[.bool sm] 4):=(o1.block Bs hne).trans hs
  obtain⟨p1,p2⟩:=onlyB_setRow (cs':=(([.bool sm]:List Value).take 0++(([.bool true]:List Value)++([.bool sm]:List Value).drop (0+1))).toArray) s1
  refine wpl_skip (W:=W1.setRow Bs ((([.bool sm]:List Value).take 0++(([.bool true]:List Value)++([.bool sm]:List Value).drop (0+1))).toArray)) (by kernel_rfl) ?_ ?_
  ·exact ex_store (vs:=[.bool true]) (old:=[.bool sm]) rfl (by rfl) s1 (by rfl) (n:=1) (by kernel_rfl) (by rfl) (by simp) (fun v hv=>by rw[List.mem_singleton.1 hv];rfl)
  refine wpList_nil ?_
  exact hQ _ _ rfl ((hB.snd o1).fst p1) p2 ((p1.block Bl (fun e=>hne e.symm)).trans o2')
 have hb:bodyF Tryz.prog 129=(Tryz.f129.body).getD .skip:=by unfold bodyF;rw[Tryz.func129];rfl
 rw[hb] at fin
 simp only[Tryz.f129,Option.getD,regOf,Nat.reduceEqDiff,reduceIte] at fin
 have FIN:=Lib.hid fin
 clear fin hb
 have hx0:Ext w (w.alloc (.cells #[y0,y1,y2,y3,y4,y5,y6,y7,y8,y9,y10,y11,y12,y13,y14,y15,y16,y17,y18,y19,y20] 89)):=bxx
 have n0:(w.alloc (.cells #[y0,y1,y2,y3,y4,y5,y6,y7,y8,y9,y10,y11,y12,y13,y14,y15,y16,y17,y18,y19,y20] 89)).heap[w.heap.size]? = some (.cells #[y0,y1,y2,y3,y4,y5,y6,y7,y8,y9,y10,y11,y12,y13,y14,y15,y16,y17,y18,y19,y20] 89):=World.alloc_heap_new _ _
 have N0:=Lib.hid n0
 have X0:=Lib.hid hx0
 clear n0 hx0
 cases sm with
 | false =>
  go_enter Tryz.func129,Tryz.ntmps129
  go_upto_region 2 with (fail)
  refine FIN.out _ _ _ _ _ _ _ _ _ _ _ _ _ _ (.ext X0.out) (heap_ext HS.out X0.out) (heap_ext HL.out X0.out) ⟨_,rfl,N0.out⟩ ?_
  rintro⟨tm,df⟩ W rfl h1 h2 h3
  go_end0
  exact⟨⟨_,rfl⟩,h1,h2,h3⟩
 | true =>
  have C2:=Lib.hid (HC.out _ X0.out)
  by_cases hc:c<0
  ·have b0 : decide (c < 0) = true := by simpa using hc
   go_enter Tryz.func129,Tryz.ntmps129
   go_upto_region 2 with (fail)
   refine C2.out.mono ?_
   rintro e W1 ⟨rfl,hx1⟩
   have x2:=Lib.hid (Ext.step X0.out hx1)
   have n2:=Lib.hid (heap_ext N0.out hx1)
   clear hx1
   go_upto_region 2 with (fail)
   refine FIN.out _ _ _ _ _ _ _ _ _ _ _ _ _ _ (.ext x2.out) (heap_ext HS.out x2.out) (heap_ext HL.out x2.out) ⟨_,rfl,n2.out⟩ ?_
   rintro⟨tm,df⟩ W rfl h1 h2 h3
   go_end0
   exact⟨⟨_,rfl⟩,h1,by rw[if_pos (by simpa using hc)];exact⟨h2,h3⟩⟩
  ·have b0 : decide (c < 0) = false := by simpa using hc
   go_enter Tryz.func129,Tryz.ntmps129
   go_wp2_with fail
   refine C2.out.mono ?_
   rintro e W1 ⟨rfl,hx1⟩
   have x2:=Lib.hid (Ext.step X0.out hx1)
   clear hx1
   go_wp2
   all_goals
    go_end0
    exact⟨⟨_,rfl⟩,.ext x2.out,x2.out⟩
end

set_option maxRecDepth 100000
section
def KGp:List Con:=[cShChk,cIns]
theorem right_fok(s:Sh):Fok Tryz.prog 89 [shpV s] (.one (blV (chkS s==0))):=fok KGp [] [pEd s] (by kernel_rfl)
def aroB(a b:Sh):Bool:=(a.k==2)&&insS a (b.e 0).ax (b.e 0).ay
theorem around_fok(a b:Sh)(ha:a.n<=1000)(hb:0<b.n):Fok Tryz.prog 90 [shpV a,shpV b] (.one (blV (aroB a b))):=by
 unfold aroB
 cases h:a.k==2 with
 | true=>exact fok KGp [true] [pT h,pP (show 0<=(0:Int)/\(0:Int)<b.n by omega),pEd a,pP ha] (by kernel_rfl)
 | false=>exact fok KGp [false] [pF h] (by kernel_rfl)
structure Gp where
 m:Bool
 d:Rt
 a:Sp
 b:Sp
def gpV(g:Gp):V1:=⟨true,[.v (.bool g.m)]++(rtV g.d).l++(spV g.a).l++(spV g.b).l⟩
def gpL(g:Gp):List It:=[.v (.bool g.m)]++(rtV g.d).l++(spV g.a).l++(spV g.b).l
theorem least_fok(g:Gp):Fok Tryz.prog 130 [⟨false,[.fp (gpL g)]⟩] (.one (gpV g)):=fok [] [] [] (by kernel_rfl)
end

set_option maxHeartbeats 4000000
set_option maxRecDepth 100000
section
open Go.RowKit Go.Shelf
attribute [local go_sem] Oper.semAt_some
attribute [local go_sem] Gives givesU
structure KpP (X:List Nat) (A B:World):Prop where
 size:A.heap.size<=B.heap.size
 same:∀(k:Nat) (o:Obj),A.heap[k]? = some o->o.isCells=true->k∉X->B.heap[k]? = some o
theorem KpP.refl(X:List Nat)(A:World):KpP X A A:=⟨Nat.le_refl _,fun _ _ h _ _=>h⟩
theorem KpP.trans{X:List Nat}{A B C:World}(h:KpP X A B)(k:KpP X B C):KpP X A C:=⟨Nat.le_trans h.size k.size,fun i o hi ho hx=>k.same i o (h.same i o hi ho hx) ho hx⟩
theorem KpP.ext{X:List Nat}{A B:World}(h:Ext A B):KpP X A B:=⟨h.size,fun i o hi _ _=>(h.block i (Array.getElem?_eq_some_iff.1 hi).1).trans hi⟩
theorem KpP.drew{X:List Nat}{A B:World}(h:KpP X A B):KpP X A B.drew:=h.trans ⟨Nat.le_refl _,fun _ _ h _ _=>h⟩
theorem KpP.cell{X:List Nat}{A B:World}(h:KpP X A B){k i:Nat}{v:Value}(hc:A.cell? ⟨k,i,none⟩=some v)(hk:k∉X):B.cell? ⟨k,i,none⟩=some v:=by
 obtain⟨o,ho,hcl⟩:=cells_of_cell hc
 exact (World.cell?_of_block (a:=⟨k,i,none⟩) ((h.same k o ho hcl hk).trans ho.symm)).trans hc
theorem EdAt.kept{X:List Nat}{A B:World}{g o:Nat}{e:Ed}(h:EdAt A g o e)(hk:KpP X A B)(hg:g∉X):EdAt B g o e:=⟨hk.cell h.c0 hg,hk.cell h.c1 hg,hk.cell h.c2 hg,hk.cell h.c3 hg,hk.cell h.c4 hg,hk.cell h.c5 hg,hk.cell h.c6 hg⟩
theorem pairs_stops(m:Nat)(hm:1<=m)(X:List Nat)(n n':Nat)(e e':Nat->Ed)(v B1 B2 c c':Nat)(p p':Option Addr)(w:World)(hB1:B1<w.heap.size)(hB2:B2<w.heap.size)(hv:v<=w.heap.size)(hX:∀x∈X,v<=x/\x<w.heap.size)(h1X:B1∉X)(h2X:B2∉X)
  (c0:w.cell? ⟨B1,1,none⟩=some (.slice p n c)) (c1:w.cell? ⟨B2,1,none⟩=some (.slice p' n' c')) (hR:EdRow v w p n e) (hR':EdRow v w p' n' e') (hn:n<=1000) (hn':n'<=1000) :
  SeqStopsK Fence.wide m Tryz.prog 131 #[.pointer (some ⟨B1,0,none⟩),.pointer (some ⟨B2,0,none⟩)] (fun i:Nat=>#[edA (e (i/n')),edA (e' (i%n'))]) (KpP X) (fun xs=>xs=upT (n*n')) (fun pre=>∃k,k<n*n'/\pre=upT (k+1)) (n*n') w:=fun L J Jx W hW hA hAx hY h0=>by
 have k0:W.cell? ⟨B1,1,none⟩=some (.slice p n c):=(hW.cell (p:=⟨B1,1,none⟩) hB1).trans c0
 have k1:W.cell? ⟨B2,1,none⟩=some (.slice p' n' c'):=(hW.cell (p:=⟨B2,1,none⟩) hB2).trans c1
 have hrW:EdRow v W p n e:=hR.below (hW.mono hv)
 have hrW':EdRow v W p' n' e':=hR'.below (hW.mono hv)
 have hWs:=hW.size
 have nX:∀k,W.heap.size<=k->k∉X:=fun k hk hx=>by have:=(hX k hx).2;omega
 have vX:∀k,k<v->k∉X:=fun k hk hx=>by have:=(hX k hx).1;omega
 clear c0 c1 hR hR'
 refine callsIn_of_wp Tryz.func131 rfl trivial ?_ rfl
 simp only[Tryz.ntmps131,List.size_toArray,List.length_cons,List.length_nil,Nat.reduceAdd,Nat.reduceSub,Array.replicate_succ,Array.replicate_zero,List.push_toArray,List.append_toArray,List.nil_append,List.cons_append]
 have NX:=Lib.hid nX
 have VX:=Lib.hid vX
 have HRW:=Lib.hid hrW
 have HRW':=Lib.hid hrW'
 have HA:=Lib.hid hA
 have HY:=Lib.hid hY
 clear nX vX hrW hrW' hA hY hAx
 gi_wp2
 gi_loopw [11] (fun i wr=>∃k:Nat,i=.int .i64 (k:Int)/\k<=n/\J (upT (k*n')) wr/\KpP X W wr) (fun i _=>n-(intOf i).toNat)
 case atStart=>exact⟨0,rfl,by omega,by rw[Nat.zero_mul];exact h0,KpP.refl _ _⟩
 case round =>
  obtain⟨k,rfl,hk,hJ,hK⟩:=hrel
  by_cases hlt:k<n
  ·obtain ⟨g, o, rfl, hg, E0⟩ := HRW.out k hlt
   obtain⟨a0,a1,a2,a3,a4,a5,a6⟩:=E0.kept hK (VX.out g hg)
   have m0:=hK.cell k0 h1X
   have m1:=hK.cell k1 h2X
   have ix0:0<=(k:Int):=by omega
   have ix2:(k:Int)<(n:Int):=by omega
   have b1:B1<wr.heap.size:=by have:=hK.size;omega
   have b2:B2<wr.heap.size:=by have:=hK.size;omega
   have HK:=Lib.hid hK
   have HJ:=Lib.hid hJ
   clear hK hJ E0
   gi_wp2
   have hg0:=KpP.ext (X:=X) (below_alloc wr (.cells #[.int .i64 (e k).k,.int .i64 (e k).ax,.int .i64 (e k).ay,.int .i64 (e k).bx,.int .i64 (e k).by',.int .i64 (e k).cx,.int .i64 (e k).cy] 108))
   have hJ0:J (upT (k*n'+0)) (wr.alloc (.cells #[.int .i64 (e k).k,.int .i64 (e k).ax,.int .i64 (e k).ay,.int .i64 (e k).bx,.int .i64 (e k).by',.int .i64 (e k).cx,.int .i64 (e k).cy] 108)):=HA.out _ _ _ none HJ.out (World.grownBy_alloc _ _ none) (fun r h=>by cases h)
   have hE0:EdAt (wr.alloc (.cells #[.int .i64 (e k).k,.int .i64 (e k).ax,.int .i64 (e k).ay,.int .i64 (e k).bx,.int .i64 (e k).by',.int .i64 (e k).cx,.int .i64 (e k).cy] 108)) wr.heap.size 0 (e k):=⟨by go_simp,by go_simp,by go_simp,by go_simp,by go_simp,by go_simp,by go_simp⟩
   have hK0:=HK.out.trans hg0
   have hsz:wr.heap.size<(wr.alloc (.cells #[.int .i64 (e k).k,.int .i64 (e k).ax,.int .i64 (e k).ay,.int .i64 (e k).bx,.int .i64 (e k).by',.int .i64 (e k).cx,.int .i64 (e k).cy] 108)).heap.size:=by simp
   have IN:=Lib.hid (And.intro hJ0 (And.intro hK0 (And.intro hE0 hsz)))
   have hWr:=Lib.hid (show W.heap.size<=wr.heap.size from HK.out.size)
   obtain⟨z,hz⟩:∃z,wr.heap.size=z:=⟨_,rfl⟩
   clear hg0 hJ0 hE0 hK0 hsz m0 m1 a0 a1 a2 a3 a4 a5 a6 b1 b2
   rw[hz] at IN hWr ⊢
   generalize wr.alloc (.cells #[.int .i64 (e k).k,.int .i64 (e k).ax,.int .i64 (e k).ay,.int .i64 (e k).bx,.int .i64 (e k).by',.int .i64 (e k).cx,.int .i64 (e k).cy] 108)=W0 at IN ⊢
   gi_loopw [18] (fun i W2=>∃q:Nat,i=.int .i64 (q:Int)/\q<=n'/\J (upT (k*n'+q)) W2/\KpP X W W2/\EdAt W2 z 0 (e k)/\z<W2.heap.size) (fun i _=>n'-(intOf i).toNat)
   case atStart=>exact⟨0,rfl,by omega,IN.out⟩
   case round =>
    obtain⟨q,rfl,hq,hJ,hK,hE,hzW⟩:=hrel
    by_cases hlq:q<n'
    ·obtain ⟨g', o', rfl, hg', E1⟩ := HRW'.out q hlq
     obtain⟨b0,b1,b2,b3,b4,b5,b6⟩:=E1.kept hK (VX.out g' hg')
     obtain⟨c0,c1,c2,c3,c4,c5,c6⟩:=hE
     have iy0:0<=(q:Int):=by omega
     have iy2:(q:Int)<(n':Int):=by omega
     have hkk:Hid (k*n'+q<n*n'):=Lib.hid (by have:=Nat.mul_le_mul_right n' (show k+1<=n by omega);rw[Nat.succ_mul] at this;omega)
     have hnX:z∉X:=NX.out z hWr.out
     have hJ1:J (upT (k*n'+q)) (wr.alloc (.cells #[.int .i64 (e' q).k,.int .i64 (e' q).ax,.int .i64 (e' q).ay,.int .i64 (e' q).bx,.int .i64 (e' q).by',.int .i64 (e' q).cx,.int .i64 (e' q).cy] 108)):=HA.out _ _ _ none hJ (World.grownBy_alloc _ _ none) (fun r h=>by cases h)
     obtain⟨f1,t1,x1,y1,hy1,hR1⟩:=HY.out (upT (k*n'+q)) (k*n'+q) _ hJ1 (by rw[upT_len];exact hkk.out)
     have ed:(k*n'+q)/n'=k:=by rw[Nat.mul_comm,Nat.mul_add_div (by omega),Nat.div_eq_of_lt hlq];rfl
     have em:(k*n'+q)%n'=q:=by rw[Nat.mul_comm,Nat.mul_add_mod,Nat.mod_eq_of_lt hlq]
     rw[ed,em] at hy1
     unfold edA at hy1
     have hK1:=hK.trans (KpP.ext (X:=X) (below_alloc wr (.cells #[.int .i64 (e' q).k,.int .i64 (e' q).ax,.int .i64 (e' q).ay,.int .i64 (e' q).bx,.int .i64 (e' q).by',.int .i64 (e' q).cx,.int .i64 (e' q).cy] 108)))
     have hE1:EdAt (wr.alloc (.cells #[.int .i64 (e' q).k,.int .i64 (e' q).ax,.int .i64 (e' q).ay,.int .i64 (e' q).bx,.int .i64 (e' q).by',.int .i64 (e' q).cx,.int .i64 (e' q).cy] 108)) z 0 (e k):=⟨by go_simp,by go_simp,by go_simp,by go_simp,by go_simp,by go_simp,by go_simp⟩
     have hs1:z<(wr.alloc (.cells #[.int .i64 (e' q).k,.int .i64 (e' q).ax,.int .i64 (e' q).ay,.int .i64 (e' q).bx,.int .i64 (e' q).by',.int .i64 (e' q).cx,.int .i64 (e' q).cy] 108)).heap.size:=by simp;omega
     have HK1:=Lib.hid hK1
     have HE1:=Lib.hid hE1
     have HS1:=Lib.hid hs1
     have hR2:=Lib.hid (RoundIn.mono hR1 (R':=fun e W'=>∃b:Bool,e=.returned (.bool b)/\Hid (if b then J (upT (k*n'+q)++[k*n'+q]) W'/\KpP X (wr.alloc (.cells #[.int .i64 (e' q).k,.int .i64 (e' q).ax,.int .i64 (e' q).ay,.int .i64 (e' q).bx,.int .i64 (e' q).by',.int .i64 (e' q).cx,.int .i64 (e' q).cy] 108)) W' else Jx (upT (k*n'+q)++[k*n'+q]) W')) (by
      rintro e' W1 (⟨rfl,h1,h2⟩|⟨rfl,h1⟩)
      ·exact⟨true,rfl,Lib.hid (by rw[if_pos rfl];exact⟨h1,h2⟩)⟩
      ·exact⟨false,rfl,Lib.hid (by rw[if_neg (by decide)];exact h1)⟩))
     clear hJ hJ1 hR1 hK hK1 hE1 hs1 E1 ed em
     gi_wp2
     refine RoundIn.mono hR2.out ?_
     rintro e2 W1 ⟨b,rfl,h1⟩
     cases b
     ·have h2 : Hid (Jx (upT (k * n' + q + 1)) W1) := Lib.hid (by have := h1.out; rw [if_neg (by decide)] at this; rw [upT_succ]; exact this)
      clear h1 hy1 hR2
      gi_wp2
      refine bodyPost_ret (results_none rfl _ _ _) rfl ?_
      exact⟨⟨_,rfl⟩,.inr ⟨_,⟨k*n'+q,hkk.out,rfl⟩,h2.out⟩⟩
     ·have h2:Hid (J (upT (k*n'+(q+1))) W1/\KpP X W W1/\EdAt W1 z 0 (e k)/\z<W1.heap.size):=Lib.hid (by
       have:=h1.out
       rw[if_pos rfl] at this
       rw[<- Nat.add_assoc,upT_succ]
       exact⟨this.1,HK1.out.trans this.2,HE1.out.kept this.2 hnX,Nat.lt_of_lt_of_le HS1.out this.2.size⟩)
      have wq:IntKind.i64.wrap ((q:Int)+1)=((q+1:Nat):Int):=by rw[wrap_in (by unfold I64;omega)];omega
      clear h1 hy1 hR2
      gi_wp2
      exact⟨⟨q+1,by simp,by omega,h2.out⟩,by simp[intOf];omega⟩
    ·obtain rfl : q = n' := by omega
     have ix:¬((q:Int)<(q:Int)):=by omega
     have h2:Hid (J (upT ((k+1)*q)) wr/\KpP X W wr):=Lib.hid ⟨by rw[Nat.succ_mul];exact hJ,hK⟩
     have wk:IntKind.i64.wrap ((k:Int)+1)=((k+1:Nat):Int):=by rw[wrap_in (by unfold I64;omega)];omega
     clear hJ hK hE
     gi_wp2
     exact⟨⟨k+1,by simp,by omega,h2.out⟩,by simp[intOf];omega⟩
  ·obtain rfl : k = n := by omega
   have ix:¬((k:Int)<(k:Int)):=by omega
   have h2:=Lib.hid hJ
   clear hJ hK
   gi_wp2
   go_end0
   first
    | exact⟨⟨_,rfl⟩,.inl ⟨_,rfl,h2.out⟩⟩
    | exact⟨⟨_,rfl⟩,.inl h2.out⟩
end

set_option maxRecDepth 100000
section
def Gp.no:Gp:=⟨false,Rt.no,Sp.no,Sp.no⟩
def Pr.gp(p:Pr):Gp:=⟨false,p.d,p.a,p.b⟩
def gapK(c:Nat->Pr):Nat->Gp
 | 0=>Gp.no
 | k+1=>if (k==0||decide (cmpRt (c k).d (gapK c k).d<0))=true then (c k).gp else gapK c k
def ints64(g:Gp):Prop:=(I64 g.d.add/\I64 g.d.s)/\(I64 g.a.x/\I64 g.a.y/\I64 g.a.dx/\I64 g.a.dy/\I64 g.a.p/\I64 g.a.q/\I64 g.a.len)/\I64 g.b.x/\I64 g.b.y/\I64 g.b.dx/\I64 g.b.dy/\I64 g.b.p/\I64 g.b.q/\I64 g.b.len
def GpC(W:World)(g:Gp)(cs:List Value):Prop:=∃n p l c m q k d,cs=[.bool g.m,.int .i64 g.d.add,.int .i64 g.d.s,.bool n,.slice p l c,.bool m,.slice q k d,.int .i64 g.a.x,.int .i64 g.a.y,.int .i64 g.a.dx,.int .i64 g.a.dy,.int .i64 g.a.p,.int .i64 g.a.q,.int .i64 g.a.len,.int .i64 g.b.x,.int .i64 g.b.y,.int .i64 g.b.dx,.int .i64 g.b.dy,.int .i64 g.b.p,.int .i64 g.b.q,.int .i64 g.b.len]/\NR W n p l c g.d.n/\NR W m q k d g.d.d/\ints64 g
theorem GpC.ext{W W':World}{g:Gp}{cs:List Value}(h:GpC W g cs)(hx:Ext W W'):GpC W' g cs:=by
 obtain⟨n,p,l,c,m,q,k,d,e,h1,h2,h3⟩:=h
 exact⟨n,p,l,c,m,q,k,d,e,h1.ext hx,h2.ext hx,h3⟩
theorem nr_kp{X:List Nat}{W W':World}{n:Bool}{p:Option Addr}{l c:Nat}{x:Nm}(hX:∀g∈X,∃xs T,W.heap[g]? = some (.cells xs T)/\∀v∈xs.toList,nd v)(hk:KpP X W W')(h:NR W n p l c x):NR W' n p l c x:=by
 refine⟨h.1,h.2.1,h.2.2.1,h.2.2.2.1,h.2.2.2.2.1,fun h0=>?_⟩
 obtain⟨b,o,e,hb,hc⟩:=h.2.2.at h0
 have hbX:b∉X:=fun hx=>by
  obtain⟨xs,T,h1,h2⟩:=hX b hx
  have:=hc 0 h0
  obtain⟨xs⟩:=xs
  rw[cell_of_row _ _ _ _ _ _ h1] at this
  exact h2 _ (List.mem_of_getElem? (by simpa using this)) _ rfl
 exact⟨b,o,e,Nat.lt_of_lt_of_le hb hk.size,fun i hi=>hk.cell (hc i hi) hbX⟩
theorem GpC.kp{X:List Nat}{W W':World}{g:Gp}{cs:List Value}(hX:∀g∈X,∃xs T,W.heap[g]? = some (.cells xs T)/\∀v∈xs.toList,nd v)(hk:KpP X W W')(h:GpC W g cs):GpC W' g cs:=by
 obtain⟨n,p,l,c,m,q,k,d,e,h1,h2,h3⟩:=h
 exact⟨n,p,l,c,m,q,k,d,e,nr_kp hX hk h1,nr_kp hX hk h2,h3⟩
theorem GpC.nd{W:World}{g:Gp}{cs:List Value}(h:GpC W g cs):∀v∈cs,Go.Proofs.YtghemgdfmldoeaaGreat.nd v:=by
 obtain⟨n,p,l,c,m,q,k,d,rfl,_⟩:=h
 intro v hv
 simp only[List.mem_cons,List.not_mem_nil,or_false] at hv
 rcases hv with rfl|rfl|rfl|rfl|rfl|rfl|rfl|rfl|rfl|rfl|rfl|rfl|rfl|rfl|rfl|rfl|rfl|rfl|rfl|rfl|rfl<;>exact fun z h=>nomatch h
def GpAt(W:World)(B:Nat)(g:Gp):Prop:=∃cs,W.heap[B]? = some (.cells cs.toArray 89)/\GpC W g cs
theorem GpAt.ext{W W':World}{B:Nat}{g:Gp}(h:GpAt W B g)(hx:Ext W W'):GpAt W' B g:=by
 obtain⟨cs,h1,h2⟩:=h
 exact⟨cs,heap_ext h1 hx,h2.ext hx⟩
theorem gp_rt{W:World}{g:Gp}{n m:Bool}{p q:Option Addr}{l c k d:Nat}(h1:NR W n p l c g.d.n)(h2:NR W m q k d g.d.d)(h3:ints64 g):RepV W W (fun _=>0) 0 (rtV g.d) (.agg #[.int .i64 g.d.add,.int .i64 g.d.s,.bool n,.slice p l c,.bool m,.slice q k d]) :=
 rv_t.2 ⟨_,rl_i.2 ⟨lim64 h3.1.1,_,rfl,rl_i.2 ⟨lim64 h3.1.2,_,rfl,rl_num.2 ⟨_,_,_,_,h1,_,rfl,rl_num.2 ⟨_,_,_,_,h2,_,rfl,rfl⟩⟩⟩⟩,rfl⟩
theorem keep_gp(Bs Bl:Nat)(g h:Gp)(ys:List Value)(sm:Bool)(w:World)(hs:w.heap[Bs]? = some (.cells #[.bool sm] 4))(hl:GpAt w Bl h)(hne:Bs≠Bl)(hy:GpC w g ys) :
  Calls Tryz.prog 129 #[.agg ys.toArray,.pointer (some ⟨Bs,0,none⟩),.pointer (some ⟨Bl,0,none⟩)] w fun e W'=>(∃v,e=.returned v)/\But2 Bs Bl w W'/\W'.heap[Bs]? = some (.cells #[.bool true] 4)/\GpAt W' Bl (if (!sm||decide (cmpRt g.d h.d<0))=true then g else h):=by
 obtain⟨cs,hc,hcs⟩:=hl
 have ndx:=hcs.nd
 obtain⟨n,p,l,c,m,q,k,d,rfl,h1,h2,h3⟩:=id hcs
 obtain⟨n',p',l',c',m',q',k',d',rfl,y1,y2,y3⟩:=id hy
 have hcmp:∀W,Ext w W->Calls Tryz.prog 99 #[.agg #[.int .i64 g.d.add,.int .i64 g.d.s,.bool n',.slice p' l' c',.bool m',.slice q' k' d'],.agg #[.int .i64 h.d.add,.int .i64 h.d.s,.bool n,.slice p l c,.bool m,.slice q k d]] W fun e W'=>e=.returned (.int .i64 (cmpRt g.d h.d))/\Ext W W':=fun W hW=>by
  have f:=cCmp.ok (args:=[rtV g.d,rtV h.d]) (res:=_) (ps:=_) rfl (by trivial)
  refine (f W _ (rvs_cons.2 ⟨_,gp_rt (y1.ext hW) (y2.ext hW) y3,_,rfl,rvs_cons.2 ⟨_,gp_rt (h1.ext hW) (h2.ext hW) h3,_,rfl,rfl⟩⟩)).mono ?_
  rintro e W' ⟨v,rfl,hv,hx⟩
  exact⟨congrArg _ (rv_i.1 hv).2,hx⟩
 have one:∀v ∈ [.bool g.m,.int .i64 g.d.add,.int .i64 g.d.s,.bool n',.slice p' l' c',.bool m',.slice q' k' d',.int .i64 g.a.x,.int .i64 g.a.y,.int .i64 g.a.dx,.int .i64 g.a.dy,.int .i64 g.a.p,.int .i64 g.a.q,.int .i64 g.a.len,.int .i64 g.b.x,.int .i64 g.b.y,.int .i64 g.b.dx,.int .i64 g.b.dy,.int .i64 g.b.p,.int .i64 g.b.q,.int .i64 g.b.len],Value.oneCell' v=true:=fun v hv=>by
  simp only[List.mem_cons,List.not_mem_nil,or_false] at hv
  rcases hv with rfl|rfl|rfl|rfl|rfl|rfl|rfl|rfl|rfl|rfl|rfl|rfl|rfl|rfl|rfl|rfl|rfl|rfl|rfl|rfl|rfl<;>rfl
 refine (keep_ok Bs Bl _ _ _ _ _ _ _ _ _ _ _ _ _ _ _ _ _ _ _ _ _ _ _ _ _ _ _ _ _ _ _ _ _ _ _ _ _ _ _ _ _ _ sm (cmpRt g.d h.d) w hs hc hne one hcmp).mono ?_
 rintro e W' ⟨h4,h5,h6⟩
 refine⟨h4,h5,?_⟩
 split at h6
 ·rename_i hif
  rw[if_pos hif]
  have hk:KpP [Bs,Bl] w W':=⟨h5.size,fun i o hi _ hx=>by
   simp only[List.mem_cons,List.not_mem_nil,or_false,not_or] at hx
   exact (h5.block i (Array.getElem?_eq_some_iff.1 hi).1 hx.1 hx.2).trans hi⟩
  refine⟨h6.1,_,h6.2,hy.kp (X:=[Bs,Bl]) (fun x hx=>?_) hk⟩
  simp only[List.mem_cons,List.not_mem_nil,or_false] at hx
  rcases hx with rfl|rfl
  ·exact⟨_,_,hs,fun v hv=>by rw[List.mem_singleton.1 hv];exact fun z h=>nomatch h⟩
  ·exact⟨_,_,hc,ndx⟩
 ·rename_i hif
  rw[if_neg hif]
  have hsm:sm=true:=by cases sm with|true=>rfl|false=>exact absurd rfl hif
  subst hsm
  exact⟨heap_ext hs h6,_,heap_ext hc h6,hcs.ext h6⟩
end

set_option maxHeartbeats 1000000
set_option maxRecDepth 100000
section
open Go.RowKit Go.Shelf
attribute [local go_sem] Oper.semAt_some
attribute [local go_sem] Gives givesU
def zGp:List Value:=[.bool false,.int .i64 0,.int .i64 0,.bool false,.slice none 0 0,.bool false,.slice none 0 0,.int .i64 0,.int .i64 0,.int .i64 0,.int .i64 0,.int .i64 0,.int .i64 0,.int .i64 0,.int .i64 0,.int .i64 0,.int .i64 0,.int .i64 0,.int .i64 0,.int .i64 0,.int .i64 0]
theorem gap_nearest(w:World) :
  Calls Tryz.prog 91 #[] w fun e w'=>e=.returned (.tuple #[.func (.func 129) #[] #[.pointer (some ⟨w.heap.size+1,0,none⟩),.pointer (some ⟨w.heap.size,0,none⟩)],.func (.func 130) #[] #[.pointer (some ⟨w.heap.size,0,none⟩)]])/\Ext w w'/\w'.heap[w.heap.size+1]? = some (.cells #[.bool false] 4)/\w'.heap[w.heap.size]? = some (.cells zGp.toArray 89):=by
 have h0:∀w:World,(w.alloc (.cells zGp.toArray 89)).heap[w.heap.size]? = some (.cells zGp.toArray 89):=fun w=>World.alloc_heap_new _ _
 have H0:=Lib.hid h0
 clear h0
 go_enter Tryz.func91,Tryz.ntmps91
 go_wp2
 refine bodyPost_ret (results_tmp2 rfl _ _ _) rfl ?_
 refine⟨rfl,bxx,?_,?_⟩
 ·go_simp
  have:=World.alloc_heap_new (w.alloc (.cells zGp.toArray 89)) (.cells #[.bool false] 4)
  simpa[zGp] using this
 ·have := H0.out w
  exact heap_ext this (below_alloc _ _)
theorem gap_pairs(k r k' r':Int)(p p':Option Addr)(n c n' c':Nat)(w:World) :
  Calls Tryz.prog 92 #[.agg #[.int .i64 k,.slice p n c,.int .i64 r],.agg #[.int .i64 k',.slice p' n' c',.int .i64 r']] w fun e w'=>e=.returned (.func (.func 131) #[] #[.pointer (some ⟨w.heap.size,0,none⟩),.pointer (some ⟨w.heap.size+1,0,none⟩)])/\Ext w w'/\w'.cell? ⟨w.heap.size,1,none⟩=some (.slice p n c)/\w'.cell? ⟨w.heap.size+1,1,none⟩=some (.slice p' n' c')/\w.heap.size+1<w'.heap.size:=by
 go_enter Tryz.func92,Tryz.ntmps92
 go_wp2
 go_ret
 exact⟨rfl,bxx,by go_simp,by go_simp,by simp⟩
end

set_option maxRecDepth 100000
section
def regG(id:Nat):Code->Option Code
 | .region k ops d=>if k=id then some (.region k ops d) else none
 | .seq a b=>match regG id a with|some c=>some c|none=>regG id b
 | .cond _ a b=>match regG id a with|some c=>some c|none=>regG id b
 | .block _ c=>regG id c
 | .loop c=>regG id c
 | .scope c=>regG id c
 | .rangeFunc _ _ a c=>match regG id a with|some c=>some c|none=>regG id c
 | _=>none
noncomputable def gR(k:Nat):List Oper:=match regG k (bodyF Tryz.prog 32) with|some (.region _ ops _)=>ops.toList|_=>[]
noncomputable def gO (k i : Nat) : Oper := ((gR k)[i]?).getD ⟨none, .move (.tmp 0), 0, "", #[], none⟩
theorem off_t{l m:List Oper}{t:Nat}(h:offT (l++m) t=true):offT l t=true/\offT m t=true:=by
 unfold offT at *
 rwa [List.all_append,Bool.and_eq_true] at h
def edL(e:Ed):List Value:=[.int .i64 e.k,.int .i64 e.ax,.int .i64 e.ay,.int .i64 e.bx,.int .i64 e.by',.int .i64 e.cx,.int .i64 e.cy]
def EdI(e:Ed):Prop:=I64 e.k/\I64 e.ax/\I64 e.ay/\I64 e.bx/\I64 e.by'/\I64 e.cx/\I64 e.cy
theorem EdI.rep{e:Ed}(h:EdI e)(W:World):RepF W (edI e) (edL e):=by
 obtain⟨a0,a1,a2,a3,a4,a5,a6⟩:=h
 exact⟨[_],_,rfl,⟨rfl,lim64 a0⟩,[_],_,rfl,⟨rfl,lim64 a1⟩,[_],_,rfl,⟨rfl,lim64 a2⟩,[_],_,rfl,⟨rfl,lim64 a3⟩,[_],_,rfl,⟨rfl,lim64 a4⟩,[_],_,rfl,⟨rfl,lim64 a5⟩,[_],[],rfl,⟨rfl,lim64 a6⟩,rfl⟩
def fpV(l:List It):V1:=⟨false,[.fp l]⟩
theorem rv_fp0{W:World}{l:List It}{cs:List Value}{b:Nat}{T:TypeId}(hg:W.heap[b]? = some (.cells cs.toArray T))(h:RepF W l cs):RepV W W (fun _=>0) 0 (fpV l) (.pointer (some ⟨b,0,none⟩)):=rv_fp (cs:=cs) (ds:=[]) hg (Nat.zero_le _) (by simp) h
theorem J_at{V W:World}{n:Nat}{d:Ds}{a:Act}(h:JJ V (mkS n d) a W):Ext V W/\a.tmps.size=n/\∃r,∀t v,(mkS n d).t.get t=some (.one v)->RepV V W r d.m.length v (a.tmps.getD t undef):=by
 obtain⟨r,cm,⟨hM,_⟩,hT⟩:=h
 exact⟨hM.ext,hT.1,r,fun t v hv=>hT.2 t _ hv⟩
def ptrA(b:Nat):Value:=.pointer (some ⟨b,0,none⟩)
theorem r8(a:Act)(W:World)(m:Bool)(x y:Ed)(B6 P9 P10:Nat)(Q:Act->World->Prop)(hsz:a.tmps.size=94)(h6:a.tmps.getD 6 undef=ptrA B6)(h9:a.tmps.getD 9 undef=ptrA P9)(h10:a.tmps.getD 10 undef=ptrA P10)
  (g6:W.heap[B6]? = some (.cells #[.bool m] 4)) (g9:W.heap[P9]? = some (.cells (edL x).toArray 108)) (g10:W.heap[P10]? = some (.cells (edL y).toArray 108)) (hx:EdI x) (hy:EdI y)
  (hQ:∀a' W1 W',a'.tmps.size=94->a'.defers=a.defers->(∀t,offT (gR 8) t=true->a'.tmps.getD t undef=a.tmps.getD t undef)->Ext W W1->OnlyB B6 W1 W'->W'.heap[B6]? = some (.cells #[.bool (m || !(countE x y==0))] 4)->Q a' W'):WpS Tryz.prog (gR 8).toArray Q (gR 8) a W:=by
 have es:gR 8=(gR 8).take 6++[gO 8 6]:=by kernel_rfl
 have key:∀a' W1,Ext W W1->a'.tmps.size=94->(∀t,offT ((gR 8).take 6) t=true->a'.tmps.getD t undef=a.tmps.getD t undef)->a'.tmps.getD 48 undef=.bool (m || !(countE x y==0))->WpS Tryz.prog (gR 8).toArray Q [gO 8 6] (dfA a.defers a') W1:=fun a' W1 hE hs hoff h48=>by
  have g6':=heap_ext g6 hE
  obtain⟨o1,o2⟩:=onlyB_setRow (cs':=(([.bool m]:List Value).take 0++(([.bool (m || !(countE x y==0))]:List Value)++([.bool m]:List Value).drop (0+1))).toArray) g6'
  refine wpS_skip (W:=W1.setRow B6 (([.bool m]:List Value).take 0++(([.bool (m || !(countE x y==0))]:List Value)++([.bool m]:List Value).drop (0+1))).toArray) (by kernel_rfl) ?_ ?_
  ·exact ex_store (x:=.tmp 6) (y:=.tmp 48) (t:=4) (j:=0) (n:=1) (by kernel_rfl) (show a'.tmps.getD 6 undef=_ by rw[hoff 6 (by kernel_rfl)];exact h6) g6' (by rw[show (dfA a.defers a').eval (.tmp 48)=a'.tmps.getD 48 undef from rfl,h48];rfl) (by kernel_rfl) rfl (by simp) (fun v hv=>by rw[List.mem_singleton.1 hv];rfl)
  ·refine hQ _ _ _ (show (Act.put (dfA a.defers a') _ undef).tmps.size = 94 by rw [show Act.put (dfA a.defers a') (gO 8 6).dst undef = dfA a.defers a' by kernel_rfl]; exact hs) ?_ (fun t ht => ?_) hE o1 o2
   ·rw[show Act.put (dfA a.defers a') (gO 8 6).dst undef=dfA a.defers a' by kernel_rfl];rfl
   ·rw [show Act.put (dfA a.defers a') (gO 8 6).dst undef = dfA a.defers a' by kernel_rfl]
    rw[es] at ht
    exact hoff t (off_t ht).1
 rw[show WpS Tryz.prog (gR 8).toArray Q (gR 8) a W=WpS Tryz.prog (gR 8).toArray Q ((gR 8).take 6++[gO 8 6]) a W by rw[<- es]]
 refine wpS_app ?_
 cases m with
 | true =>
  refine runS_ok (X:=[]) (K:=[cMeet]) (n:=94) (d:=⟨[(6,.eq (fpV [.b true])),(9,.eq (fpV (edI x))),(10,.eq (fpV (edI y)))],[]⟩) (d':=⟨[(48,.eq ⟨false,[.b true]⟩)],[]⟩) (q:=[]) [pR ⟨false,[.b true]⟩] (by kernel_rfl) (old_J hsz fun z hz=>?_) fun a' W1 hJ hoff=>?_
  ·simp only [List.mem_cons, List.not_mem_nil, or_false] at hz
   rcases hz with rfl|rfl|rfl
   ·rw[h6];exact rv_fp0 (cs:=[.bool true]) g6 ⟨[_],[],rfl,rfl,rfl⟩
   ·rw[h9];exact rv_fp0 g9 (hx.rep W)
   ·rw[h10];exact rv_fp0 g10 (hy.rep W)
  ·obtain ⟨h1, h2, r, h3⟩ := J_at hJ
   exact key a' W1 h1 h2 hoff (List.cons.inj (show _=[Value.bool true] from (h3 48 ⟨false,[.b true]⟩ (by kernel_rfl)).scal)).1
 | false =>
  refine runS_ok (X:=[]) (K:=[cMeet]) (n:=94) (d:=⟨[(6,.eq (fpV [.b false])),(9,.eq (fpV (edI x))),(10,.eq (fpV (edI y)))],[]⟩) (d':=⟨[(48,.eq (blV (!(countE x y==0))))],[]⟩) (q:=[]) [pR (blV (!(countE x y==0)))] (by kernel_rfl) (old_J hsz fun z hz=>?_) fun a' W1 hJ hoff=>?_
  ·simp only [List.mem_cons, List.not_mem_nil, or_false] at hz
   rcases hz with rfl|rfl|rfl
   ·rw[h6];exact rv_fp0 (cs:=[.bool false]) g6 ⟨[_],[],rfl,rfl,rfl⟩
   ·rw[h9];exact rv_fp0 g9 (hx.rep W)
   ·rw[h10];exact rv_fp0 g10 (hy.rep W)
  ·obtain ⟨h1, h2, r, h3⟩ := J_at hJ
   exact key a' W1 h1 h2 hoff (rv_v.1 (h3 48 (blV (!(countE x y==0))) (by kernel_rfl))).2
def FpAt(W:World)(b:Nat)(l:List It):Prop:=∃c d T,W.heap[b]? = some (.cells (c++d).toArray T)/\RepF W l c
theorem FpAt.ext{W W':World}{b:Nat}{l:List It}(h:FpAt W b l)(hx:Ext W W'):FpAt W' b l:=by
 obtain⟨c,d,T,h1,h2⟩:=h
 exact⟨c,d,T,heap_ext h1 hx,h2.ext hx⟩
theorem FpAt.rv{W:World}{b:Nat}{l:List It}(h:FpAt W b l):RepV W W (fun _=>0) 0 (fpV l) (ptrA b):=by
 obtain⟨c,d,T,h1,h2⟩:=h
 exact rv_fp (cs:=c) (ds:=d) h1 (Nat.zero_le _) rfl h2
theorem FpAt.of{W:World}{b:Nat}{l:List It}{cs:List Value}{T:TypeId}(h:W.heap[b]? = some (.cells cs.toArray T))(h2:RepF W l cs):FpAt W b l:=⟨cs,[],T,by rw[List.append_nil];exact h,h2⟩
theorem blk_at{V W:World}{n:Nat}{d:Ds}{a:Act}(h:JJ V (mkS n d) a W):Ext V W/\a.tmps.size=n/\∃r,(∀t v,(mkS n d).t.get t=some (.one v)->RepV V W r d.m.length v (a.tmps.getD t undef))/\∀b x,d.m[b]? = some (some x)->(x.l.all It.np)=true->FpAt W (r b) (x.l.map unO)/\V.heap.size<=r b:=by
 obtain⟨r,cm,⟨hM,_⟩,hT⟩:=h
 refine⟨hM.ext,hT.1,r,fun t v hv=>hT.2 t _ hv,fun b x hb hn=>?_⟩
 obtain⟨k1,cs,ds,k2,k3,_⟩:=hM.blk b x (mb_at.2 hb)
 exact⟨⟨cs,ds,_,by rw[<- k2];exact k1,np_F hM.ext hn k3⟩,hM.lo b x (mb_at.2 hb)⟩
def pSp(s:Sp):List Pf:=[⟨s.x=s.x,rfl⟩,⟨s.y=s.y,rfl⟩,⟨s.dx=s.dx,rfl⟩,⟨s.dy=s.dy,rfl⟩,⟨s.p=s.p,rfl⟩,⟨s.q=s.q,rfl⟩,⟨s.len=s.len,rfl⟩]
def pRt(r:Rt):List Pf:=[⟨r.add=r.add,rfl⟩,⟨r.s=r.s,rfl⟩,⟨It.d (.num r.n)=It.d (.num r.n),rfl⟩,⟨It.d (.num r.d)=It.d (.num r.d),rfl⟩]
theorem r10(a:Act)(W:World)(x y:Ed)(P9 P10:Nat)(Q:Act->World->Prop)(hsz:a.tmps.size=94)(h9:a.tmps.getD 9 undef=ptrA P9)(h10:a.tmps.getD 10 undef=ptrA P10)(g9:FpAt W P9 (edI x))(g10:FpAt W P10 (edI y))
  (hQ:∀a' W',a'.tmps.size=94->a'.defers=a.defers->(∀t,offT (gR 10) t=true->a'.tmps.getD t undef=a.tmps.getD t undef)->Ext W W'->(∃p q r,a'.tmps.getD 11 undef=ptrA p/\a'.tmps.getD 12 undef=ptrA q/\a'.tmps.getD 13 undef=ptrA r/\FpAt W' p (rtV (edgesR x y).d).l/\FpAt W' q (spV (edgesR x y).a).l/\FpAt W' r (spV (edgesR x y).b).l)->Q a' W'):WpS Tryz.prog (gR 10).toArray Q (gR 10) a W:=by
 refine runS_ok (X:=[]) (K:=[cEdges]) (n:=94) (d:=⟨[(9,.eq (fpV (edI x))),(10,.eq (fpV (edI y)))],[]⟩) (d':=⟨[(11,.eq (ptrN 0)),(12,.eq (ptrN 1)),(13,.eq (ptrN 2))],[some ⟨85,(rtV (edgesR x y).d).l⟩,some ⟨87,(spV (edgesR x y).a).l⟩,some ⟨87,(spV (edgesR x y).b).l⟩]⟩) (q:=[]) ([pR (ptrN 0),pR (ptrN 1),pR (ptrN 2)]++(pRt (edgesR x y).d++(pSp (edgesR x y).a++pSp (edgesR x y).b))) (by kernel_rfl) (old_J hsz fun z hz=>?_) fun a' W1 hJ hoff=>?_
 ·simp only [List.mem_cons, List.not_mem_nil, or_false] at hz
  rcases hz with rfl|rfl
  ·rw[h9];exact g9.rv
  ·rw[h10];exact g10.rv
 ·obtain ⟨h1, h2, r, h3, h4⟩ := blk_at hJ
  have pt:∀t b,(mkS 94 ⟨[(11,.eq (ptrN 0)),(12,.eq (ptrN 1)),(13,.eq (ptrN 2))],[some ⟨85,(rtV (edgesR x y).d).l⟩,some ⟨87,(spV (edgesR x y).a).l⟩,some ⟨87,(spV (edgesR x y).b).l⟩]⟩).t.get t=some (.one (ptrN b))->a'.tmps.getD t undef=ptrA (r b):=fun t b h=>(List.cons.inj (h3 t (ptrN b) h).scal.2).1
  exact hQ _ _ h2 rfl hoff h1 ⟨r 0,r 1,r 2,pt 11 0 (by kernel_rfl),pt 12 1 (by kernel_rfl),pt 13 2 (by kernel_rfl),(h4 0 _ rfl (by kernel_rfl)).1,(h4 1 _ rfl (by kernel_rfl)).1,(h4 2 _ rfl (by kernel_rfl)).1⟩
end

set_option maxRecDepth 100000
section
def gpI(p:Pr):List It:=.b false::([.i p.d.add lim,.i p.d.s lim,.o (.num p.d.n),.o (.num p.d.d)]++((spV p.a).l++(spV p.b).l))
theorem rl_onum{V W:World}{r:Nat->Nat}{k:Nat}{x:Nm}{l:List It}{cs:List Value}:RepL V W r k (.o (.num x)::l) cs <-> ∃n p m c,NR V n p m c x/\∃d,cs=.bool n::.slice p m c::d/\RepL V W r k l d :=
 ⟨fun ⟨c,d,e,⟨n,p,m,c',h1,h2⟩,h3⟩=>⟨n,p,m,c',h2,d,by rw[e,h1];rfl,h3⟩,fun ⟨n,p,m,c',h,d,e,h3⟩=>⟨[_,_],d,e,⟨n,p,m,c',rfl,h⟩,h3⟩⟩
theorem gpC_of{V W:World}{r:Nat->Nat}{k:Nat}{p:Pr}{cs:List Value}(h:RepL V W r k (gpI p) cs):GpC V p.gp cs:=by
 simp only[gpI,spV,List.cons_append,List.nil_append,rl_b,rl_i,rl_onum,rl_nil] at h
 obtain⟨_,rfl,⟨_,i1⟩,_,rfl,⟨_,i2⟩,_,rfl,n,p',l,c,h1,_,rfl,m,q,k',d,h2,_,rfl,⟨_,j1⟩,_,rfl,⟨_,j2⟩,_,rfl,⟨_,j3⟩,_,rfl,⟨_,j4⟩,_,rfl,⟨_,j5⟩,_,rfl,⟨_,j6⟩,_,rfl,⟨_,j7⟩,_,rfl,⟨_,k1⟩,_,rfl,⟨_,k2⟩,_,rfl,⟨_,k3⟩,_,rfl,⟨_,k4⟩,_,rfl,⟨_,k5⟩,_,rfl,⟨_,k6⟩,_,rfl,⟨_,k7⟩,_,rfl,rfl⟩:=h
 exact⟨n,p',l,c,m,q,k',d,rfl,h1,h2,⟨i1,i2⟩,⟨j1,j2,j3,j4,j5,j6,j7⟩,k1,k2,k3,k4,k5,k6,k7⟩
theorem put_lt{a:Act}{d:Nat}{v:Value}(h:d<a.tmps.size):(a.put (some d) v).tmps.getD d undef=v:=by simp[Act.put,h]
def kpF(Bs Bl:Nat):Value:=.func (.func 129) #[] #[ptrA Bs,ptrA Bl]
theorem r11(a:Act)(W:World)(p:Pr)(h:Gp)(sm:Bool)(B7 Bs Bl P11 P12 P13:Nat)(Q:Act->World->Prop)(hsz:a.tmps.size=94)(h7:a.tmps.getD 7 undef=ptrA B7)(h11:a.tmps.getD 11 undef=ptrA P11)(h12:a.tmps.getD 12 undef=ptrA P12)(h13:a.tmps.getD 13 undef=ptrA P13)
  (g7:W.heap[B7]? = some (.cells #[kpF Bs Bl] 132)) (g11:FpAt W P11 (rtV p.d).l) (g12:FpAt W P12 (spV p.a).l) (g13:FpAt W P13 (spV p.b).l) (hs:W.heap[Bs]? = some (.cells #[.bool sm] 4)) (hl:GpAt W Bl h) (hne:Bs≠Bl)
  (hQ:∀a' W1 W',a'.defers=a.defers->Ext W W1->But2 Bs Bl W1 W'->W'.heap[Bs]? = some (.cells #[.bool true] 4)->GpAt W' Bl (if (!sm||decide (cmpRt p.d h.d<0))=true then p.gp else h)->Q a' W'):WpS Tryz.prog (gR 11).toArray Q (gR 11) a W:=by
 have es:gR 11=gO 11 0::(((gR 11).drop 1).take 4++[gO 11 5]):=by kernel_rfl
 have d0:(gO 11 0).dst=some 57:=by kernel_rfl
 have d5:(gO 11 5).dst=some 62:=by kernel_rfl
 rw[show WpS Tryz.prog (gR 11).toArray Q (gR 11) a W=WpS Tryz.prog (gR 11).toArray Q (gO 11 0::(((gR 11).drop 1).take 4++[gO 11 5])) a W by rw[<- es]]
 refine wpS_val (x:=kpF Bs Bl) (W:=W) (by kernel_rfl) ?_ ?_
 ·have := ex_load (P := Tryz.prog) (o := gO 11 0) (a := a) (w := W) (t := 132) (x := .tmp 7) (j := 0) (n := 1) (b := false) (cs := [kpF Bs Bl]) (by kernel_rfl) h7 g7 (by kernel_rfl) (by kernel_rfl) (by simp) (fun _ => rfl)
  exact this
 rw[d0]
 have hsz1:(a.put (some 57) (kpF Bs Bl)).tmps.size=94:=by simp[Act.put,hsz]
 have e57:(a.put (some 57) (kpF Bs Bl)).tmps.getD 57 undef=kpF Bs Bl:=put_lt (by rw[hsz];decide)
 have off57:∀t,t≠57->(a.put (some 57) (kpF Bs Bl)).tmps.getD t undef=a.tmps.getD t undef:=fun t ht=>by simp[Act.put,Array.getElem?_setIfInBounds,Ne.symm ht]
 refine wpS_app ?_
 refine runS_ok (X:=[]) (K:=[]) (n:=94) (d:=⟨[(11,.eq (fpV (rtV p.d).l)),(12,.eq (fpV (spV p.a).l)),(13,.eq (fpV (spV p.b).l))],[]⟩) (d':=⟨[(61,.eq ⟨true,gpI p⟩)],[]⟩) (q:=[]) [pR ⟨true,gpI p⟩] (by kernel_rfl) (old_J hsz1 fun z hz=>?_) fun a' W1 hJ hoff=>?_
 ·simp only [List.mem_cons, List.not_mem_nil, or_false] at hz
  rcases hz with rfl|rfl|rfl
  ·rw[off57 11 (by decide),h11];exact g11.rv
  ·rw[off57 12 (by decide),h12];exact g12.rv
  ·rw[off57 13 (by decide),h13];exact g13.rv
 ·obtain ⟨h1, h2, r, h3⟩ := J_at hJ
  obtain⟨ys,hy,e61⟩:=rv_t.1 (h3 61 ⟨true,gpI p⟩ (by kernel_rfl))
  have f57:a'.tmps.getD 57 undef=kpF Bs Bl:=by rw[hoff 57 (by kernel_rfl)];exact e57
  have en:(execOp (dfA (a.put (some 57) (kpF Bs Bl)).defers a').eval (gO 11 5)).run Tryz.prog W1=.ok (.enter 129 (#[.agg ys.toArray]++#[ptrA Bs,ptrA Bl])) W1:=by
   have:=run_enter (P:=Tryz.prog) (o:=gO 11 5) (a:=dfA (a.put (some 57) (kpF Bs Bl)).defers a') (f:=129) (x:=.tmp 57) (caps:=#[ptrA Bs,ptrA Bl]) (cl:={ callee:=.value (.tmp 57),args:=#[.tmp 61],argTypes:=#[89] }) prog_nm Tryz.func129 rfl (by kernel_rfl) rfl f57 W1
   rw[this]
   simp only[List.map_toArray,List.map_cons,List.map_nil]
   rw[show (dfA (a.put (some 57) (kpF Bs Bl)).defers a').eval (.tmp 61)=.agg ys.toArray from e61]
  refine wpS_call (by kernel_rfl) en (keep_gp Bs Bl p.gp h ys sm W1 (heap_ext hs h1) (hl.ext h1) hne ((gpC_of hy).ext h1)) (fun e W h=>h.1) fun v W' ⟨_,k2,k3,k4⟩=>?_
  exact hQ _ W1 W' (by rw[d5];rfl) h1 k2 k3 k4
end
end Go.Proofs.YtghemgdfmldoeaaGreat
