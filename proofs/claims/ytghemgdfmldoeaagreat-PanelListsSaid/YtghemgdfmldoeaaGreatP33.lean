import Derived.Test.YtghemgdfmldoeaaGreatP32
import Derived.Test.YtghemgdfmldoeaaGreatP28
import Derived.Test.YtghemgdfmldoeaaGreatP29
set_option linter.unusedVariables false
set_option linter.unusedSimpArgs false
namespace Go.Proofs.YtghemgdfmldoeaaGreat
open Go.RowKit
set_option maxHeartbeats 4000000
set_option maxRecDepth 100000
section
section
variable {P:Program} {ops:Array Oper} {Q:Exit->Act->World->Prop} {o:Oper} {a:Act} {w W:World}
theorem UO{rest:List Oper}(hw:Region.wanted o (yielded ops a.tmps)=true)(h:(execOp a.eval o).run P w=.ok .skip W)(hk:wpList P ops Q rest (a.put o.dst undef) W):wpList P ops Q (o::rest) a w:=by
 unfold wpList;rw[if_pos hw];exact .inl (aL.wp (qw (R:=λv w'=>v=undef/\w'=W) h ⟨rfl,rfl⟩) λv w' h=>by obtain⟨rfl,rfl⟩:=h;exact hk)
theorem a7f{rest:List Oper}{x:Value}(hw:Region.wanted o (yielded ops a.tmps)=true)(h:(execOp a.eval o).run P w=.ok (.value x) W)(hk:wpList P ops Q rest (a.put o.dst x) W):wpList P ops Q (o::rest) a w:=by
 unfold wpList;rw[if_pos hw];exact .inl (aL.wp (kC (R:=λv w'=>v=x/\w'=W) h ⟨rfl,rfl⟩) λv w' h=>by obtain⟨rfl,rfl⟩:=h;exact hk)
theorem vB{t T:TypeId}{x:Operand}{g n j:Nat}{b:Bool}{cs:List Value}(ho:o.op=.load t x)(hx:a.eval x=.pointer (some ⟨g,j,none⟩))(hg:w.heap[g]? = some (.cells cs.toArray T))(h1:bV P t=some n)(h2:jU P t=some b)(h3:j+n<=cs.length)(h4:b=false->n=1):(execOp a.eval o).run P w=.ok (.value (dj b ((cs.drop j).take n))) w:=by
 refine lF (m:=Instr.loadAt t (a.eval x)) (by unfold execOp;rw[ho]) ?_;rw[hx];simp only[Instr.loadAt,Instr.sureAddr,Sem.run_bind,Sem.run_pure,Result.andThen_ok];exact pG hg h1 h2 h3 h4
theorem oQ{t T:TypeId}{x y:Operand}{g n j:Nat}{old vs:List Value}(ho:o.op=.store t x y)(hx:a.eval x=.pointer (some ⟨g,j,none⟩))(hg:w.heap[g]? = some (.cells old.toArray T))(hy:(a.eval y).cells=vs.toArray)(hn:bV P t=some n)(hl:vs.length=n)(hj:j+vs.length<=old.length)(h1:∀v∈vs,v.oneCell'=true) :
  (execOp a.eval o).run P w=.ok .skip (w.setRow g (old.take j++(vs++old.drop (j+vs.length))).toArray):=by
 have:=Ks (P:=P) hg hy hn hl hj h1;unfold execOp;simp only[ho,hx,Sem.run_bind,this,Result.andThen_ok,Sem.run_pure]
end
structure kG (a b:Nat) (W W':World):Prop where
 os:W'.os=W.os
 tape:W'.tape=W.tape
 output:W'.output=W.output
 size:W.heap.size<=W'.heap.size
 block:∀k,k<W.heap.size->k≠a->k≠b->W'.heap[k]? = W.heap[k]?
theorem kG.ext{a b:Nat}{W W':World}(h:ac W W'):kG a b W W':=⟨h.os,h.tape,h.output,h.size,λk hk _ _=>h.block k hk⟩
theorem kG.fst{a b:Nat}{W W' W2:World}(h:kG a b W W')(k:fR a W' W2):kG a b W W2:=⟨k.os.trans h.os,k.tape.trans h.tape,k.output.trans h.output,by rw[k.size];exact h.size,λi hi ha hb=>(k.block i ha).trans (h.block i hi ha hb)⟩
theorem kG.snd{a b:Nat}{W W' W2:World}(h:kG a b W W')(k:fR b W' W2):kG a b W W2:=⟨k.os.trans h.os,k.tape.trans h.tape,k.output.trans h.output,by rw[k.size];exact h.size,λi hi ha hb=>(k.block i hb).trans (h.block i hi ha hb)⟩
theorem a0H(Bs Bl:Nat)(y0 y1 y2 y3 y4 y5 y6 y7 y8 y9 y10 y11 y12 y13 y14 y15 y16 y17 y18 y19 y20 x0 x1 x2 x3 x4 x5 x6 x7 x8 x9 x10 x11 x12 x13 x14 x15 x16 x17 x18 x19 x20:Value)(sm:Bool)(c:Int)(w:World)(hs:w.heap[Bs]? = some (.cells #[.bool sm] 4))(hl:w.heap[Bl]? = some (.cells #[x0,x1,x2,x3,x4,x5,x6,x7,x8,x9,x10,x11,x12,x13,x14,x15,x16,x17,x18,x19,x20] 89))(hne:Bs≠Bl)(h1:∀v ∈ [y0,y1,y2,y3,y4,y5,y6,y7,y8,y9,y10,y11,y12,y13,y14,y15,y16,y17,y18,y19,y20],v.oneCell'=true)
  (hc:∀W,ac w W->Calls Tryz.prog 99 #[.agg #[y1,y2,y3,y4,y5,y6],.agg #[x1,x2,x3,x4,x5,x6]] W λe W'=>e=.returned (.int .i64 c)/\ac W W') :
  Calls Tryz.prog 129 #[.agg #[y0,y1,y2,y3,y4,y5,y6,y7,y8,y9,y10,y11,y12,y13,y14,y15,y16,y17,y18,y19,y20],.pointer (some ⟨Bs,0,none⟩),.pointer (some ⟨Bl,0,none⟩)] w λe W'=>(∃v,e=.returned v)/\kG Bs Bl w W'/\if (!sm||decide (c<0))=true then W'.heap[Bs]? = some (.cells #[.bool true] 4)/\W'.heap[Bl]? = some (.cells #[y0,y1,y2,y3,y4,y5,y6,y7,y8,y9,y10,y11,y12,y13,y14,y15,y16,y17,y18,y19,y20] 89) else ac w W':=by
 have bs:Bs<w.heap.size:=(Array.getElem?_eq_some_iff.1 hs).1;have bl:Bl<w.heap.size:=(Array.getElem?_eq_some_iff.1 hl).1;have ls:w.cell? ⟨Bs,0,none⟩=some (.bool sm):=by rw[cell_of_row _ _ _ _ _ _ hs];simp
 have l0:∀i,w.cell? ⟨Bl,i,none⟩=[x0,x1,x2,x3,x4,x5,x6,x7,x8,x9,x10,x11,x12,x13,x14,x15,x16,x17,x18,x19,x20][i]? := λi=>by rw[cell_of_row _ _ _ _ _ _ hl];simp
 have l1:=l0 1;have l2:=l0 2;have l3:=l0 3;have l4:=l0 4;have l5:=l0 5;have l6:=l0 6;simp only[List.getElem?_cons_succ,List.getElem?_cons_zero] at l1 l2 l3 l4 l5 l6;have HC:=Lib.hid hc;have HL:=Lib.hid hl;have HS:=Lib.hid hs;have H1:=Lib.hid h1;clear hc l0 hl hs h1
 have fin:∀(W:World) (z3 z4 z5 z6 z7 z8 z9 z10 z11 z12 z13 z14:Value) (Q:Exit->Act->World->Prop),kG Bs Bl w W->W.heap[Bs]? = some (.cells #[.bool sm] 4)->W.heap[Bl]? = some (.cells #[x0,x1,x2,x3,x4,x5,x6,x7,x8,x9,x10,x11,x12,x13,x14,x15,x16,x17,x18,x19,x20] 89)->(∃g,z3=.pointer (some ⟨g,0,none⟩)/\W.heap[g]? = some (.cells #[y0,y1,y2,y3,y4,y5,y6,y7,y8,y9,y10,y11,y12,y13,y14,y15,y16,y17,y18,y19,y20] 89)) ->
   (∀a W',a.defers=[]->kG Bs Bl w W'->W'.heap[Bs]? = some (.cells #[.bool true] 4)->W'.heap[Bl]? = some (.cells #[y0,y1,y2,y3,y4,y5,y6,y7,y8,y9,y10,y11,y12,y13,y14,y15,y16,y17,y18,y19,y20] 89)->Q .normal a W') ->
   ((kF 2 (dC Tryz.prog 129)).getD .skip).wp Tryz.prog Q { tmps:=#[.agg #[y0,y1,y2,y3,y4,y5,y6,y7,y8,y9,y10,y11,y12,y13,y14,y15,y16,y17,y18,y19,y20],.pointer (some ⟨Bs,0,none⟩),.pointer (some ⟨Bl,0,none⟩),z3,z4,z5,z6,z7,z8,z9,z10,z11,z12,z13,z14],defers:=[] } W:=by
  rintro W z3 z4 z5 z6 z7 z8 z9 z10 z11 z12 z13 z14 Q hB hs hl ⟨g,rfl,hg⟩ hQ;have hb:dC Tryz.prog 129=(Tryz.f129.body).getD .skip:=by unfold dC;rw[Tryz.func129];rfl
  rw[hb];simp only[Tryz.f129,Option.getD,kF,Nat.reduceEqDiff,reduceIte];refine wp_region_lit ?_;refine a7f (x:=dj true ((([y0,y1,y2,y3,y4,y5,y6,y7,y8,y9,y10,y11,y12,y13,y14,y15,y16,y17,y18,y19,y20]:List Value).drop 0).take 21)) (W:=W) (by kernel_rfl) ?_ ?_
  ·exact vB (cs:=[y0,y1,y2,y3,y4,y5,y6,y7,y8,y9,y10,y11,y12,y13,y14,y15,y16,y17,y18,y19,y20]) rfl (by rfl) hg (n:=21) (by kernel_rfl) (b:=true) (by kernel_rfl) (by simp) nofun
  obtain⟨o1,o2⟩:=lP (cs':=(([x0,x1,x2,x3,x4,x5,x6,x7,x8,x9,x10,x11,x12,x13,x14,x15,x16,x17,x18,x19,x20]:List Value).take 0++([y0,y1,y2,y3,y4,y5,y6,y7,y8,y9,y10,y11,y12,y13,y14,y15,y16,y17,y18,y19,y20]++([x0,x1,x2,x3,x4,x5,x6,x7,x8,x9,x10,x11,x12,x13,x14,x15,x16,x17,x18,x19,x20]:List Value).drop (0+21))).toArray) hl
  have o2':(W.setRow Bl (([x0,x1,x2,x3,x4,x5,x6,x7,x8,x9,x10,x11,x12,x13,x14,x15,x16,x17,x18,x19,x20]:List Value).take 0++([y0,y1,y2,y3,y4,y5,y6,y7,y8,y9,y10,y11,y12,y13,y14,y15,y16,y17,y18,y19,y20]++([x0,x1,x2,x3,x4,x5,x6,x7,x8,x9,x10,x11,x12,x13,x14,x15,x16,x17,x18,x19,x20]:List Value).drop (0+21))).toArray).heap[Bl]? = some (.cells #[y0,y1,y2,y3,y4,y5,y6,y7,y8,y9,y10,y11,y12,y13,y14,y15,y16,y17,y18,y19,y20] 89):=o2
  generalize hW1:W.setRow Bl (([x0,x1,x2,x3,x4,x5,x6,x7,x8,x9,x10,x11,x12,x13,x14,x15,x16,x17,x18,x19,x20]:List Value).take 0++([y0,y1,y2,y3,y4,y5,y6,y7,y8,y9,y10,y11,y12,y13,y14,y15,y16,y17,y18,y19,y20]++([x0,x1,x2,x3,x4,x5,x6,x7,x8,x9,x10,x11,x12,x13,x14,x15,x16,x17,x18,x19,x20]:List Value).drop (0+21))).toArray=W1 at o1 o2';refine UO (W:=W1) (by kernel_rfl) ?_ ?_
  ·rw [<- hW1];exact oQ (vs:=[y0,y1,y2,y3,y4,y5,y6,y7,y8,y9,y10,y11,y12,y13,y14,y15,y16,y17,y18,y19,y20]) rfl (by rfl) hl (by rfl) (n:=21) (by kernel_rfl) (by rfl) (by simp) H1.out
  have s1:W1.heap[Bs]? = some (.cells #[.bool sm] 4):=(o1.block Bs hne).trans hs;obtain⟨p1,p2⟩:=lP (cs':=(([.bool sm]:List Value).take 0++(([.bool true]:List Value)++([.bool sm]:List Value).drop (0+1))).toArray) s1;refine UO (W:=W1.setRow Bs ((([.bool sm]:List Value).take 0++(([.bool true]:List Value)++([.bool sm]:List Value).drop (0+1))).toArray)) (by kernel_rfl) ?_ ?_
  ·exact oQ (vs:=[.bool true]) (old:=[.bool sm]) rfl (by rfl) s1 (by rfl) (n:=1) (by kernel_rfl) (by rfl) (by simp) (λv hv=>by rw[List.mem_singleton.1 hv];rfl)
  refine wpList_nil ?_;exact hQ _ _ rfl ((hB.snd o1).fst p1) p2 ((p1.block Bl (λe=>hne e.symm)).trans o2')
 have hb:dC Tryz.prog 129=(Tryz.f129.body).getD .skip:=by unfold dC;rw[Tryz.func129];rfl
 rw[hb] at fin;simp only[Tryz.f129,Option.getD,kF,Nat.reduceEqDiff,reduceIte] at fin;have FIN:=Lib.hid fin;clear fin hb;have hx0:ac w (w.alloc (.cells #[y0,y1,y2,y3,y4,y5,y6,y7,y8,y9,y10,y11,y12,y13,y14,y15,y16,y17,y18,y19,y20] 89)):=ag;have n0:(w.alloc (.cells #[y0,y1,y2,y3,y4,y5,y6,y7,y8,y9,y10,y11,y12,y13,y14,y15,y16,y17,y18,y19,y20] 89)).heap[w.heap.size]? = some (.cells #[y0,y1,y2,y3,y4,y5,y6,y7,y8,y9,y10,y11,y12,y13,y14,y15,y16,y17,y18,y19,y20] 89):=World.alloc_heap_new _ _;have N0:=Lib.hid n0;have X0:=Lib.hid hx0;clear n0 hx0;cases sm with
 | false =>
  go_enter Tryz.func129,Tryz.ntmps129;go_upto_region 2 with (fail)
  refine FIN.out _ _ _ _ _ _ _ _ _ _ _ _ _ _ (.ext X0.out) (aH HS.out X0.out) (aH HL.out X0.out) ⟨_,rfl,N0.out⟩ ?_;rintro⟨tm,df⟩ W rfl h1 h2 h3;go_end0;exact⟨⟨_,rfl⟩,h1,h2,h3⟩
 | true =>
  have C2:=Lib.hid (HC.out _ X0.out);by_cases hc:c<0
  ·have b0 : decide (c < 0) = true := by simpa using hc
   go_enter Tryz.func129,Tryz.ntmps129;go_upto_region 2 with (fail)
   refine C2.out.mono ?_;rintro e W1 ⟨rfl,hx1⟩;have x2:=Lib.hid (ac.step X0.out hx1);have n2:=Lib.hid (aH N0.out hx1);clear hx1;go_upto_region 2 with (fail)
   refine FIN.out _ _ _ _ _ _ _ _ _ _ _ _ _ _ (.ext x2.out) (aH HS.out x2.out) (aH HL.out x2.out) ⟨_,rfl,n2.out⟩ ?_;rintro⟨tm,df⟩ W rfl h1 h2 h3;go_end0;exact⟨⟨_,rfl⟩,h1,by rw[if_pos (by simpa using hc)];exact⟨h2,h3⟩⟩
  ·have b0 : decide (c < 0) = false := by simpa using hc
   go_enter Tryz.func129,Tryz.ntmps129;go_wp2_with fail;refine C2.out.mono ?_;rintro e W1 ⟨rfl,hx1⟩;have x2:=Lib.hid (ac.step X0.out hx1);clear hx1;go_wp2;all_goals
    go_end0;exact⟨⟨_,rfl⟩,.ext x2.out,x2.out⟩
end
set_option maxRecDepth 100000
section
def EU:List ah:=[FQ,Wl]
theorem a4R(s:Sh):ae Tryz.prog 89 [bh s] (.one (aN (bD s==0))):=ad EU [] [bN s] (by kernel_rfl)
def m8(a b:Sh):Bool:=(a.k==2)&&nB a (b.e 0).ax (b.e 0).ay
theorem VO(a b:Sh)(ha:a.n<=1000)(hb:0<b.n):ae Tryz.prog 90 [bh a,bh b] (.one (aN (m8 a b))):=by
 unfold m8;cases h:a.k==2 with|true=>exact ad EU [true] [pT h,pP (show 0<=(0:Int)/\(0:Int)<b.n by omega),bN a,pP ha] (by kernel_rfl)|false=>exact ad EU [false] [pF h] (by kernel_rfl)
structure Gp where
 m:Bool
 d:Rt
 a:Sp
 b:Sp
def tV(g:Gp):V1:=⟨true,[.v (.bool g.m)]++(dX g.d).l++(fQ g.a).l++(fQ g.b).l⟩
def yI(g:Gp):List It:=[.v (.bool g.m)]++(dX g.d).l++(fQ g.a).l++(fQ g.b).l
theorem a0S(g:Gp):ae Tryz.prog 130 [⟨false,[.fp (yI g)]⟩] (.one (tV g)):=ad [] [] [] (by kernel_rfl)
end
set_option maxHeartbeats 4000000
set_option maxRecDepth 100000
section
open Go.RowKit Go.Shelf
attribute [local go_sem] Oper.semAt_some
attribute [local go_sem] aL dz
structure di (X:List Nat) (A B:World):Prop where
 size:A.heap.size<=B.heap.size
 same:∀(k:Nat) (o:Obj),A.heap[k]? = some o->o.isCells=true->k∉X->B.heap[k]? = some o
theorem di.refl(X:List Nat)(A:World):di X A A:=⟨Nat.le_refl _,λ_ _ h _ _=>h⟩
theorem di.trans{X:List Nat}{A B C:World}(h:di X A B)(k:di X B C):di X A C:=⟨Nat.le_trans h.size k.size,λi o hi ho hx=>k.same i o (h.same i o hi ho hx) ho hx⟩
theorem di.ext{X:List Nat}{A B:World}(h:ac A B):di X A B:=⟨h.size,λi o hi _ _=>(h.block i (Array.getElem?_eq_some_iff.1 hi).1).trans hi⟩
theorem di.drew{X:List Nat}{A B:World}(h:di X A B):di X A B.drew:=h.trans ⟨Nat.le_refl _,λ_ _ h _ _=>h⟩
theorem di.cell{X:List Nat}{A B:World}(h:di X A B){k i:Nat}{v:Value}(hc:A.cell? ⟨k,i,none⟩=some v)(hk:k∉X):B.cell? ⟨k,i,none⟩=some v:=by
 obtain⟨o,ho,hcl⟩:=cells_of_cell hc;exact (World.cell?_of_block (a:=⟨k,i,none⟩) ((h.same k o ho hcl hk).trans ho.symm)).trans hc
theorem km.kept{X:List Nat}{A B:World}{g o:Nat}{e:Ed}(h:km A g o e)(hk:di X A B)(hg:g∉X):km B g o e:=⟨hk.cell h.c0 hg,hk.cell h.c1 hg,hk.cell h.c2 hg,hk.cell h.c3 hg,hk.cell h.c4 hg,hk.cell h.c5 hg,hk.cell h.c6 hg⟩
theorem pairs_stops(m:Nat)(hm:1<=m)(X:List Nat)(n n':Nat)(e e':Nat->Ed)(v B1 B2 c c':Nat)(p p':Option Addr)(w:World)(hB1:B1<w.heap.size)(hB2:B2<w.heap.size)(hv:v<=w.heap.size)(hX:∀x∈X,v<=x/\x<w.heap.size)(h1X:B1∉X)(h2X:B2∉X)
  (c0:w.cell? ⟨B1,1,none⟩=some (.slice p n c)) (c1:w.cell? ⟨B2,1,none⟩=some (.slice p' n' c')) (hR:jP v w p n e) (hR':jP v w p' n' e') (hn:n<=1000) (hn':n'<=1000) :
  SeqStopsK Fence.wide m Tryz.prog 131 #[.pointer (some ⟨B1,0,none⟩),.pointer (some ⟨B2,0,none⟩)] (λi:Nat=>#[fi (e (i/n')),fi (e' (i%n'))]) (di X) (λxs=>xs=cP (n*n')) (λpre=>∃k,k<n*n'/\pre=cP (k+1)) (n*n') w:=λL J Jx W hW hA hAx hY h0=>by
 have k0:W.cell? ⟨B1,1,none⟩=some (.slice p n c):=(hW.cell (p:=⟨B1,1,none⟩) hB1).trans c0;have k1:W.cell? ⟨B2,1,none⟩=some (.slice p' n' c'):=(hW.cell (p:=⟨B2,1,none⟩) hB2).trans c1;have hrW:jP v W p n e:=hR.below (hW.mono hv);have hrW':jP v W p' n' e':=hR'.below (hW.mono hv);have hWs:=hW.size;have nX:∀k,W.heap.size<=k->k∉X:=λk hk hx=>by have:=(hX k hx).2;omega
 have vX:∀k,k<v->k∉X:=λk hk hx=>by have:=(hX k hx).1;omega
 clear c0 c1 hR hR';refine callsIn_of_wp Tryz.func131 rfl trivial ?_ rfl;simp only[Tryz.ntmps131,List.size_toArray,List.length_cons,List.length_nil,Nat.reduceAdd,Nat.reduceSub,Array.replicate_succ,Array.replicate_zero,List.push_toArray,List.append_toArray,List.nil_append,List.cons_append];have NX:=Lib.hid nX;have VX:=Lib.hid vX;have HRW:=Lib.hid hrW;have HRW':=Lib.hid hrW';have HA:=Lib.hid hA;have HY:=Lib.hid hY;clear nX vX hrW hrW' hA hY hAx;gi_wp2;gi_loopw [11] (λi wr=>∃k:Nat,i=.int .i64 (k:Int)/\k<=n/\J (cP (k*n')) wr/\di X W wr) (λi _=>n-(intOf i).toNat)
 case atStart=>exact⟨0,rfl,by omega,by rw[Nat.zero_mul];exact h0,di.refl _ _⟩
 case round =>
  obtain⟨k,rfl,hk,hJ,hK⟩:=hrel;by_cases hlt:k<n
  ·obtain ⟨g, o, rfl, hg, E0⟩ := HRW.out k hlt;obtain⟨a0,a1,a2,a3,a4,a5,a6⟩:=E0.kept hK (VX.out g hg);have m0:=hK.cell k0 h1X;have m1:=hK.cell k1 h2X;have ix0:0<=(k:Int):=by omega
   have ix2:(k:Int)<(n:Int):=by omega
   have b1:B1<wr.heap.size:=by have:=hK.size;omega
   have b2:B2<wr.heap.size:=by have:=hK.size;omega
   have HK:=Lib.hid hK;have HJ:=Lib.hid hJ;clear hK hJ E0;gi_wp2;have hg0:=di.ext (X:=X) (iR wr (.cells #[.int .i64 (e k).k,.int .i64 (e k).ax,.int .i64 (e k).ay,.int .i64 (e k).bx,.int .i64 (e k).by',.int .i64 (e k).cx,.int .i64 (e k).cy] 108));have hJ0:J (cP (k*n'+0)) (wr.alloc (.cells #[.int .i64 (e k).k,.int .i64 (e k).ax,.int .i64 (e k).ay,.int .i64 (e k).bx,.int .i64 (e k).by',.int .i64 (e k).cx,.int .i64 (e k).cy] 108)):=HA.out _ _ _ none HJ.out (World.grownBy_alloc _ _ none) (λr h=>by cases h)
   have hE0:km (wr.alloc (.cells #[.int .i64 (e k).k,.int .i64 (e k).ax,.int .i64 (e k).ay,.int .i64 (e k).bx,.int .i64 (e k).by',.int .i64 (e k).cx,.int .i64 (e k).cy] 108)) wr.heap.size 0 (e k):=⟨by go_simp,by go_simp,by go_simp,by go_simp,by go_simp,by go_simp,by go_simp⟩;have hK0:=HK.out.trans hg0;have hsz:wr.heap.size<(wr.alloc (.cells #[.int .i64 (e k).k,.int .i64 (e k).ax,.int .i64 (e k).ay,.int .i64 (e k).bx,.int .i64 (e k).by',.int .i64 (e k).cx,.int .i64 (e k).cy] 108)).heap.size:=by simp
   have IN:=Lib.hid (And.intro hJ0 (And.intro hK0 (And.intro hE0 hsz)));have hWr:=Lib.hid (show W.heap.size<=wr.heap.size from HK.out.size);obtain⟨z,hz⟩:∃z,wr.heap.size=z:=⟨_,rfl⟩;clear hg0 hJ0 hE0 hK0 hsz m0 m1 a0 a1 a2 a3 a4 a5 a6 b1 b2;rw[hz] at IN hWr ⊢;generalize wr.alloc (.cells #[.int .i64 (e k).k,.int .i64 (e k).ax,.int .i64 (e k).ay,.int .i64 (e k).bx,.int .i64 (e k).by',.int .i64 (e k).cx,.int .i64 (e k).cy] 108)=W0 at IN ⊢;gi_loopw [18] (λi W2=>∃q:Nat,i=.int .i64 (q:Int)/\q<=n'/\J (cP (k*n'+q)) W2/\di X W W2/\km W2 z 0 (e k)/\z<W2.heap.size) (λi _=>n'-(intOf i).toNat)
   case atStart=>exact⟨0,rfl,by omega,IN.out⟩
   case round =>
    obtain⟨q,rfl,hq,hJ,hK,hE,hzW⟩:=hrel;by_cases hlq:q<n'
    ·obtain ⟨g', o', rfl, hg', E1⟩ := HRW'.out q hlq;obtain⟨b0,b1,b2,b3,b4,b5,b6⟩:=E1.kept hK (VX.out g' hg');obtain⟨c0,c1,c2,c3,c4,c5,c6⟩:=hE;have iy0:0<=(q:Int):=by omega
     have iy2:(q:Int)<(n':Int):=by omega
     have hkk:Hid (k*n'+q<n*n'):=Lib.hid (by have:=Nat.mul_le_mul_right n' (show k+1<=n by omega);rw[Nat.succ_mul] at this;omega);have hnX:z∉X:=NX.out z hWr.out;have hJ1:J (cP (k*n'+q)) (wr.alloc (.cells #[.int .i64 (e' q).k,.int .i64 (e' q).ax,.int .i64 (e' q).ay,.int .i64 (e' q).bx,.int .i64 (e' q).by',.int .i64 (e' q).cx,.int .i64 (e' q).cy] 108)):=HA.out _ _ _ none hJ (World.grownBy_alloc _ _ none) (λr h=>by cases h);obtain⟨f1,t1,x1,y1,hy1,hR1⟩:=HY.out (cP (k*n'+q)) (k*n'+q) _ hJ1 (by rw[Es];exact hkk.out)
     have ed:(k*n'+q)/n'=k:=by rw[Nat.mul_comm,Nat.mul_add_div (by omega),Nat.div_eq_of_lt hlq];rfl
     have em:(k*n'+q)%n'=q:=by rw[Nat.mul_comm,Nat.mul_add_mod,Nat.mod_eq_of_lt hlq]
     rw[ed,em] at hy1;unfold fi at hy1;have hK1:=hK.trans (di.ext (X:=X) (iR wr (.cells #[.int .i64 (e' q).k,.int .i64 (e' q).ax,.int .i64 (e' q).ay,.int .i64 (e' q).bx,.int .i64 (e' q).by',.int .i64 (e' q).cx,.int .i64 (e' q).cy] 108)));have hE1:km (wr.alloc (.cells #[.int .i64 (e' q).k,.int .i64 (e' q).ax,.int .i64 (e' q).ay,.int .i64 (e' q).bx,.int .i64 (e' q).by',.int .i64 (e' q).cx,.int .i64 (e' q).cy] 108)) z 0 (e k):=⟨by go_simp,by go_simp,by go_simp,by go_simp,by go_simp,by go_simp,by go_simp⟩
     have hs1:z<(wr.alloc (.cells #[.int .i64 (e' q).k,.int .i64 (e' q).ax,.int .i64 (e' q).ay,.int .i64 (e' q).bx,.int .i64 (e' q).by',.int .i64 (e' q).cx,.int .i64 (e' q).cy] 108)).heap.size:=by simp;omega
     have HK1:=Lib.hid hK1;have HE1:=Lib.hid hE1;have HS1:=Lib.hid hs1;have hR2:=Lib.hid (RoundIn.mono hR1 (R':=λe W'=>∃b:Bool,e=.returned (.bool b)/\Hid (if b then J (cP (k*n'+q)++[k*n'+q]) W'/\di X (wr.alloc (.cells #[.int .i64 (e' q).k,.int .i64 (e' q).ax,.int .i64 (e' q).ay,.int .i64 (e' q).bx,.int .i64 (e' q).by',.int .i64 (e' q).cx,.int .i64 (e' q).cy] 108)) W' else Jx (cP (k*n'+q)++[k*n'+q]) W')) (by
      rintro e' W1 (⟨rfl,h1,h2⟩|⟨rfl,h1⟩)
      ·exact⟨true,rfl,Lib.hid (by rw[if_pos rfl];exact⟨h1,h2⟩)⟩
      ·exact⟨false,rfl,Lib.hid (by rw[if_neg (by decide)];exact h1)⟩))
     clear hJ hJ1 hR1 hK hK1 hE1 hs1 E1 ed em;gi_wp2;refine RoundIn.mono hR2.out ?_;rintro e2 W1 ⟨b,rfl,h1⟩;cases b
     ·have h2 : Hid (Jx (cP (k * n' + q + 1)) W1) := Lib.hid (by have := h1.out; rw [if_neg (by decide)] at this; rw [uP]; exact this);clear h1 hy1 hR2;gi_wp2;refine bodyPost_ret (results_none rfl _ _ _) rfl ?_;exact⟨⟨_,rfl⟩,.inr ⟨_,⟨k*n'+q,hkk.out,rfl⟩,h2.out⟩⟩
     ·have h2:Hid (J (cP (k*n'+(q+1))) W1/\di X W W1/\km W1 z 0 (e k)/\z<W1.heap.size):=Lib.hid (by
       have:=h1.out;rw[if_pos rfl] at this;rw[<- Nat.add_assoc,uP];exact⟨this.1,HK1.out.trans this.2,HE1.out.kept this.2 hnX,Nat.lt_of_lt_of_le HS1.out this.2.size⟩)
      have wq:IntKind.i64.wrap ((q:Int)+1)=((q+1:Nat):Int):=by rw[wrap_in (by unfold I64;omega)];omega
      clear h1 hy1 hR2;gi_wp2;exact⟨⟨q+1,by simp,by omega,h2.out⟩,by simp[intOf];omega⟩
    ·obtain rfl : q = n' := by omega
     have ix:¬((q:Int)<(q:Int)):=by omega
     have h2:Hid (J (cP ((k+1)*q)) wr/\di X W wr):=Lib.hid ⟨by rw[Nat.succ_mul];exact hJ,hK⟩;have wk:IntKind.i64.wrap ((k:Int)+1)=((k+1:Nat):Int):=by rw[wrap_in (by unfold I64;omega)];omega
     clear hJ hK hE;gi_wp2;exact⟨⟨k+1,by simp,by omega,h2.out⟩,by simp[intOf];omega⟩
  ·obtain rfl : k = n := by omega
   have ix:¬((k:Int)<(k:Int)):=by omega
   have h2:=Lib.hid hJ;clear hJ hK;gi_wp2;go_end0;first|exact⟨⟨_,rfl⟩,.inl ⟨_,rfl,h2.out⟩⟩|exact⟨⟨_,rfl⟩,.inl h2.out⟩
end
set_option maxRecDepth 100000
section
def Gp.no:Gp:=⟨false,Rt.no,Sp.no,Sp.no⟩
def Pr.gp(p:Pr):Gp:=⟨false,p.d,p.a,p.b⟩
def tR(c:Nat->Pr):Nat->Gp
 | 0=>Gp.no|k+1=>if (k==0||decide (eE (c k).d (tR c k).d<0))=true then (c k).gp else tR c k
def Ph(g:Gp):Prop:=(I64 g.d.add/\I64 g.d.s)/\(I64 g.a.x/\I64 g.a.y/\I64 g.a.dx/\I64 g.a.dy/\I64 g.a.p/\I64 g.a.q/\I64 g.a.len)/\I64 g.b.x/\I64 g.b.y/\I64 g.b.dx/\I64 g.b.dy/\I64 g.b.p/\I64 g.b.q/\I64 g.b.len
def fa(W:World)(g:Gp)(cs:List Value):Prop:=∃n p l c m q k d,cs=[.bool g.m,.int .i64 g.d.add,.int .i64 g.d.s,.bool n,.slice p l c,.bool m,.slice q k d,.int .i64 g.a.x,.int .i64 g.a.y,.int .i64 g.a.dx,.int .i64 g.a.dy,.int .i64 g.a.p,.int .i64 g.a.q,.int .i64 g.a.len,.int .i64 g.b.x,.int .i64 g.b.y,.int .i64 g.b.dx,.int .i64 g.b.dy,.int .i64 g.b.p,.int .i64 g.b.q,.int .i64 g.b.len]/\NR W n p l c g.d.n/\NR W m q k d g.d.d/\Ph g
theorem fa.ext{W W':World}{g:Gp}{cs:List Value}(h:fa W g cs)(hx:ac W W'):fa W' g cs:=by
 obtain⟨n,p,l,c,m,q,k,d,e,h1,h2,h3⟩:=h;exact⟨n,p,l,c,m,q,k,d,e,h1.ext hx,h2.ext hx,h3⟩
theorem Qr{X:List Nat}{W W':World}{n:Bool}{p:Option Addr}{l c:Nat}{x:Nm}(hX:∀g∈X,∃xs T,W.heap[g]? = some (.cells xs T)/\∀v∈xs.toList,nd v)(hk:di X W W')(h:NR W n p l c x):NR W' n p l c x:=by
 refine⟨h.1,h.2.1,h.2.2.1,h.2.2.2.1,h.2.2.2.2.1,λh0=>?_⟩;obtain⟨b,o,e,hb,hc⟩:=h.2.2.at h0;have hbX:b∉X:=λhx=>by
  obtain⟨xs,T,h1,h2⟩:=hX b hx;have:=hc 0 h0;obtain⟨xs⟩:=xs;rw[cell_of_row _ _ _ _ _ _ h1] at this;exact h2 _ (List.mem_of_getElem? (by simpa using this)) _ rfl
 exact⟨b,o,e,Nat.lt_of_lt_of_le hb hk.size,λi hi=>hk.cell (hc i hi) hbX⟩
theorem fa.kp{X:List Nat}{W W':World}{g:Gp}{cs:List Value}(hX:∀g∈X,∃xs T,W.heap[g]? = some (.cells xs T)/\∀v∈xs.toList,nd v)(hk:di X W W')(h:fa W g cs):fa W' g cs:=by
 obtain⟨n,p,l,c,m,q,k,d,e,h1,h2,h3⟩:=h;exact⟨n,p,l,c,m,q,k,d,e,Qr hX hk h1,Qr hX hk h2,h3⟩
theorem fa.nd{W:World}{g:Gp}{cs:List Value}(h:fa W g cs):∀v∈cs,Go.Proofs.YtghemgdfmldoeaaGreat.nd v:=by
 obtain⟨n,p,l,c,m,q,k,d,rfl,_⟩:=h;intro v hv;simp only[List.mem_cons,List.not_mem_nil,or_false] at hv;rcases hv with rfl|rfl|rfl|rfl|rfl|rfl|rfl|rfl|rfl|rfl|rfl|rfl|rfl|rfl|rfl|rfl|rfl|rfl|rfl|rfl|rfl<;>exact λz h=>nomatch h
def iu(W:World)(B:Nat)(g:Gp):Prop:=∃cs,W.heap[B]? = some (.cells cs.toArray 89)/\fa W g cs
theorem iu.ext{W W':World}{B:Nat}{g:Gp}(h:iu W B g)(hx:ac W W'):iu W' B g:=by
 obtain⟨cs,h1,h2⟩:=h;exact⟨cs,aH h1 hx,h2.ext hx⟩
theorem O4{W:World}{g:Gp}{n m:Bool}{p q:Option Addr}{l c k d:Nat}(h1:NR W n p l c g.d.n)(h2:NR W m q k d g.d.d)(h3:Ph g):au W W (λ_=>0) 0 (dX g.d) (.agg #[.int .i64 g.d.add,.int .i64 g.d.s,.bool n,.slice p l c,.bool m,.slice q k d]) :=
 bL.2 ⟨_,bi.2 ⟨aP h3.1.1,_,rfl,bi.2 ⟨aP h3.1.2,_,rfl,js.2 ⟨_,_,_,_,h1,_,rfl,js.2 ⟨_,_,_,_,h2,_,rfl,rfl⟩⟩⟩⟩,rfl⟩
theorem a0G(Bs Bl:Nat)(g h:Gp)(ys:List Value)(sm:Bool)(w:World)(hs:w.heap[Bs]? = some (.cells #[.bool sm] 4))(hl:iu w Bl h)(hne:Bs≠Bl)(hy:fa w g ys) :
  Calls Tryz.prog 129 #[.agg ys.toArray,.pointer (some ⟨Bs,0,none⟩),.pointer (some ⟨Bl,0,none⟩)] w λe W'=>(∃v,e=.returned v)/\kG Bs Bl w W'/\W'.heap[Bs]? = some (.cells #[.bool true] 4)/\iu W' Bl (if (!sm||decide (eE g.d h.d<0))=true then g else h):=by
 obtain⟨cs,hc,hcs⟩:=hl;have ndx:=hcs.nd;obtain⟨n,p,l,c,m,q,k,d,rfl,h1,h2,h3⟩:=id hcs;obtain⟨n',p',l',c',m',q',k',d',rfl,y1,y2,y3⟩:=id hy;have hcmp:∀W,ac w W->Calls Tryz.prog 99 #[.agg #[.int .i64 g.d.add,.int .i64 g.d.s,.bool n',.slice p' l' c',.bool m',.slice q' k' d'],.agg #[.int .i64 h.d.add,.int .i64 h.d.s,.bool n,.slice p l c,.bool m,.slice q k d]] W λe W'=>e=.returned (.int .i64 (eE g.d h.d))/\ac W W':=λW hW=>by
  have f:=fA.ok (args:=[dX g.d,dX h.d]) (res:=_) (ps:=_) rfl (by trivial);refine (f W _ (aK.2 ⟨_,O4 (y1.ext hW) (y2.ext hW) y3,_,rfl,aK.2 ⟨_,O4 (h1.ext hW) (h2.ext hW) h3,_,rfl,rfl⟩⟩)).mono ?_;rintro e W' ⟨v,rfl,hv,hx⟩;exact⟨congrArg _ (dL.1 hv).2,hx⟩
 have one:∀v ∈ [.bool g.m,.int .i64 g.d.add,.int .i64 g.d.s,.bool n',.slice p' l' c',.bool m',.slice q' k' d',.int .i64 g.a.x,.int .i64 g.a.y,.int .i64 g.a.dx,.int .i64 g.a.dy,.int .i64 g.a.p,.int .i64 g.a.q,.int .i64 g.a.len,.int .i64 g.b.x,.int .i64 g.b.y,.int .i64 g.b.dx,.int .i64 g.b.dy,.int .i64 g.b.p,.int .i64 g.b.q,.int .i64 g.b.len],Value.oneCell' v=true:=λv hv=>by
  simp only[List.mem_cons,List.not_mem_nil,or_false] at hv;rcases hv with rfl|rfl|rfl|rfl|rfl|rfl|rfl|rfl|rfl|rfl|rfl|rfl|rfl|rfl|rfl|rfl|rfl|rfl|rfl|rfl|rfl<;>rfl
 refine (a0H Bs Bl _ _ _ _ _ _ _ _ _ _ _ _ _ _ _ _ _ _ _ _ _ _ _ _ _ _ _ _ _ _ _ _ _ _ _ _ _ _ _ _ _ _ sm (eE g.d h.d) w hs hc hne one hcmp).mono ?_;rintro e W' ⟨h4,h5,h6⟩;refine⟨h4,h5,?_⟩;split at h6
 ·rename_i hif;rw[if_pos hif];have hk:di [Bs,Bl] w W':=⟨h5.size,λi o hi _ hx=>by
   simp only[List.mem_cons,List.not_mem_nil,or_false,not_or] at hx;exact (h5.block i (Array.getElem?_eq_some_iff.1 hi).1 hx.1 hx.2).trans hi⟩
  refine⟨h6.1,_,h6.2,hy.kp (X:=[Bs,Bl]) (λx hx=>?_) hk⟩;simp only[List.mem_cons,List.not_mem_nil,or_false] at hx;rcases hx with rfl|rfl
  ·exact⟨_,_,hs,λv hv=>by rw[List.mem_singleton.1 hv];exact λz h=>nomatch h⟩
  ·exact⟨_,_,hc,ndx⟩
 ·rename_i hif;rw[if_neg hif];have hsm:sm=true:=by cases sm with|true=>rfl|false=>exact absurd rfl hif
  subst hsm;exact⟨aH hs h6,_,aH hc h6,hcs.ext h6⟩
end
set_option maxHeartbeats 1000000
set_option maxRecDepth 100000
section
open Go.RowKit Go.Shelf
attribute [local go_sem] Oper.semAt_some
attribute [local go_sem] aL dz
def dS:List Value:=[.bool false,.int .i64 0,.int .i64 0,.bool false,.slice none 0 0,.bool false,.slice none 0 0,.int .i64 0,.int .i64 0,.int .i64 0,.int .i64 0,.int .i64 0,.int .i64 0,.int .i64 0,.int .i64 0,.int .i64 0,.int .i64 0,.int .i64 0,.int .i64 0,.int .i64 0,.int .i64 0]
theorem ZX(w:World) :
  Calls Tryz.prog 91 #[] w λe w'=>e=.returned (.tuple #[.func (.func 129) #[] #[.pointer (some ⟨w.heap.size+1,0,none⟩),.pointer (some ⟨w.heap.size,0,none⟩)],.func (.func 130) #[] #[.pointer (some ⟨w.heap.size,0,none⟩)]])/\ac w w'/\w'.heap[w.heap.size+1]? = some (.cells #[.bool false] 4)/\w'.heap[w.heap.size]? = some (.cells dS.toArray 89):=by
 have h0:∀w:World,(w.alloc (.cells dS.toArray 89)).heap[w.heap.size]? = some (.cells dS.toArray 89):=λw=>World.alloc_heap_new _ _
 have H0:=Lib.hid h0;clear h0;go_enter Tryz.func91,Tryz.ntmps91;go_wp2;refine bodyPost_ret (results_tmp2 rfl _ _ _) rfl ?_;refine⟨rfl,ag,?_,?_⟩
 ·go_simp;have:=World.alloc_heap_new (w.alloc (.cells dS.toArray 89)) (.cells #[.bool false] 4);simpa[dS] using this
 ·have := H0.out w;exact aH this (iR _ _)
theorem ZY(k r k' r':Int)(p p':Option Addr)(n c n' c':Nat)(w:World) :
  Calls Tryz.prog 92 #[.agg #[.int .i64 k,.slice p n c,.int .i64 r],.agg #[.int .i64 k',.slice p' n' c',.int .i64 r']] w λe w'=>e=.returned (.func (.func 131) #[] #[.pointer (some ⟨w.heap.size,0,none⟩),.pointer (some ⟨w.heap.size+1,0,none⟩)])/\ac w w'/\w'.cell? ⟨w.heap.size,1,none⟩=some (.slice p n c)/\w'.cell? ⟨w.heap.size+1,1,none⟩=some (.slice p' n' c')/\w.heap.size+1<w'.heap.size:=by
 go_enter Tryz.func92,Tryz.ntmps92;go_wp2;go_ret;exact⟨rfl,ag,by go_simp,by go_simp,by simp⟩
end
set_option maxRecDepth 100000
section
def pC(id:Nat):Code->Option Code
 | .region k ops d=>if k=id then some (.region k ops d) else none
 | .seq a b=>match pC id a with|some c=>some c|none=>pC id b
 | .cond _ a b=>match pC id a with|some c=>some c|none=>pC id b
 | .block _ c=>pC id c
 | .loop c=>pC id c
 | .scope c=>pC id c
 | .rangeFunc _ _ a c=>match pC id a with|some c=>some c|none=>pC id c
 | _=>none
noncomputable def gR(k:Nat):List Oper:=match pC k (dC Tryz.prog 32) with|some (.region _ ops _)=>ops.toList|_=>[]
noncomputable def gO (k i : Nat) : Oper := ((gR k)[i]?).getD ⟨none, .move (.tmp 0), 0, "", #[], none⟩
theorem a2G{l m:List Oper}{t:Nat}(h:ig (l++m) t=true):ig l t=true/\ig m t=true:=by
 unfold ig at *;rwa [List.all_append,Bool.and_eq_true] at h
def eo(e:Ed):List Value:=[.int .i64 e.k,.int .i64 e.ax,.int .i64 e.ay,.int .i64 e.bx,.int .i64 e.by',.int .i64 e.cx,.int .i64 e.cy]
def oj(e:Ed):Prop:=I64 e.k/\I64 e.ax/\I64 e.ay/\I64 e.bx/\I64 e.by'/\I64 e.cx/\I64 e.cy
theorem oj.rep{e:Ed}(h:oj e)(W:World):aE W (cV e) (eo e):=by
 obtain⟨a0,a1,a2,a3,a4,a5,a6⟩:=h;exact⟨[_],_,rfl,⟨rfl,aP a0⟩,[_],_,rfl,⟨rfl,aP a1⟩,[_],_,rfl,⟨rfl,aP a2⟩,[_],_,rfl,⟨rfl,aP a3⟩,[_],_,rfl,⟨rfl,aP a4⟩,[_],_,rfl,⟨rfl,aP a5⟩,[_],[],rfl,⟨rfl,aP a6⟩,rfl⟩
def fX(l:List It):V1:=⟨false,[.fp l]⟩
theorem wR{W:World}{l:List It}{cs:List Value}{b:Nat}{T:TypeId}(hg:W.heap[b]? = some (.cells cs.toArray T))(h:aE W l cs):au W W (λ_=>0) 0 (fX l) (.pointer (some ⟨b,0,none⟩)):=Tz (cs:=cs) (ds:=[]) hg (Nat.zero_le _) (by simp) h
theorem xq{V W:World}{n:Nat}{d:Ds}{a:Act}(h:JJ V (bI n d) a W):ac V W/\a.tmps.size=n/\∃r,∀t v,(bI n d).t.get t=some (.one v)->au V W r d.m.length v (a.tmps.getD t undef):=by
 obtain⟨r,cm,⟨hM,_⟩,hT⟩:=h;exact⟨hM.ext,hT.1,r,λt v hv=>hT.2 t _ hv⟩
def aT(b:Nat):Value:=.pointer (some ⟨b,0,none⟩)
theorem r8(a:Act)(W:World)(m:Bool)(x y:Ed)(B6 P9 P10:Nat)(Q:Act->World->Prop)(hsz:a.tmps.size=94)(h6:a.tmps.getD 6 undef=aT B6)(h9:a.tmps.getD 9 undef=aT P9)(h10:a.tmps.getD 10 undef=aT P10)
  (g6:W.heap[B6]? = some (.cells #[.bool m] 4)) (g9:W.heap[P9]? = some (.cells (eo x).toArray 108)) (g10:W.heap[P10]? = some (.cells (eo y).toArray 108)) (hx:oj x) (hy:oj y)
  (hQ:∀a' W1 W',a'.tmps.size=94->a'.defers=a.defers->(∀t,ig (gR 8) t=true->a'.tmps.getD t undef=a.tmps.getD t undef)->ac W W1->fR B6 W1 W'->W'.heap[B6]? = some (.cells #[.bool (m || !(bK x y==0))] 4)->Q a' W'):aF Tryz.prog (gR 8).toArray Q (gR 8) a W:=by
 have es:gR 8=(gR 8).take 6++[gO 8 6]:=by kernel_rfl
 have key:∀a' W1,ac W W1->a'.tmps.size=94->(∀t,ig ((gR 8).take 6) t=true->a'.tmps.getD t undef=a.tmps.getD t undef)->a'.tmps.getD 48 undef=.bool (m || !(bK x y==0))->aF Tryz.prog (gR 8).toArray Q [gO 8 6] (cI a.defers a') W1:=λa' W1 hE hs hoff h48=>by
  have g6':=aH g6 hE;obtain⟨o1,o2⟩:=lP (cs':=(([.bool m]:List Value).take 0++(([.bool (m || !(bK x y==0))]:List Value)++([.bool m]:List Value).drop (0+1))).toArray) g6';refine Aj (W:=W1.setRow B6 (([.bool m]:List Value).take 0++(([.bool (m || !(bK x y==0))]:List Value)++([.bool m]:List Value).drop (0+1))).toArray) (by kernel_rfl) ?_ ?_
  ·exact oQ (x:=.tmp 6) (y:=.tmp 48) (t:=4) (j:=0) (n:=1) (by kernel_rfl) (show a'.tmps.getD 6 undef=_ by rw[hoff 6 (by kernel_rfl)];exact h6) g6' (by rw[show (cI a.defers a').eval (.tmp 48)=a'.tmps.getD 48 undef from rfl,h48];rfl) (by kernel_rfl) rfl (by simp) (λv hv=>by rw[List.mem_singleton.1 hv];rfl)
  ·refine hQ _ _ _ (show (Act.put (cI a.defers a') _ undef).tmps.size = 94 by rw [show Act.put (cI a.defers a') (gO 8 6).dst undef = cI a.defers a' by kernel_rfl]; exact hs) ?_ (λt ht => ?_) hE o1 o2
   ·rw[show Act.put (cI a.defers a') (gO 8 6).dst undef=cI a.defers a' by kernel_rfl];rfl
   ·rw [show Act.put (cI a.defers a') (gO 8 6).dst undef = cI a.defers a' by kernel_rfl];rw[es] at ht;exact hoff t (a2G ht).1
 rw[show aF Tryz.prog (gR 8).toArray Q (gR 8) a W=aF Tryz.prog (gR 8).toArray Q ((gR 8).take 6++[gO 8 6]) a W by rw[<- es]];refine xf ?_;cases m with|true =>
  refine sW (X:=[]) (K:=[FK]) (n:=94) (d:=⟨[(6,.eq (fX [.b true])),(9,.eq (fX (cV x))),(10,.eq (fX (cV y)))],[]⟩) (d':=⟨[(48,.eq ⟨false,[.b true]⟩)],[]⟩) (q:=[]) [pR ⟨false,[.b true]⟩] (by kernel_rfl) (sJ hsz λz hz=>?_) λa' W1 hJ hoff=>?_
  ·simp only [List.mem_cons, List.not_mem_nil, or_false] at hz;rcases hz with rfl|rfl|rfl
   ·rw[h6];exact wR (cs:=[.bool true]) g6 ⟨[_],[],rfl,rfl,rfl⟩
   ·rw[h9];exact wR g9 (hx.rep W)
   ·rw[h10];exact wR g10 (hy.rep W)
  ·obtain ⟨h1, h2, r, h3⟩ := xq hJ;exact key a' W1 h1 h2 hoff (List.cons.inj (show _=[Value.bool true] from (h3 48 ⟨false,[.b true]⟩ (by kernel_rfl)).scal)).1|false =>
  refine sW (X:=[]) (K:=[FK]) (n:=94) (d:=⟨[(6,.eq (fX [.b false])),(9,.eq (fX (cV x))),(10,.eq (fX (cV y)))],[]⟩) (d':=⟨[(48,.eq (aN (!(bK x y==0))))],[]⟩) (q:=[]) [pR (aN (!(bK x y==0)))] (by kernel_rfl) (sJ hsz λz hz=>?_) λa' W1 hJ hoff=>?_
  ·simp only [List.mem_cons, List.not_mem_nil, or_false] at hz;rcases hz with rfl|rfl|rfl
   ·rw[h6];exact wR (cs:=[.bool false]) g6 ⟨[_],[],rfl,rfl,rfl⟩
   ·rw[h9];exact wR g9 (hx.rep W)
   ·rw[h10];exact wR g10 (hy.rep W)
  ·obtain ⟨h1, h2, r, h3⟩ := xq hJ;exact key a' W1 h1 h2 hoff (lg.1 (h3 48 (aN (!(bK x y==0))) (by kernel_rfl))).2
def eL(W:World)(b:Nat)(l:List It):Prop:=∃c d T,W.heap[b]? = some (.cells (c++d).toArray T)/\aE W l c
theorem eL.ext{W W':World}{b:Nat}{l:List It}(h:eL W b l)(hx:ac W W'):eL W' b l:=by
 obtain⟨c,d,T,h1,h2⟩:=h;exact⟨c,d,T,aH h1 hx,h2.ext hx⟩
theorem eL.rv{W:World}{b:Nat}{l:List It}(h:eL W b l):au W W (λ_=>0) 0 (fX l) (aT b):=by
 obtain⟨c,d,T,h1,h2⟩:=h;exact Tz (cs:=c) (ds:=d) h1 (Nat.zero_le _) rfl h2
theorem eL.of{W:World}{b:Nat}{l:List It}{cs:List Value}{T:TypeId}(h:W.heap[b]? = some (.cells cs.toArray T))(h2:aE W l cs):eL W b l:=⟨cs,[],T,by rw[List.append_nil];exact h,h2⟩
theorem MO{V W:World}{n:Nat}{d:Ds}{a:Act}(h:JJ V (bI n d) a W):ac V W/\a.tmps.size=n/\∃r,(∀t v,(bI n d).t.get t=some (.one v)->au V W r d.m.length v (a.tmps.getD t undef))/\∀b x,d.m[b]? = some (some x)->(x.l.all It.np)=true->eL W (r b) (x.l.map xa)/\V.heap.size<=r b:=by
 obtain⟨r,cm,⟨hM,_⟩,hT⟩:=h;refine⟨hM.ext,hT.1,r,λt v hv=>hT.2 t _ hv,λb x hb hn=>?_⟩;obtain⟨k1,cs,ds,k2,k3,_⟩:=hM.blk b x (cf.2 hb);exact⟨⟨cs,ds,_,by rw[<- k2];exact k1,IG hM.ext hn k3⟩,hM.lo b x (cf.2 hb)⟩
def Dh(s:Sp):List Pf:=[⟨s.x=s.x,rfl⟩,⟨s.y=s.y,rfl⟩,⟨s.dx=s.dx,rfl⟩,⟨s.dy=s.dy,rfl⟩,⟨s.p=s.p,rfl⟩,⟨s.q=s.q,rfl⟩,⟨s.len=s.len,rfl⟩]
def I4(r:Rt):List Pf:=[⟨r.add=r.add,rfl⟩,⟨r.s=r.s,rfl⟩,⟨It.d (.num r.n)=It.d (.num r.n),rfl⟩,⟨It.d (.num r.d)=It.d (.num r.d),rfl⟩]
theorem r10(a:Act)(W:World)(x y:Ed)(P9 P10:Nat)(Q:Act->World->Prop)(hsz:a.tmps.size=94)(h9:a.tmps.getD 9 undef=aT P9)(h10:a.tmps.getD 10 undef=aT P10)(g9:eL W P9 (cV x))(g10:eL W P10 (cV y))
  (hQ:∀a' W',a'.tmps.size=94->a'.defers=a.defers->(∀t,ig (gR 10) t=true->a'.tmps.getD t undef=a.tmps.getD t undef)->ac W W'->(∃p q r,a'.tmps.getD 11 undef=aT p/\a'.tmps.getD 12 undef=aT q/\a'.tmps.getD 13 undef=aT r/\eL W' p (dX (gC x y).d).l/\eL W' q (fQ (gC x y).a).l/\eL W' r (fQ (gC x y).b).l)->Q a' W'):aF Tryz.prog (gR 10).toArray Q (gR 10) a W:=by
 refine sW (X:=[]) (K:=[Wh]) (n:=94) (d:=⟨[(9,.eq (fX (cV x))),(10,.eq (fX (cV y)))],[]⟩) (d':=⟨[(11,.eq (ak 0)),(12,.eq (ak 1)),(13,.eq (ak 2))],[some ⟨85,(dX (gC x y).d).l⟩,some ⟨87,(fQ (gC x y).a).l⟩,some ⟨87,(fQ (gC x y).b).l⟩]⟩) (q:=[]) ([pR (ak 0),pR (ak 1),pR (ak 2)]++(I4 (gC x y).d++(Dh (gC x y).a++Dh (gC x y).b))) (by kernel_rfl) (sJ hsz λz hz=>?_) λa' W1 hJ hoff=>?_
 ·simp only [List.mem_cons, List.not_mem_nil, or_false] at hz;rcases hz with rfl|rfl
  ·rw[h9];exact g9.rv
  ·rw[h10];exact g10.rv
 ·obtain ⟨h1, h2, r, h3, h4⟩ := MO hJ;have pt:∀t b,(bI 94 ⟨[(11,.eq (ak 0)),(12,.eq (ak 1)),(13,.eq (ak 2))],[some ⟨85,(dX (gC x y).d).l⟩,some ⟨87,(fQ (gC x y).a).l⟩,some ⟨87,(fQ (gC x y).b).l⟩]⟩).t.get t=some (.one (ak b))->a'.tmps.getD t undef=aT (r b):=λt b h=>(List.cons.inj (h3 t (ak b) h).scal.2).1
  exact hQ _ _ h2 rfl hoff h1 ⟨r 0,r 1,r 2,pt 11 0 (by kernel_rfl),pt 12 1 (by kernel_rfl),pt 13 2 (by kernel_rfl),(h4 0 _ rfl (by kernel_rfl)).1,(h4 1 _ rfl (by kernel_rfl)).1,(h4 2 _ rfl (by kernel_rfl)).1⟩
end
set_option maxRecDepth 100000
section
def yH(p:Pr):List It:=.b false::([.i p.d.add lim,.i p.d.s lim,.o (.num p.d.n),.o (.num p.d.d)]++((fQ p.a).l++(fQ p.b).l))
theorem SK{V W:World}{r:Nat->Nat}{k:Nat}{x:Nm}{l:List It}{cs:List Value}:aA V W r k (.o (.num x)::l) cs <-> ∃n p m c,NR V n p m c x/\∃d,cs=.bool n::.slice p m c::d/\aA V W r k l d :=
 ⟨λ⟨c,d,e,⟨n,p,m,c',h1,h2⟩,h3⟩=>⟨n,p,m,c',h2,d,by rw[e,h1];rfl,h3⟩,λ⟨n,p,m,c',h,d,e,h3⟩=>⟨[_,_],d,e,⟨n,p,m,c',rfl,h⟩,h3⟩⟩
theorem Z5{V W:World}{r:Nat->Nat}{k:Nat}{p:Pr}{cs:List Value}(h:aA V W r k (yH p) cs):fa V p.gp cs:=by
 simp only[yH,fQ,List.cons_append,List.nil_append,SJ,bi,SK,fh] at h;obtain⟨_,rfl,⟨_,i1⟩,_,rfl,⟨_,i2⟩,_,rfl,n,p',l,c,h1,_,rfl,m,q,k',d,h2,_,rfl,⟨_,j1⟩,_,rfl,⟨_,j2⟩,_,rfl,⟨_,j3⟩,_,rfl,⟨_,j4⟩,_,rfl,⟨_,j5⟩,_,rfl,⟨_,j6⟩,_,rfl,⟨_,j7⟩,_,rfl,⟨_,k1⟩,_,rfl,⟨_,k2⟩,_,rfl,⟨_,k3⟩,_,rfl,⟨_,k4⟩,_,rfl,⟨_,k5⟩,_,rfl,⟨_,k6⟩,_,rfl,⟨_,k7⟩,_,rfl,rfl⟩:=h;exact⟨n,p',l,c,m,q,k',d,rfl,h1,h2,⟨i1,i2⟩,⟨j1,j2,j3,j4,j5,j6,j7⟩,k1,k2,k3,k4,k5,k6,k7⟩
theorem ij{a:Act}{d:Nat}{v:Value}(h:d<a.tmps.size):(a.put (some d) v).tmps.getD d undef=v:=by simp[Act.put,h]
def jm(Bs Bl:Nat):Value:=.func (.func 129) #[] #[aT Bs,aT Bl]
theorem r11(a:Act)(W:World)(p:Pr)(h:Gp)(sm:Bool)(B7 Bs Bl P11 P12 P13:Nat)(Q:Act->World->Prop)(hsz:a.tmps.size=94)(h7:a.tmps.getD 7 undef=aT B7)(h11:a.tmps.getD 11 undef=aT P11)(h12:a.tmps.getD 12 undef=aT P12)(h13:a.tmps.getD 13 undef=aT P13)
  (g7:W.heap[B7]? = some (.cells #[jm Bs Bl] 132)) (g11:eL W P11 (dX p.d).l) (g12:eL W P12 (fQ p.a).l) (g13:eL W P13 (fQ p.b).l) (hs:W.heap[Bs]? = some (.cells #[.bool sm] 4)) (hl:iu W Bl h) (hne:Bs≠Bl)
  (hQ:∀a' W1 W',a'.defers=a.defers->ac W W1->kG Bs Bl W1 W'->W'.heap[Bs]? = some (.cells #[.bool true] 4)->iu W' Bl (if (!sm||decide (eE p.d h.d<0))=true then p.gp else h)->Q a' W'):aF Tryz.prog (gR 11).toArray Q (gR 11) a W:=by
 have es:gR 11=gO 11 0::(((gR 11).drop 1).take 4++[gO 11 5]):=by kernel_rfl
 have d0:(gO 11 0).dst=some 57:=by kernel_rfl
 have d5:(gO 11 5).dst=some 62:=by kernel_rfl
 rw[show aF Tryz.prog (gR 11).toArray Q (gR 11) a W=aF Tryz.prog (gR 11).toArray Q (gO 11 0::(((gR 11).drop 1).take 4++[gO 11 5])) a W by rw[<- es]];refine jN (x:=jm Bs Bl) (W:=W) (by kernel_rfl) ?_ ?_
 ·have := vB (P := Tryz.prog) (o := gO 11 0) (a := a) (w := W) (t := 132) (x := .tmp 7) (j := 0) (n := 1) (b := false) (cs := [jm Bs Bl]) (by kernel_rfl) h7 g7 (by kernel_rfl) (by kernel_rfl) (by simp) (λ_ => rfl);exact this
 rw[d0];have hsz1:(a.put (some 57) (jm Bs Bl)).tmps.size=94:=by simp[Act.put,hsz]
 have e57:(a.put (some 57) (jm Bs Bl)).tmps.getD 57 undef=jm Bs Bl:=ij (by rw[hsz];decide);have off57:∀t,t≠57->(a.put (some 57) (jm Bs Bl)).tmps.getD t undef=a.tmps.getD t undef:=λt ht=>by simp[Act.put,Array.getElem?_setIfInBounds,Ne.symm ht]
 refine xf ?_;refine sW (X:=[]) (K:=[]) (n:=94) (d:=⟨[(11,.eq (fX (dX p.d).l)),(12,.eq (fX (fQ p.a).l)),(13,.eq (fX (fQ p.b).l))],[]⟩) (d':=⟨[(61,.eq ⟨true,yH p⟩)],[]⟩) (q:=[]) [pR ⟨true,yH p⟩] (by kernel_rfl) (sJ hsz1 λz hz=>?_) λa' W1 hJ hoff=>?_
 ·simp only [List.mem_cons, List.not_mem_nil, or_false] at hz;rcases hz with rfl|rfl|rfl
  ·rw[off57 11 (by decide),h11];exact g11.rv
  ·rw[off57 12 (by decide),h12];exact g12.rv
  ·rw[off57 13 (by decide),h13];exact g13.rv
 ·obtain ⟨h1, h2, r, h3⟩ := xq hJ;obtain⟨ys,hy,e61⟩:=bL.1 (h3 61 ⟨true,yH p⟩ (by kernel_rfl));have f57:a'.tmps.getD 57 undef=jm Bs Bl:=by rw[hoff 57 (by kernel_rfl)];exact e57
  have en:(execOp (cI (a.put (some 57) (jm Bs Bl)).defers a').eval (gO 11 5)).run Tryz.prog W1=.ok (.enter 129 (#[.agg ys.toArray]++#[aT Bs,aT Bl])) W1:=by
   have:=sX (P:=Tryz.prog) (o:=gO 11 5) (a:=cI (a.put (some 57) (jm Bs Bl)).defers a') (f:=129) (x:=.tmp 57) (caps:=#[aT Bs,aT Bl]) (cl:={ callee:=.value (.tmp 57),args:=#[.tmp 61],argTypes:=#[89] }) qU Tryz.func129 rfl (by kernel_rfl) rfl f57 W1;rw[this];simp only[List.map_toArray,List.map_cons,List.map_nil];rw[show (cI (a.put (some 57) (jm Bs Bl)).defers a').eval (.tmp 61)=.agg ys.toArray from e61]
  refine Ey (by kernel_rfl) en (a0G Bs Bl p.gp h ys sm W1 (aH hs h1) (hl.ext h1) hne ((Z5 hy).ext h1)) (λe W h=>h.1) λv W' ⟨_,k2,k3,k4⟩=>?_
  exact hQ _ W1 W' (by rw[d5];rfl) h1 k2 k3 k4
end
end Go.Proofs.YtghemgdfmldoeaaGreat
