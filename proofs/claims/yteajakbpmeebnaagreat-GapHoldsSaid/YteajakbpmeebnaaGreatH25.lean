import Derived.Test.YteajakbpmeebnaaGreatH24
set_option linter.unusedVariables false
set_option linter.unusedSimpArgs false

namespace Go.Proofs.YteajakbpmeebnaaGreat
open Go.RowKit

set_option maxHeartbeats 4000000
set_option maxRecDepth 100000
section
section
variable {P:Program} {ops:Array Oper} {Q:Exit->Act->World->Prop} {o:Oper} {a:Act} {w W:World}
theorem wpl_skip{rest:List Oper}(hw:Region.wanted o (yielded ops a.tmps)=true)(h:(execOp a.eval o).run P w=.ok .skip W)(hk:wpList P ops Q rest (a.put o.dst undef) W):wpList P ops Q (o::rest) a w:=by
 unfold wpList
 rw[if_pos hw]
 exact .inl (Gives.wp (gives_skip (R:=fun v w'=>v=undef/\w'=W) h ⟨rfl,rfl⟩) fun v w' h=>by obtain⟨rfl,rfl⟩:=h;exact hk)
theorem wpl_val{rest:List Oper}{x:Value}(hw:Region.wanted o (yielded ops a.tmps)=true)(h:(execOp a.eval o).run P w=.ok (.value x) W)(hk:wpList P ops Q rest (a.put o.dst x) W):wpList P ops Q (o::rest) a w:=by
 unfold wpList
 rw[if_pos hw]
 exact .inl (Gives.wp (gives_val (R:=fun v w'=>v=x/\w'=W) h ⟨rfl,rfl⟩) fun v w' h=>by obtain⟨rfl,rfl⟩:=h;exact hk)
theorem ex_load{t T:TypeId}{x:Operand}{g n j:Nat}{b:Bool}{cs:List Value}(ho:o.op=.load t x)(hx:a.eval x=.pointer (some ⟨g,j,none⟩))(hg:w.heap[g]? = some (.cells cs.toArray T))(h1:szT P t=some n)(h2:agT P t=some b)(h3:j+n<=cs.length)(h4:b=false->n=1):(execOp a.eval o).run P w=.ok (.value (cellsV b ((cs.drop j).take n))) w:=by
 refine exec_val (m:=Instr.loadAt t (a.eval x)) (by unfold execOp;rw[ho]) ?_
 rw[hx]
 simp only[Instr.loadAt,Instr.sureAddr,Sem.run_bind,Sem.run_pure,Result.andThen_ok]
 exact run_loadVarT hg h1 h2 h3 h4
theorem ex_store{t T:TypeId}{x y:Operand}{g n j:Nat}{old vs:List Value}(ho:o.op=.store t x y)(hx:a.eval x=.pointer (some ⟨g,j,none⟩))(hg:w.heap[g]? = some (.cells old.toArray T))(hy:(a.eval y).cells=vs.toArray)(hn:szT P t=some n)(hl:vs.length=n)(hj:j+vs.length<=old.length)(h1:∀v∈vs,v.oneCell'=true) :
  (execOp a.eval o).run P w=.ok .skip (w.setRow g (old.take j++(vs++old.drop (j+vs.length))).toArray):=by
 have:=run_storeA (P:=P) hg hy hn hl hj h1
 unfold execOp
 simp only[ho,hx,Sem.run_bind,this,Result.andThen_ok,Sem.run_pure]
end
structure But2 (a b:Nat) (W W':World):Prop where
 os:W'.os=W.os
 tape:W'.tape=W.tape
 output:W'.output=W.output
 size:W.heap.size<=W'.heap.size
 block:∀k,k<W.heap.size->k≠a->k≠b->W'.heap[k]? = W.heap[k]?
theorem But2.ext{a b:Nat}{W W':World}(h:Ext W W'):But2 a b W W':=⟨h.os,h.tape,h.output,h.size,fun k hk _ _=>h.block k hk⟩
theorem But2.fst{a b:Nat}{W W' W2:World}(h:But2 a b W W')(k:OnlyB a W' W2):But2 a b W W2:=⟨k.os.trans h.os,k.tape.trans h.tape,k.output.trans h.output,by rw[k.size];exact h.size,fun i hi ha hb=>(k.block i ha).trans (h.block i hi ha hb)⟩
theorem But2.snd{a b:Nat}{W W' W2:World}(h:But2 a b W W')(k:OnlyB b W' W2):But2 a b W W2:=⟨k.os.trans h.os,k.tape.trans h.tape,k.output.trans h.output,by rw[k.size];exact h.size,fun i hi ha hb=>(k.block i hb).trans (h.block i hi ha hb)⟩
theorem keep_ok(Bs Bl:Nat)(y0 y1 y2 y3 y4 y5 y6 y7 y8 y9 y10 y11 y12 y13 y14 y15 y16 y17 y18 y19 y20 x0 x1 x2 x3 x4 x5 x6 x7 x8 x9 x10 x11 x12 x13 x14 x15 x16 x17 x18 x19 x20:Value)(sm:Bool)(c:Int)(w:World)(hs:w.heap[Bs]? = some (.cells #[.bool sm] 4))(hl:w.heap[Bl]? = some (.cells #[x0,x1,x2,x3,x4,x5,x6,x7,x8,x9,x10,x11,x12,x13,x14,x15,x16,x17,x18,x19,x20] 53))(hne:Bs≠Bl)(h1:∀v ∈ [y0,y1,y2,y3,y4,y5,y6,y7,y8,y9,y10,y11,y12,y13,y14,y15,y16,y17,y18,y19,y20],v.oneCell'=true)
  (hc:∀W,Ext w W->Calls Tryz.prog 46 #[.agg #[y1,y2,y3,y4,y5,y6],.agg #[x1,x2,x3,x4,x5,x6]] W fun e W'=>e=.returned (.int .i64 c)/\Ext W W') :
  Calls Tryz.prog 79 #[.agg #[y0,y1,y2,y3,y4,y5,y6,y7,y8,y9,y10,y11,y12,y13,y14,y15,y16,y17,y18,y19,y20],.pointer (some ⟨Bs,0,none⟩),.pointer (some ⟨Bl,0,none⟩)] w fun e W'=>(∃v,e=.returned v)/\But2 Bs Bl w W'/\if (!sm||decide (c<0))=true then W'.heap[Bs]? = some (.cells #[.bool true] 4)/\W'.heap[Bl]? = some (.cells #[y0,y1,y2,y3,y4,y5,y6,y7,y8,y9,y10,y11,y12,y13,y14,y15,y16,y17,y18,y19,y20] 53) else Ext w W':=by
 have bs:Bs<w.heap.size:=(Array.getElem?_eq_some_iff.1 hs).1
 have bl:Bl<w.heap.size:=(Array.getElem?_eq_some_iff.1 hl).1
 have ls:w.cell? ⟨Bs,0,none⟩=some (.bool sm):=by rw[cell_of_row _ _ _ _ _ _ hs];simp
 have l0:∀i,w.cell? ⟨Bl,i,none⟩=[x0,x1,x2,x3,x4,x5,x6,x7,x8,x9,x10,x11,x12,x13,x14,x15,x16,x17,x18,x19,x20][i]? := fun i=>by rw[cell_of_row _ _ _ _ _ _ hl];simp
 have l1:=l0 1
 have l2:=l0 2
 have l3:=l0 3
 have l4:=l0 4
 have l5:=l0 5
 have l6:=l0 6
 simp only[List.getElem?_cons_succ,List.getElem?_cons_zero] at l1 l2 l3 l4 l5 l6
 have HC:=Lib.hid hc
 have HL:=Lib.hid hl
 have HS:=Lib.hid hs
 have H1:=Lib.hid h1
 clear hc l0 hl hs h1
 have fin:∀(W:World) (z3 z4 z5 z6 z7 z8 z9 z10 z11 z12 z13 z14:Value) (Q:Exit->Act->World->Prop),But2 Bs Bl w W->W.heap[Bs]? = some (.cells #[.bool sm] 4)->W.heap[Bl]? = some (.cells #[x0,x1,x2,x3,x4,x5,x6,x7,x8,x9,x10,x11,x12,x13,x14,x15,x16,x17,x18,x19,x20] 53)->(∃g,z3=.pointer (some ⟨g,0,none⟩)/\W.heap[g]? = some (.cells #[y0,y1,y2,y3,y4,y5,y6,y7,y8,y9,y10,y11,y12,y13,y14,y15,y16,y17,y18,y19,y20] 53)) ->
   (∀a W',a.defers=[]->But2 Bs Bl w W'->W'.heap[Bs]? = some (.cells #[.bool true] 4)->W'.heap[Bl]? = some (.cells #[y0,y1,y2,y3,y4,y5,y6,y7,y8,y9,y10,y11,y12,y13,y14,y15,y16,y17,y18,y19,y20] 53)->Q .normal a W') ->
   ((regOf 2 (bodyF Tryz.prog 79)).getD .skip).wp Tryz.prog Q { tmps:=#[.agg #[y0,y1,y2,y3,y4,y5,y6,y7,y8,y9,y10,y11,y12,y13,y14,y15,y16,y17,y18,y19,y20],.pointer (some ⟨Bs,0,none⟩),.pointer (some ⟨Bl,0,none⟩),z3,z4,z5,z6,z7,z8,z9,z10,z11,z12,z13,z14],defers:=[] } W:=by
  rintro W z3 z4 z5 z6 z7 z8 z9 z10 z11 z12 z13 z14 Q hB hs hl ⟨g,rfl,hg⟩ hQ
  have hb:bodyF Tryz.prog 79=(Tryz.f79.body).getD .skip:=by unfold bodyF;rw[Tryz.func79];rfl
  rw[hb]
  simp only[Tryz.f79,Option.getD,regOf,Nat.reduceEqDiff,reduceIte]
  refine wp_region_lit ?_
  refine wpl_val (x:=cellsV true ((([y0,y1,y2,y3,y4,y5,y6,y7,y8,y9,y10,y11,y12,y13,y14,y15,y16,y17,y18,y19,y20]:List Value).drop 0).take 21)) (W:=W) (by kernel_rfl) ?_ ?_
  ·exact ex_load (cs:=[y0,y1,y2,y3,y4,y5,y6,y7,y8,y9,y10,y11,y12,y13,y14,y15,y16,y17,y18,y19,y20]) rfl (by rfl) hg (n:=21) (by kernel_rfl) (b:=true) (by kernel_rfl) (by simp) nofun
  obtain⟨o1,o2⟩:=onlyB_setRow (cs':=(([x0,x1,x2,x3,x4,x5,x6,x7,x8,x9,x10,x11,x12,x13,x14,x15,x16,x17,x18,x19,x20]:List Value).take 0++([y0,y1,y2,y3,y4,y5,y6,y7,y8,y9,y10,y11,y12,y13,y14,y15,y16,y17,y18,y19,y20]++([x0,x1,x2,x3,x4,x5,x6,x7,x8,x9,x10,x11,x12,x13,x14,x15,x16,x17,x18,x19,x20]:List Value).drop (0+21))).toArray) hl
  have o2':(W.setRow Bl (([x0,x1,x2,x3,x4,x5,x6,x7,x8,x9,x10,x11,x12,x13,x14,x15,x16,x17,x18,x19,x20]:List Value).take 0++([y0,y1,y2,y3,y4,y5,y6,y7,y8,y9,y10,y11,y12,y13,y14,y15,y16,y17,y18,y19,y20]++([x0,x1,x2,x3,x4,x5,x6,x7,x8,x9,x10,x11,x12,x13,x14,x15,x16,x17,x18,x19,x20]:List Value).drop (0+21))).toArray).heap[Bl]? = some (.cells #[y0,y1,y2,y3,y4,y5,y6,y7,y8,y9,y10,y11,y12,y13,y14,y15,y16,y17,y18,y19,y20] 53):=o2
  generalize hW1:W.setRow Bl (([x0,x1,x2,x3,x4,x5,x6,x7,x8,x9,x10,x11,x12,x13,x14,x15,x16,x17,x18,x19,x20]:List Value).take 0++([y0,y1,y2,y3,y4,y5,y6,y7,y8,y9,y10,y11,y12,y13,y14,y15,y16,y17,y18,y19,y20]++([x0,x1,x2,x3,x4,x5,x6,x7,x8,x9,x10,x11,x12,x13,x14,x15,x16,x17,x18,x19,x20]:List Value).drop (0+21))).toArray=W1 at o1 o2'
  refine wpl_skip (W:=W1) (by kernel_rfl) ?_ ?_
  ·rw [<- hW1]
   exact ex_store (vs:=[y0,y1,y2,y3,y4,y5,y6,y7,y8,y9,y10,y11,y12,y13,y14,y15,y16,y17,y18,y19,y20]) rfl (by rfl) hl (by rfl) (n:=21) (by kernel_rfl) (by rfl) (by simp) H1.out
  have s1:W1.heap[Bs]? = some (.cells #[.bool sm] 4):=(o1.block Bs hne).trans hs
  obtain⟨p1,p2⟩:=onlyB_setRow (cs':=(([.bool sm]:List Value).take 0++(([.bool true]:List Value)++([.bool sm]:List Value).drop (0+1))).toArray) s1
  refine wpl_skip (W:=W1.setRow Bs ((([.bool sm]:List Value).take 0++(([.bool true]:List Value)++([.bool sm]:List Value).drop (0+1))).toArray)) (by kernel_rfl) ?_ ?_
  ·exact ex_store (vs:=[.bool true]) (old:=[.bool sm]) rfl (by rfl) s1 (by rfl) (n:=1) (by kernel_rfl) (by rfl) (by simp) (fun v hv=>by rw[List.mem_singleton.1 hv];rfl)
  refine wpList_nil ?_
  exact hQ _ _ rfl ((hB.snd o1).fst p1) p2 ((p1.block Bl (fun e=>hne e.symm)).trans o2')
 have hb:bodyF Tryz.prog 79=(Tryz.f79.body).getD .skip:=by unfold bodyF;rw[Tryz.func79];rfl
 rw[hb] at fin
 simp only[Tryz.f79,Option.getD,regOf,Nat.reduceEqDiff,reduceIte] at fin
 have FIN:=Lib.hid fin
 clear fin hb
 have hx0:Ext w (w.alloc (.cells #[y0,y1,y2,y3,y4,y5,y6,y7,y8,y9,y10,y11,y12,y13,y14,y15,y16,y17,y18,y19,y20] 53)):=bxx
 have n0:(w.alloc (.cells #[y0,y1,y2,y3,y4,y5,y6,y7,y8,y9,y10,y11,y12,y13,y14,y15,y16,y17,y18,y19,y20] 53)).heap[w.heap.size]? = some (.cells #[y0,y1,y2,y3,y4,y5,y6,y7,y8,y9,y10,y11,y12,y13,y14,y15,y16,y17,y18,y19,y20] 53):=World.alloc_heap_new _ _
 have N0:=Lib.hid n0
 have X0:=Lib.hid hx0
 clear n0 hx0
 cases sm with
 | false =>
  go_enter Tryz.func79,Tryz.ntmps79
  go_upto_region 2 with (fail)
  refine FIN.out _ _ _ _ _ _ _ _ _ _ _ _ _ _ (.ext X0.out) (heap_ext HS.out X0.out) (heap_ext HL.out X0.out) ⟨_,rfl,N0.out⟩ ?_
  rintro⟨tm,df⟩ W rfl h1 h2 h3
  go_end0
  exact⟨⟨_,rfl⟩,h1,h2,h3⟩
 | true =>
  have C2:=Lib.hid (HC.out _ X0.out)
  by_cases hc:c<0
  ·have b0 : decide (c < 0) = true := by simpa using hc
   go_enter Tryz.func79,Tryz.ntmps79
   go_upto_region 2 with (fail)
   refine C2.out.mono ?_
   rintro e W1 ⟨rfl,hx1⟩
   have x2:=Lib.hid (Ext.step X0.out hx1)
   have n2:=Lib.hid (heap_ext N0.out hx1)
   clear hx1
   go_upto_region 2 with (fail)
   refine FIN.out _ _ _ _ _ _ _ _ _ _ _ _ _ _ (.ext x2.out) (heap_ext HS.out x2.out) (heap_ext HL.out x2.out) ⟨_,rfl,n2.out⟩ ?_
   rintro⟨tm,df⟩ W rfl h1 h2 h3
   go_end0
   exact⟨⟨_,rfl⟩,h1,by rw[if_pos (by simpa using hc)];exact⟨h2,h3⟩⟩
  ·have b0 : decide (c < 0) = false := by simpa using hc
   go_enter Tryz.func79,Tryz.ntmps79
   go_wp2_with fail
   refine C2.out.mono ?_
   rintro e W1 ⟨rfl,hx1⟩
   have x2:=Lib.hid (Ext.step X0.out hx1)
   clear hx1
   go_wp2
   all_goals
    go_end0
    exact⟨⟨_,rfl⟩,.ext x2.out,x2.out⟩
end
structure Sp where
 x:Int
 y:Int
 dx:Int
 dy:Int
 p:Int
 q:Int
 len:Int
def Sp.no:Sp:=⟨0,0,0,0,0,0,0⟩
def spP(x y:Int):Sp:=⟨x,y,0,0,0,1,0⟩
def sqI(x y:Int):Int:=x*x+y*y
def dR(add s n d:Int):Rt:=(ofP add s (ofZ n) (ofZ d)).1
def endR(px py qx qy:Int):Rt×Sp:=(dR 0 1 (sqI (px-qx) (py-qy)) 1,spP qx qy)
def lineR(e:Ed)(px py:Int):Rt×Sp :=
 if (px-e.ax)*(e.bx-e.ax)+(py-e.ay)*(e.by'-e.ay)<=0 then endR px py e.ax e.ay
 else if sqI (e.bx-e.ax) (e.by'-e.ay)<=(px-e.ax)*(e.bx-e.ax)+(py-e.ay)*(e.by'-e.ay) then endR px py e.bx e.by'
 else (dR 0 1 (((e.bx-e.ax)*(py-e.ay)-(e.by'-e.ay)*(px-e.ax))*((e.bx-e.ax)*(py-e.ay)-(e.by'-e.ay)*(px-e.ax))) (sqI (e.bx-e.ax) (e.by'-e.ay)),
  ⟨e.ax,e.ay,e.bx-e.ax,e.by'-e.ay,(px-e.ax)*(e.bx-e.ax)+(py-e.ay)*(e.by'-e.ay),sqI (e.bx-e.ax) (e.by'-e.ay),0⟩)
def wiB(dx dy fx fy tx ty:Int):Bool:=decide (0<=fx*dy-fy*dx)&&decide (0<=dx*ty-dy*tx)
def inQ(e:Ed)(vx vy:Int):Bool :=
 !(vx==0&&vy==0)&&(if e.k=3 then wiB vx vy (e.bx-e.cx) (e.by'-e.cy) (e.ax-e.cx) (e.ay-e.cy) else wiB vx vy (e.ax-e.cx) (e.ay-e.cy) (e.bx-e.cx) (e.by'-e.cy))
def arcR(e:Ed)(px py:Int):Rt×Sp :=
 if inQ e (px-e.cx) (py-e.cy) then
  (if radZ e*radZ e<=sqI (px-e.cx) (py-e.cy) then dR (-radZ e) 1 (sqI (px-e.cx) (py-e.cy)) 1 else dR (radZ e) (-1) (sqI (px-e.cx) (py-e.cy)) 1,⟨e.cx,e.cy,px-e.cx,py-e.cy,0,0,radZ e⟩)
 else if sqI (px-e.bx) (py-e.by')<sqI (px-e.ax) (py-e.ay) then endR px py e.bx e.by' else endR px py e.ax e.ay
def pointR(e:Ed)(px py:Int):Rt×Sp :=
 if !(e.ok&&coordB px py) then (Rt.no,Sp.no) else if e.k=1 then lineR e px py else arcR e px py
structure Pr where
 d:Rt
 a:Sp
 b:Sp
def Pr.swap(p:Pr):Pr:=⟨p.d,p.b,p.a⟩
def footR(l a:Ed):List Pr :=
 let dx:=l.bx-l.ax
 let dy:=l.by'-l.ay
 let t:=(a.cx-l.ax)*dx+(a.cy-l.ay)*dy
 let c:=dx*(a.cy-l.ay)-dy*(a.cx-l.ax)
 let nx:=if 0<c then dy else -dy
 let ny:=if 0<c then -dx else dx
 if t<=0\/sqI dx dy<=t\/c*c<=radZ a*radZ a*sqI dx dy\/inQ a nx ny=false then []
 else [⟨dR (-radZ a) 1 (c*c) (sqI dx dy),⟨l.ax,l.ay,dx,dy,t,sqI dx dy,0⟩,⟨a.cx,a.cy,nx,ny,0,0,radZ a⟩⟩]
def centR(a b:Ed):List Pr :=
 let vx:=b.cx-a.cx
 let vy:=b.cy-a.cy
 let r:=radZ a
 let s:=radZ b
 let n:=sqI vx vy
 if (r+s)*(r+s)<n then (if inQ a vx vy&&inQ b (-vx) (-vy) then [⟨dR (-r-s) 1 n 1,⟨a.cx,a.cy,vx,vy,0,0,r⟩,⟨b.cx,b.cy,-vx,-vy,0,0,s⟩⟩] else [])
 else if (r-s)*(r-s)<=n then []
 else if s<r then (if inQ a vx vy&&inQ b vx vy then [⟨dR (r-s) (-1) n 1,⟨a.cx,a.cy,vx,vy,0,0,r⟩,⟨b.cx,b.cy,vx,vy,0,0,s⟩⟩] else [])
 else (if inQ a (-vx) (-vy)&&inQ b (-vx) (-vy) then [⟨dR (s-r) (-1) n 1,⟨a.cx,a.cy,-vx,-vy,0,0,r⟩,⟨b.cx,b.cy,-vx,-vy,0,0,s⟩⟩] else [])
def innerR(a b:Ed):List Pr :=
 if a.k=1 then (if b.k=1 then [] else footR a b) else if b.k=1 then (footR b a).map Pr.swap else centR a b
def candR(a b:Ed):List Pr :=
 [⟨(pointR b a.ax a.ay).1,spP a.ax a.ay,(pointR b a.ax a.ay).2⟩,⟨(pointR b a.bx a.by').1,spP a.bx a.by',(pointR b a.bx a.by').2⟩,
  ⟨(pointR a b.ax b.ay).1,(pointR a b.ax b.ay).2,spP b.ax b.ay⟩,⟨(pointR a b.bx b.by').1,(pointR a b.bx b.by').2,spP b.bx b.by'⟩]++innerR a b
def betterP(x y:Pr):Pr:=if cmpRt y.d x.d<0 then y else x
def leastP:List Pr->Pr
 | []=>⟨Rt.no,Sp.no,Sp.no⟩
 | x::l=>l.foldl betterP x
def edgesR(a b:Ed):Pr:=if !(a.ok&&b.ok) || !(countE a b==0) then ⟨Rt.no,Sp.no,Sp.no⟩ else leastP (candR a b)
theorem sqz_nn(x:Int):0<=x*x:=by
 rcases Int.le_total 0 x with h|h
 ·exact Int.mul_nonneg h h
 ·rw[<- Int.neg_mul_neg];exact Int.mul_nonneg (by omega) (by omega)
theorem sqI_nn(x y:Int):0<=sqI x y:=by
 have:=sqz_nn x
 have:=sqz_nn y
 unfold sqI
 omega
theorem sqI_pos{x y:Int}(h:¬(x=0/\y=0)):0<sqI x y:=by
 have h1:=sqz_nn x
 have h2:=sqz_nn y
 have h3:¬(x*x=0/\y*y=0):=fun ⟨a,b⟩=>h ⟨by rcases Int.mul_eq_zero.1 a with h|h<;>exact h,by rcases Int.mul_eq_zero.1 b with h|h<;>exact h⟩
 unfold sqI
 omega
theorem Di.sq{x y:Int}(hx:Di x)(hy:Di y):I64 (sqI x y):=hx.dot hx hy hy
def cMul:Con:=nBinC 155 mulP (fun _ _=>[]) fun a b _ _ _ _ _ _ _ _ w _ h1 h2=>num_Mul a b _ _ _ _ _ _ _ _ w h1 h2

set_option maxRecDepth 100000
section
theorem wi_min(a b:Int):decide (min a b >= 0)=(decide (0<=a)&&decide (0<=b)):=by
 rw[Bool.eq_iff_iff];simp;omega
theorem within_ok(dx dy fx fy tx ty:Int):Fok Tryz.prog 72 [ptV dx dy c27,ptV fx fy c27,ptV tx ty c27] (.one (blV (wiB dx dy fx fy tx ty))):=by
 have h:wiB dx dy fx fy tx ty=decide (min (fx*dy-fy*dx) (dx*ty-dy*tx) >= 0):=(wi_min _ _).symm
 rw[h]
 exact fok [] [] [] (by kernel_rfl)
def cWithin:Con where
 f:=72
 g:=fun | [⟨true,[.i dx A,.i dy B]⟩,⟨true,[.i fx C,.i fy D]⟩,⟨true,[.i tx E,.i ty F]⟩]=>if (A<=c27/\B<=c27)/\(C<=c27/\D<=c27)/\(E<=c27/\F<=c27) then some (.one (blV (wiB dx dy fx fy tx ty)),[]) else none|_=>none
 ok:=by
  intro args res ps h hp
  split at h<;>try cases h
  split at h<;>cases h
  rename_i hb
  exact (within_ok _ _ _ _ _ _).pre fun W=>rvs_1 (pt_low hb.1.1 hb.1.2) (rvs_1 (pt_low hb.2.1.1 hb.2.1.2) (rvs_1 (pt_low hb.2.2.1 hb.2.2.2) rvs_0))
theorem neB_F{x y:Int}(h:(x==0&&y==0)=true):(!eqZ [.i x,.i y] [.i 0,.i 0])=false:=by simpa[eqZ,eqS] using h
theorem neB_T{x y:Int}(h:(x==0&&y==0)=false):(!eqZ [.i x,.i y] [.i 0,.i 0])=true:=by simp only[eqZ,eqS,h];rfl
theorem quarter_ok(e:Ed)(x y:Int)(hok:e.ok=true):Fok Tryz.prog 145 [edV e 3 c26,ptV x y c27] (.one (blV (inQ e x y))):=by
 by_cases hk:e.k=3
 ·have h1 : (e.k == 3) = true := by simpa using hk
  cases hz:(x==0&&y==0) with
  | true =>
   rw[show inQ e x y=false by unfold inQ;rw[hz];rfl]
   exact fok [cRev,cWithin] [true,false] [pT h1,pP hok,pF (neB_F hz)] (by kernel_rfl)
  | false =>
   rw[show inQ e x y=wiB x y (e.bx-e.cx) (e.by'-e.cy) (e.ax-e.cx) (e.ay-e.cy) by unfold inQ;rw[hz,if_pos hk];rfl]
   exact fok [cRev,cWithin] [true,true] [pT h1,pP hok,pT (neB_T hz)] (by kernel_rfl)
 ·have h1 : (e.k == 3) = false := by simpa using hk
  cases hz:(x==0&&y==0) with
  | true =>
   rw[show inQ e x y=false by unfold inQ;rw[hz];rfl]
   exact fok [cRev,cWithin] [false,false] [pF h1,pF (neB_F hz)] (by kernel_rfl)
  | false =>
   rw[show inQ e x y=wiB x y (e.ax-e.cx) (e.ay-e.cy) (e.bx-e.cx) (e.by'-e.cy) by unfold inQ;rw[hz,if_neg hk];rfl]
   exact fok [cRev,cWithin] [false,true] [pF h1,pT (neB_T hz)] (by kernel_rfl)
def cQuarter:Con where
 f:=145
 g:=fun | [⟨true,l⟩,⟨true,[.i x A,.i y B]⟩]=>if A<=c27/\B<=c27 then (toEd l).map fun e=>(.one (blV (inQ e x y)),[e.ok=true]) else none|_=>none
 ok:=by
  intro args res ps h hp
  split at h<;>try cases h
  split at h<;>try cases h
  rename_i hb
  rename_i l x A y B
  cases he:toEd l with
  | none=>simp[he] at h
  | some e =>
   simp only[he,Option.map_some,Option.some.injEq,Prod.mk.injEq] at h
   obtain⟨rfl,rfl⟩:=h
   exact (quarter_ok e x y hp.1).pre fun W=>rvs_1 (ed_ok he hp.1) (rvs_1 (pt_low hb.1 hb.2) rvs_0)
def spV(s:Sp):V1:=⟨true,[.i s.x lim,.i s.y lim,.i s.dx lim,.i s.dy lim,.i s.p lim,.i s.q lim,.i s.len lim]⟩
def rsV(r:Rt×Sp):AV:=.tup [rtV r.1,spV r.2]
theorem zero_sub'(x:Int):0-x = -x:=by omega
end

set_option maxRecDepth 100000
section
theorem coord_F{x y:Int}(h:coordB x y=true):(!coordB x y)=false:=by rw[h];rfl
theorem coord_T{x y:Int}(h:coordB x y=false):(!coordB x y)=true:=by rw[h];rfl
theorem mulP_sq{x:Int}(h:I64 x):(mulP (ofZ x) (ofZ x)).1=ofZ (x*x):=by
 have s0:=(Wd.of64 h).small (by omega)
 have s1:=((Wd.of64 h).mul (Wd.of64 h)).small (by omega)
 rw[mulP_small' s0 s0 s1]
def cPower:Con where
 f:=144
 g:=fun | [⟨false,[.i x _]⟩]=>some (.one (nmV (ofZ (x*x))),[])|_=>none
 ok:=by
  intro args res ps h _
  split at h<;>cases h
  intro W vals hv
  have hx:=hv
  simp only[rvs_cons,rvs_nil,rv_i] at hx
  obtain⟨_,⟨⟨_,hi⟩,rfl⟩,_,rfl,rfl⟩:=hx
  rw[<- mulP_sq hi]
  exact fok [cNOf,cMul] [] [] (by kernel_rfl) W _ hv
def KP:List Con:=[cNOf,cPower,cRtOf,cChk,cVRight,cRad,cQuarter]
theorem point_ok(e:Ed)(x y:Int)(hok:e.ok=true)(hc:coordB x y=true):Fok Tryz.prog 83 [edV e 3 c26,ptV x y c26] (rsV (pointR e x y)):=by
 have P1:=pF (chk_F hok)
 have P2:=pF (coord_F hc)
 have e0:pointR e x y=if e.k=1 then lineR e x y else arcR e x y:=by unfold pointR;rw[hok,hc];rfl
 rw[e0]
 by_cases hk:e.k=1
 ·have hk1 : (e.k == 1) = true := by simpa using hk
  rw[if_pos hk]
  unfold lineR
  split
  ·rename_i h1
   exact fok KP [false,false,true,true] [P1,P2,pT hk1,pT (decide_eq_true h1)] (by kernel_rfl)
  ·rename_i h1
   split
   ·rename_i h2
    exact fok KP [false,false,true,false,true] [P1,P2,pT hk1,pF (decide_eq_false h1),pT (ge_T h2)] (by kernel_rfl)
   ·rename_i h2
    exact fok KP [false,false,true,false,false] [P1,P2,pT hk1,pF (decide_eq_false h1),pF (ge_F h2)] (by kernel_rfl)
 ·have hk1 : (e.k == 1) = false := by simpa using hk
  rw[if_neg hk]
  unfold arcR
  split
  ·rename_i hq
   by_cases h2:radZ e*radZ e<=sqI (x-e.cx) (y-e.cy)
   ·rw [if_pos h2, <- zero_sub' (radZ e)]
    exact fok KP [false,false,false,true,true] [P1,P2,pF hk1,pP hok,pP hok,pT hq,pT (ge_T h2)] (by kernel_rfl)
   ·rw [if_neg h2]
    exact fok KP [false,false,false,true,false,true] [P1,P2,pF hk1,pP hok,pP hok,pT hq,pF (ge_F h2),pP hok,pT hq] (by kernel_rfl)
  ·rename_i hq
   replace hq:=Bool.eq_false_iff.2 hq
   split
   ·rename_i h2
    exact fok KP [false,false,false,false,false,true] [P1,P2,pF hk1,pP hok,pP hok,pF hq,pP hok,pF hq,pT (decide_eq_true h2)] (by kernel_rfl)
   ·rename_i h2
    exact fok KP [false,false,false,false,false,false] [P1,P2,pF hk1,pP hok,pP hok,pF hq,pP hok,pF hq,pF (decide_eq_false h2)] (by kernel_rfl)
theorem point_no(e:Ed)(x y:Int)(h:(e.ok&&coordB x y)=false):Fok Tryz.prog 83 [edV e lim lim,ptV x y lim] (rsV (pointR e x y)):=by
 rw[show pointR e x y=(Rt.no,Sp.no) by unfold pointR;rw[h];rfl]
 cases ho:e.ok with
 | false=>exact fok KP [true] [pT (chk_T ho)] (by kernel_rfl)
 | true =>
  rw[ho] at h
  exact fok KP [false,true] [pF (chk_F ho),pT (coord_T h)] (by kernel_rfl)
def cPoint:Con where
 f:=83
 g:=fun | [⟨true,l⟩,⟨true,[.i x _,.i y _]⟩]=>(toEd l).map fun e=>(rsV (pointR e x y),[])|_=>none
 ok:=by
  intro args res ps h hp
  split at h<;>try cases h
  rename_i l x A y B
  cases he:toEd l with
  | none=>simp[he] at h
  | some e =>
   simp only[he,Option.map_some,Option.some.injEq,Prod.mk.injEq] at h
   obtain⟨rfl,rfl⟩:=h
   cases hc:(e.ok&&coordB x y) with
   | false=>exact (point_no e x y hc).pre fun W=>rvs_1 (ed_lim he) (rvs_1 pt_lim rvs_0)
   | true =>
    simp only[Bool.and_eq_true] at hc
    exact (point_ok e x y hc.1 hc.2).pre fun W=>rvs_1 (ed_ok he hc.1) (rvs_1 (pt_co (coordB_iff.1 hc.2)) rvs_0)
end

set_option maxRecDepth 100000
section
def rightZC(f:FuncId)(H:∀a:Rt,Dig a.n.d/\Dig a.d.d->Fok Tryz.prog f [rtV a] (.one (blV a.right))):Con where
 f:=f
 g:=fun | [⟨true,[.i a _,.i s _,.d (.zi n _),.d (.zi d _)]⟩]=>some (.one (blV (Rt.right ⟨a,s,ofZ n,ofZ d⟩)),[])|_=>none
 ok:=by
  intro args res ps h hp
  split at h<;>cases h
  rename_i a _ s _ n N d D
  refine Fok.pre (H ⟨a,s,ofZ n,ofZ d⟩ ⟨dig_digs _,dig_digs _⟩) fun W=>rvs_1 (fun v hv=>?_) fun _ h=>h
  simp only[rv_t,rl_i,rl_zi,rl_nil] at hv
  obtain⟨_,⟨⟨_,i1⟩,_,rfl,⟨_,i2⟩,_,rfl,_,n1,p1,l1,c1,h1,_,rfl,_,m1,q1,k1,d1,h2,_,rfl,rfl⟩,rfl⟩:=hv
  exact rv_t.2 ⟨_,rl_i.2 ⟨lim64 i1,_,rfl,rl_i.2 ⟨lim64 i2,_,rfl,rl_num.2 ⟨n1,p1,l1,c1,h1,_,rfl,rl_num.2 ⟨m1,q1,k1,d1,h2,_,rfl,rfl⟩⟩⟩⟩,rfl⟩
def c8:Nat:=4294967296 ^ 8
def rzV(a s n d:Int):V1:=⟨true,[.i a lim,.i s 1,.d (.zi n c8),.d (.zi d c8)]⟩
theorem cmpRt_bd(a b:Rt):(cmpRt a b).natAbs<=1/\I64 (cmpRt a b):=by
 have sg3:∀ {x:Int},-1<=x/\x<=1->x = -1\/x=0\/x=1:=fun h=>by omega
 have key : -1<=cmpRt a b/\cmpRt a b<=1:=by
  unfold cmpRt
  split
  ·unfold cmpR
   split
   ·omega
   ·have h := sg3 (sideZ_bd ((a.add - b.add) * a.d.z) a.s (a.n.z * a.d.z))
    have g:=sg3 (sideZ_bd ((a.add-b.add)*(a.add-b.add)*a.d.z*b.d.z+a.n.z*b.d.z-b.n.z*a.d.z) (2*(a.add-b.add)*a.s*b.d.z) (a.n.z*a.d.z))
    generalize sideZ ((a.add-b.add)*a.d.z) a.s (a.n.z*a.d.z)=u at h
    generalize sideZ ((a.add-b.add)*(a.add-b.add)*a.d.z*b.d.z+a.n.z*b.d.z-b.n.z*a.d.z) (2*(a.add-b.add)*a.s*b.d.z) (a.n.z*a.d.z)=v at g
    rcases h with rfl|rfl|rfl<;>rcases g with rfl|rfl|rfl<;>decide
  ·decide
 exact⟨by omega,by unfold I64;omega⟩
theorem rz_of{V W:World}{r:Nat->Nat}{k:Nat}{a s:Int}{A S:Nat}{n d:Nm}(h:Rt.right ⟨a,s,n,d⟩=true)(dn:Dig n.d)(dd:Dig d.d):(n=ofZ n.z/\d=ofZ d.z/\0<=n.z*d.z)/\∀v,RepV V W r k ⟨true,[.i a A,.i s S,.d (.num n),.d (.num d)]⟩ v->RepV V W r k (rzV a s n.z d.z) v:=by
 have ok:=(right_ok (a:=⟨a,s,n,d⟩) dn dd h).1
 have en:=ofZ_of_right dn ok.nr
 have ed:=ofZ_of_right dd ok.dr
 have zn:n.z=(val n.d:Int):=ok.zs.1
 have zd:d.z=(val d.d:Int):=ok.zs.2
 have bd:∀ {x:List Nat},Dig x->x.length<=8->val x<=c8:=fun hx hl=>Nat.le_trans (Nat.le_of_lt (val_lt hx)) (Nat.pow_le_pow_right (by decide) hl)
 refine⟨⟨en.symm,ed.symm,by rw[zn,zd];exact Int.mul_nonneg (by omega) (by omega)⟩,fun v hv=>?_⟩
 simp only[rv_t,rl_i,rl_num,rl_nil] at hv
 obtain⟨_,⟨⟨_,i1⟩,_,rfl,⟨_,i2⟩,_,rfl,n1,p1,l1,c1,h1,_,rfl,m1,q1,k1,d1,h2,_,rfl,rfl⟩,rfl⟩:=hv
 have b1:=bd dn ok.nl
 have b2:=bd dd ok.dl
 have sl:=ok.sl
 have su:=ok.su
 simp only at sl su
 exact rv_t.2 ⟨_,rl_i.2 ⟨lim64 i1,_,rfl,rl_i.2 ⟨⟨by omega,i2⟩,_,rfl,rl_zi.2 ⟨by omega,n1,p1,l1,c1,en.symm ▸ h1,_,rfl,rl_zi.2 ⟨by omega,m1,q1,k1,d1,ed.symm ▸ h2,_,rfl,rfl⟩⟩⟩⟩,rfl⟩
def cmpC(f:FuncId)(N:∀a b:Rt,Dig a.n.d/\Dig a.d.d->Dig b.n.d/\Dig b.d.d->(a.right&&b.right)=false->Fok Tryz.prog f [rtV a,rtV b] (.one (inV 0 lim)))
  (H:∀a s n d b t m e:Int,Rt.right ⟨a,s,ofZ n,ofZ d⟩=true->Rt.right ⟨b,t,ofZ m,ofZ e⟩=true->0<=n*d->Fok Tryz.prog f [rzV a s n d,rzV b t m e] (.one (inV (cmpR (a-b) s n d t m e) lim))):Con where
 f:=f
 g:=fun | [⟨true,[.i a _,.i s _,.d (.num n),.d (.num d)]⟩,⟨true,[.i b _,.i t _,.d (.num m),.d (.num e)]⟩]=>some (.one (inV (cmpRt ⟨a,s,n,d⟩ ⟨b,t,m,e⟩) 1),[])|_=>none
 ok:=by
  intro args res ps h hp
  split at h<;>cases h
  rename_i a A s S n d b B t T m e
  intro W vals hv
  obtain⟨v1,g1,l1,rfl,hv1⟩:=rvs_cons.1 hv
  obtain⟨v2,g2,l2,rfl,hv2⟩:=rvs_cons.1 hv1
  obtain⟨k1,dn,dd,_⟩:=rt_at g1
  obtain⟨k2,dm,de,_⟩:=rt_at g2
  have b0:=(cmpRt_bd ⟨a,s,n,d⟩ ⟨b,t,m,e⟩).1
  cases hr:(Rt.right ⟨a,s,n,d⟩&&Rt.right ⟨b,t,m,e⟩) with
  | false =>
   have e0:cmpRt ⟨a,s,n,d⟩ ⟨b,t,m,e⟩=0:=by unfold cmpRt;rw[hr];rfl
   rw[e0]
   exact (N _ _ ⟨dn,dd⟩ ⟨dm,de⟩ hr).bd (by decide) W _ (rvs_cons.2 ⟨_,k1,_,rfl,rvs_cons.2 ⟨_,k2,_,rfl,hv2⟩⟩)
  | true =>
   have e0:cmpRt ⟨a,s,n,d⟩ ⟨b,t,m,e⟩=cmpR (a-b) s n.z d.z t m.z e.z:=by unfold cmpRt;rw[hr];rfl
   rw[e0] at b0 ⊢
   simp only[Bool.and_eq_true] at hr
   obtain⟨⟨x1,x2,x3⟩,x4⟩:=rz_of (V:=W) (W:=W) (r:=fun _=>0) (k:=0) (A:=A) (S:=S) hr.1 dn dd
   obtain⟨⟨y1,y2,_⟩,y4⟩:=rz_of (V:=W) (W:=W) (r:=fun _=>0) (k:=0) (A:=B) (S:=T) hr.2 dm de
   exact (H a s n.z d.z b t m.z e.z (by rw[<- x1,<- x2];exact hr.1) (by rw[<- y1,<- y2];exact hr.2) x3).bd b0 W _ (rvs_cons.2 ⟨_,x4 _ g1,_,rfl,rvs_cons.2 ⟨_,y4 _ g2,_,rfl,hv2⟩⟩)
end

set_option maxRecDepth 100000
section
def cZAdd:Con:=zBinC 93 addP (·+·) (·+·) (fun A B=>decide (A+B<c2048)) num_Add zadd_c
def cZCmp:Con:=zCmpC 95 fun a b _ _ _ _ _ _ _ _ w h1 h2=>num_Cmp a b _ _ _ _ _ _ _ _ w h1 h2
def cRightZ:Con:=rightZC 45 fun a _=>rtRight_fok a
def KZ:List Con:=[cZOf,cZMul,cZAdd,cZCmp]
theorem rtSide_fok(a b c:Int):Fok Tryz.prog 101 [ziV a c672,ziV b c672,ziV c c672] (.one (inV (sideZ a b c) lim)):=by
 unfold sideZ
 by_cases h:0<=sgn a*(sgn b*sgn c)
 ·rw [if_pos h]
  exact fok KZ [true] [pT (decide_eq_true h)] (by kernel_rfl)
 ·rw [if_neg h, show a * a = 1 * a * a by rw [Int.one_mul], show b * b * c = 1 * b * b * c by rw [Int.one_mul]]
  exact fok KZ [false] [pF (decide_eq_false h)] (by kernel_rfl)
def cZSide:Con:=sideC 101 c672 fun a b c _ _ _ _=>rtSide_fok a b c
def KRt:List Con:=cRightZ::cZSide::KZ
theorem rtCmp_z(a s n d b t m e:Int)(h1:Rt.right ⟨a,s,ofZ n,ofZ d⟩=true)(h2:Rt.right ⟨b,t,ofZ m,ofZ e⟩=true)(h0:0<=n*d):Fok Tryz.prog 46 [rzV a s n d,rzV b t m e] (.one (inV (cmpR (a-b) s n d t m e) lim)):=by
 have h3:0<=1*n*d:=by rw[Int.one_mul];exact h0
 have hU:sideZ (1*(0+a+1 * -1*b)*d) s (1*n*d)=sideZ ((a-b)*d) s (n*d):=by
  rw[show 1*(0+a+1 * -1*b)*d=(a-b)*d by grind,Int.one_mul]
 have hV:sideZ (0+1*(0+a+1 * -1*b)*(0+a+1 * -1*b)*d*e+1*n*e+1 * -1*(1*m*d)) (1*2*(0+a+1 * -1*b)*s*e) (1*n*d)=sideZ ((a-b)*(a-b)*d*e+n*e-m*d) (2*(a-b)*s*e) (n*d):=by
  rw[show 0+1*(0+a+1 * -1*b)*(0+a+1 * -1*b)*d*e+1*n*e+1 * -1*(1*m*d)=(a-b)*(a-b)*d*e+n*e-m*d by grind,show 1*2*(0+a+1 * -1*b)*s*e=2*(a-b)*s*e by grind,Int.one_mul]
 unfold cmpR
 rw[<- hU,<- hV]
 by_cases h:sideZ (1*(0+a+1 * -1*b)*d) s (1*n*d)≠t
 ·rw [if_pos h]
  exact fok KRt [false,false,true] [pF (nt_F h1),pF (nt_F h2),pP h3,pT (ne_T h)] (by kernel_rfl)
 ·rw [if_neg h]
  exact fok KRt [false,false,false] [pF (nt_F h1),pF (nt_F h2),pP h3,pF (ne_F h),pP h3] (by kernel_rfl)
theorem rtCmp_no(a b:Rt)(h:(a.right&&b.right)=false):Fok Tryz.prog 46 [rtV a,rtV b] (.one (inV 0 lim)):=by
 cases h1:a.right with
 | false=>exact fok [cRight] [true] [pT (nt_T h1)] (by kernel_rfl)
 | true =>
  rw[h1] at h
  exact fok [cRight] [false,true] [pF (nt_F h1),pT (nt_T h)] (by kernel_rfl)
def cCmp:Con:=cmpC 46 (fun a b _ _ h=>rtCmp_no a b h) rtCmp_z
theorem rtCmpInt_fok(a:Rt)(z:Int):Fok Tryz.prog 19 [rtV a,inV z lim] (.one (inV (cmpRt a ⟨z,0,zero,ofZ 1⟩) lim)):=fok [cCmp,cNOf] [] [] (by kernel_rfl)
def cCmpInt:Con where
 f:=19
 g:=fun | [⟨true,[.i a _,.i s _,.d (.num n),.d (.num d)]⟩,⟨false,[.i z _]⟩]=>some (.one (inV (cmpRt ⟨a,s,n,d⟩ ⟨z,0,zero,ofZ 1⟩) 1),[])|_=>none
 ok:=by
  intro args res ps h hp
  split at h<;>cases h
  rename_i a _ s _ n d z _
  exact ((rtCmpInt_fok ⟨a,s,n,d⟩ z).bd (cmpRt_bd _ _).1).pre fun W=>rvs_1 (fun _ h=>(rt_at h).1) (rvs_1 in_lim fun _ h=>h)
end

set_option maxHeartbeats 1000000
set_option maxRecDepth 100000
section
def toRt:List It->Option (Rt×List It)
 | a::s::.d (.num n)::.d (.num d)::l=>match asI a,asI s with|some (a,_),some (s,_)=>some (⟨a,s,n,d⟩,l)|_,_=>none
 | _=>none
theorem asI_F{V:World}{i:It}{z:Int}{B:Nat}{cs:List Value}(h:asI i=some (z,B))(hr:Rep0 V i cs):cs=[.int .i64 z]/\I64 z:=by
 unfold asI at h
 split at h<;>cases h
 ·exact⟨hr.1,hr.2.2⟩
 ·exact hr
theorem toRt_rep{V:World}{l m:List It}{a:Rt}{cs:List Value}(h:toRt l=some (a,m))(hr:RepF V l cs):∃n p k c b q j d r,cs=.int .i64 a.add::.int .i64 a.s::.bool n::.slice p k c::.bool b::.slice q j d::r/\NR V n p k c a.n/\NR V b q j d a.d/\(I64 a.add/\I64 a.s)/\RepF V m r:=by
 unfold toRt at h
 split at h
 ·split at h
  ·cases h
   rename_i h1 h2
   obtain⟨c1,d1,rfl,r1,c2,d2,rfl,r2,c3,d3,rfl,⟨n,p,k,c,rfl,h3⟩,c4,d4,rfl,⟨b,q,j,d,rfl,h4⟩,r5⟩:=hr
   obtain⟨rfl,i1⟩:=asI_F h1 r1
   obtain⟨rfl,i2⟩:=asI_F h2 r2
   exact⟨n,p,k,c,b,q,j,d,d4,rfl,h3,h4,⟨i1,i2⟩,r5⟩
  ·cases h
 ·cases h
def intsN:Nat->List It->Option (List Int×List It)
 | 0,l=>some ([],l)
 | _+1,[]=>none
 | n+1,i::l=>match asI i,intsN n l with|some (z,_),some (r,m)=>some (z::r,m)|_,_=>none
theorem intsN_rep{V:World}:∀ {n:Nat} {l m:List It} {zs:List Int} {cs:List Value},intsN n l=some (zs,m)->RepF V l cs->zs.length=n/\(∀z∈zs,I64 z)/\∃r,cs=zs.map (Value.int .i64)++r/\RepF V m r
 | 0,_,_,_,cs,h,hr=>by unfold intsN at h;cases h;exact⟨rfl,nofun,cs,rfl,hr⟩
 | n+1,[],_,_,_,h,_=>by unfold intsN at h;cases h
 | n+1,i::l,m,zs,cs,h,⟨c,d,e,h1,h2⟩=>by
  unfold intsN at h
  split at h
  ·rename_i z _ r m' hz hr
   cases h
   obtain⟨k1,k2,q,k3,k4⟩:=intsN_rep hr h2
   obtain⟨rfl,hi⟩:=asI_F hz h1
   refine⟨by simp[k1],fun x hx=>?_,q,by rw[e,k3];rfl,k4⟩
   rcases List.mem_cons.1 hx with rfl|hx
   ·exact hi
   ·exact k2 x hx
  ·cases h
def Sp.of:List Int->Sp
 | [x,y,dx,dy,p,q,len]=>⟨x,y,dx,dy,p,q,len⟩
 | _=>Sp.no
def toPr(l:List It):Option (Pr×List It) :=
 match toRt l with
 | some (d,l)=>(match intsN 7 l with
  | some (a,l)=>(match intsN 7 l with
   | some (b,l)=>some (⟨d,Sp.of a,Sp.of b⟩,l)
   | none=>none)
  | none=>none)
 | none=>none
def toPrs:Nat->List It->Option (List Pr)
 | 0,_=>some []
 | n+1,l=>match toPr l with
  | some (x,l)=>(match toPrs n l with|some r=>some (x::r)|none=>none)
  | none=>none
def Sp.i64(s:Sp):Prop:=I64 s.x/\I64 s.y/\I64 s.dx/\I64 s.dy/\I64 s.p/\I64 s.q/\I64 s.len
def Pr.i64(x:Pr):Prop:=(I64 x.d.add/\I64 x.d.s)/\x.a.i64/\x.b.i64
theorem seven{zs:List Int}(h:zs.length=7):∃a b c d e f g,zs=[a,b,c,d,e,f,g]:=by
 match zs,h with
 | [a,b,c,d,e,f,g],_=>exact⟨a,b,c,d,e,f,g,rfl⟩
theorem sp_of{zs:List Int}(h:zs.length=7)(hi:∀z∈zs,I64 z):(Sp.of zs).i64/\zs=[(Sp.of zs).x,(Sp.of zs).y,(Sp.of zs).dx,(Sp.of zs).dy,(Sp.of zs).p,(Sp.of zs).q,(Sp.of zs).len]:=by
 obtain⟨a,b,c,d,e,f,g,rfl⟩:=seven h
 exact⟨⟨hi a (by simp),hi b (by simp),hi c (by simp),hi d (by simp),hi e (by simp),hi f (by simp),hi g (by simp)⟩,rfl⟩
def prV(e:Pr)(n:Bool)(p:Option Addr)(l c:Nat)(m:Bool)(q:Option Addr)(k d:Nat):List Value :=
 [.int .i64 e.d.add,.int .i64 e.d.s,.bool n,.slice p l c,.bool m,.slice q k d,.int .i64 e.a.x,.int .i64 e.a.y,.int .i64 e.a.dx,.int .i64 e.a.dy,.int .i64 e.a.p,.int .i64 e.a.q,.int .i64 e.a.len,
  .int .i64 e.b.x,.int .i64 e.b.y,.int .i64 e.b.dx,.int .i64 e.b.dy,.int .i64 e.b.p,.int .i64 e.b.q,.int .i64 e.b.len]
theorem toPr_rep{V:World}{l m:List It}{x:Pr}{cs:List Value}(hx:toPr l=some (x,m))(hr:RepF V l cs):∃n p k c b q j d r,cs=prV x n p k c b q j d++r/\NR V n p k c x.d.n/\NR V b q j d x.d.d/\x.i64/\RepF V m r:=by
 unfold toPr at hx
 split at hx<;>(try (cases hx;done))
 rename_i d l1 h1
 split at hx<;>(try (cases hx;done))
 rename_i a l2 h2
 split at hx<;>(try (cases hx;done))
 rename_i b l3 h3
 cases hx
 obtain⟨n1,p1,k1,c1,m1,q1,j1,d1,r1,e1,nr1,nr2,i1,rf1⟩:=toRt_rep h1 hr
 obtain⟨la,ia,r2,e2,rf2⟩:=intsN_rep h2 rf1
 obtain⟨lb,ib,r3,e3,rf3⟩:=intsN_rep h3 rf2
 refine⟨n1,p1,k1,c1,m1,q1,j1,d1,r3,?_,nr1,nr2,⟨i1,(sp_of la ia).1,(sp_of lb ib).1⟩,rf3⟩
 obtain⟨a0,a1,a2,a3,a4,a5,a6,rfl⟩:=seven la
 obtain⟨b0,b1,b2,b3,b4,b5,b6,rfl⟩:=seven lb
 rw[e1,e2,e3]
 rfl
def prL(x:Pr):List It:=(rtV x.d).l++((spV x.a).l++(spV x.b).l)
theorem rf_i{V:World}{z:Int}{l:List It}{cs:List Value}(h:I64 z)(h2:RepF V l cs):RepF V (.i z lim::l) (.int .i64 z::cs):=⟨[_],cs,rfl,⟨rfl,lim64 h⟩,h2⟩
theorem rf_n{V:World}{x:Nm}{n:Bool}{p:Option Addr}{k c:Nat}{l:List It}{cs:List Value}(h:NR V n p k c x)(h2:RepF V l cs):RepF V (.d (.num x)::l) (.bool n::.slice p k c::cs):=⟨[_,_],cs,rfl,⟨n,p,k,c,rfl,h⟩,h2⟩
theorem pr_low{V:World}{x:Pr}{n b:Bool}{p q:Option Addr}{k c j d:Nat}{m:List It}{cs:List Value}(hi:x.i64)(h1:NR V n p k c x.d.n)(h2:NR V b q j d x.d.d)(h:RepF V m cs):RepF V (prL x++m) (prV x n p k c b q j d++cs):=by
 obtain⟨⟨i1,i2⟩,⟨a1,a2,a3,a4,a5,a6,a7⟩,⟨b1,b2,b3,b4,b5,b6,b7⟩⟩:=hi
 exact rf_i i1 (rf_i i2 (rf_n h1 (rf_n h2 (rf_i a1 (rf_i a2 (rf_i a3 (rf_i a4 (rf_i a5 (rf_i a6 (rf_i a7 (rf_i b1 (rf_i b2 (rf_i b3 (rf_i b4 (rf_i b5 (rf_i b6 (rf_i b7 h)))))))))))))))))
theorem toPrs_low{V:World}:∀ {n:Nat} {l:List It} {L:List Pr} {cs:List Value},toPrs n l=some L->RepF V l cs->cs.length=n*20->L.length=n/\RepF V (L.map prL).flatten cs
 | 0,l,L,cs,h,_,hl=>by
  unfold toPrs at h
  cases h
  have:cs=[]:=List.eq_nil_of_length_eq_zero (by simpa using hl)
  subst this
  exact⟨rfl,rfl⟩
 | n+1,l,L,cs,h,hr,hl=>by
  unfold toPrs at h
  split at h<;>(try (cases h;done))
  rename_i x l' hx
  split at h<;>(try (cases h;done))
  rename_i r hr'
  cases h
  obtain⟨n1,p1,k1,c1,m1,q1,j1,d1,r3,e1,nr1,nr2,i1,rf⟩:=toPr_rep hx hr
  have hl3:r3.length=n*20:=by
   rw[e1,List.length_append] at hl
   have:(prV x n1 p1 k1 c1 m1 q1 j1 d1).length=20:=rfl
   omega
  obtain⟨z1,z2⟩:=toPrs_low hr' rf hl3
  refine⟨by simp[z1],?_⟩
  rw[e1,List.map_cons,List.flatten_cons]
  exact pr_low i1 nr1 nr2 z2
def prI(x:Pr):V1:=⟨true,(rtV x.d).l++((spV x.a).l++(spV x.b).l)⟩
def lessP(x y:Pr):Bool:=decide (cmpRt y.d x.d<0)
theorem betterP_T{x y:Pr}(h:lessP x y=true):betterP x y=y:=if_pos (of_decide_eq_true h)
theorem betterP_F{x y:Pr}(h:lessP x y=false):betterP x y=x:=if_neg (of_decide_eq_false h)
def lsA(L:List Pr):List V1:=[⟨false,[.fs 0 (L.map prL).flatten L.length 20]⟩,⟨false,[.v (.func (.func 87) #[] #[])]⟩]
theorem least_4(p1 p2 p3 p4:Pr):Fok Tryz.prog 86 (lsA [p1,p2,p3,p4]) (.one (prI (leastP [p1,p2,p3,p4]))):=by
 cases H2:lessP p1 p2 with
 | true =>
  cases H3:lessP p2 p3 with
  | true =>
   cases H4:lessP p3 p4 with
   | true =>
    rw[show leastP [p1,p2,p3,p4]=p4 by simp only[leastP,List.foldl_cons,List.foldl_nil,betterP_T H2,betterP_T H3,betterP_T H4]]
    exact fok [cCmp] [true,true,true] [pT H2,pT H3,pT H4] (by kernel_rfl)
   | false =>
    rw[show leastP [p1,p2,p3,p4]=p3 by simp only[leastP,List.foldl_cons,List.foldl_nil,betterP_T H2,betterP_T H3,betterP_F H4]]
    exact fok [cCmp] [true,true,false] [pT H2,pT H3,pF H4] (by kernel_rfl)
  | false =>
   cases H4:lessP p2 p4 with
   | true =>
    rw[show leastP [p1,p2,p3,p4]=p4 by simp only[leastP,List.foldl_cons,List.foldl_nil,betterP_T H2,betterP_F H3,betterP_T H4]]
    exact fok [cCmp] [true,false,true] [pT H2,pF H3,pT H4] (by kernel_rfl)
   | false =>
    rw[show leastP [p1,p2,p3,p4]=p2 by simp only[leastP,List.foldl_cons,List.foldl_nil,betterP_T H2,betterP_F H3,betterP_F H4]]
    exact fok [cCmp] [true,false,false] [pT H2,pF H3,pF H4] (by kernel_rfl)
 | false =>
  cases H3:lessP p1 p3 with
  | true =>
   cases H4:lessP p3 p4 with
   | true =>
    rw[show leastP [p1,p2,p3,p4]=p4 by simp only[leastP,List.foldl_cons,List.foldl_nil,betterP_F H2,betterP_T H3,betterP_T H4]]
    exact fok [cCmp] [false,true,true] [pF H2,pT H3,pT H4] (by kernel_rfl)
   | false =>
    rw[show leastP [p1,p2,p3,p4]=p3 by simp only[leastP,List.foldl_cons,List.foldl_nil,betterP_F H2,betterP_T H3,betterP_F H4]]
    exact fok [cCmp] [false,true,false] [pF H2,pT H3,pF H4] (by kernel_rfl)
  | false =>
   cases H4:lessP p1 p4 with
   | true =>
    rw[show leastP [p1,p2,p3,p4]=p4 by simp only[leastP,List.foldl_cons,List.foldl_nil,betterP_F H2,betterP_F H3,betterP_T H4]]
    exact fok [cCmp] [false,false,true] [pF H2,pF H3,pT H4] (by kernel_rfl)
   | false =>
    rw[show leastP [p1,p2,p3,p4]=p1 by simp only[leastP,List.foldl_cons,List.foldl_nil,betterP_F H2,betterP_F H3,betterP_F H4]]
    exact fok [cCmp] [false,false,false] [pF H2,pF H3,pF H4] (by kernel_rfl)
theorem least_5T(p1 p2 p3 p4 p5:Pr)(H2:lessP p1 p2=true):Fok Tryz.prog 86 (lsA [p1,p2,p3,p4,p5]) (.one (prI (leastP [p1,p2,p3,p4,p5]))):=by
 cases H3:lessP p2 p3 with
 | true =>
  cases H4:lessP p3 p4 with
  | true =>
   cases H5:lessP p4 p5 with
   | true =>
    rw[show leastP [p1,p2,p3,p4,p5]=p5 by simp only[leastP,List.foldl_cons,List.foldl_nil,betterP_T H2,betterP_T H3,betterP_T H4,betterP_T H5]]
    exact fok [cCmp] [true,true,true,true] [pT H2,pT H3,pT H4,pT H5] (by kernel_rfl)
   | false =>
    rw[show leastP [p1,p2,p3,p4,p5]=p4 by simp only[leastP,List.foldl_cons,List.foldl_nil,betterP_T H2,betterP_T H3,betterP_T H4,betterP_F H5]]
    exact fok [cCmp] [true,true,true,false] [pT H2,pT H3,pT H4,pF H5] (by kernel_rfl)
  | false =>
   cases H5:lessP p3 p5 with
   | true =>
    rw[show leastP [p1,p2,p3,p4,p5]=p5 by simp only[leastP,List.foldl_cons,List.foldl_nil,betterP_T H2,betterP_T H3,betterP_F H4,betterP_T H5]]
    exact fok [cCmp] [true,true,false,true] [pT H2,pT H3,pF H4,pT H5] (by kernel_rfl)
   | false =>
    rw[show leastP [p1,p2,p3,p4,p5]=p3 by simp only[leastP,List.foldl_cons,List.foldl_nil,betterP_T H2,betterP_T H3,betterP_F H4,betterP_F H5]]
    exact fok [cCmp] [true,true,false,false] [pT H2,pT H3,pF H4,pF H5] (by kernel_rfl)
 | false =>
  cases H4:lessP p2 p4 with
  | true =>
   cases H5:lessP p4 p5 with
   | true =>
    rw[show leastP [p1,p2,p3,p4,p5]=p5 by simp only[leastP,List.foldl_cons,List.foldl_nil,betterP_T H2,betterP_F H3,betterP_T H4,betterP_T H5]]
    exact fok [cCmp] [true,false,true,true] [pT H2,pF H3,pT H4,pT H5] (by kernel_rfl)
   | false =>
    rw[show leastP [p1,p2,p3,p4,p5]=p4 by simp only[leastP,List.foldl_cons,List.foldl_nil,betterP_T H2,betterP_F H3,betterP_T H4,betterP_F H5]]
    exact fok [cCmp] [true,false,true,false] [pT H2,pF H3,pT H4,pF H5] (by kernel_rfl)
  | false =>
   cases H5:lessP p2 p5 with
   | true =>
    rw[show leastP [p1,p2,p3,p4,p5]=p5 by simp only[leastP,List.foldl_cons,List.foldl_nil,betterP_T H2,betterP_F H3,betterP_F H4,betterP_T H5]]
    exact fok [cCmp] [true,false,false,true] [pT H2,pF H3,pF H4,pT H5] (by kernel_rfl)
   | false =>
    rw[show leastP [p1,p2,p3,p4,p5]=p2 by simp only[leastP,List.foldl_cons,List.foldl_nil,betterP_T H2,betterP_F H3,betterP_F H4,betterP_F H5]]
    exact fok [cCmp] [true,false,false,false] [pT H2,pF H3,pF H4,pF H5] (by kernel_rfl)
theorem least_5F(p1 p2 p3 p4 p5:Pr)(H2:lessP p1 p2=false):Fok Tryz.prog 86 (lsA [p1,p2,p3,p4,p5]) (.one (prI (leastP [p1,p2,p3,p4,p5]))):=by
 cases H3:lessP p1 p3 with
 | true =>
  cases H4:lessP p3 p4 with
  | true =>
   cases H5:lessP p4 p5 with
   | true =>
    rw[show leastP [p1,p2,p3,p4,p5]=p5 by simp only[leastP,List.foldl_cons,List.foldl_nil,betterP_F H2,betterP_T H3,betterP_T H4,betterP_T H5]]
    exact fok [cCmp] [false,true,true,true] [pF H2,pT H3,pT H4,pT H5] (by kernel_rfl)
   | false =>
    rw[show leastP [p1,p2,p3,p4,p5]=p4 by simp only[leastP,List.foldl_cons,List.foldl_nil,betterP_F H2,betterP_T H3,betterP_T H4,betterP_F H5]]
    exact fok [cCmp] [false,true,true,false] [pF H2,pT H3,pT H4,pF H5] (by kernel_rfl)
  | false =>
   cases H5:lessP p3 p5 with
   | true =>
    rw[show leastP [p1,p2,p3,p4,p5]=p5 by simp only[leastP,List.foldl_cons,List.foldl_nil,betterP_F H2,betterP_T H3,betterP_F H4,betterP_T H5]]
    exact fok [cCmp] [false,true,false,true] [pF H2,pT H3,pF H4,pT H5] (by kernel_rfl)
   | false =>
    rw[show leastP [p1,p2,p3,p4,p5]=p3 by simp only[leastP,List.foldl_cons,List.foldl_nil,betterP_F H2,betterP_T H3,betterP_F H4,betterP_F H5]]
    exact fok [cCmp] [false,true,false,false] [pF H2,pT H3,pF H4,pF H5] (by kernel_rfl)
 | false =>
  cases H4:lessP p1 p4 with
  | true =>
   cases H5:lessP p4 p5 with
   | true =>
    rw[show leastP [p1,p2,p3,p4,p5]=p5 by simp only[leastP,List.foldl_cons,List.foldl_nil,betterP_F H2,betterP_F H3,betterP_T H4,betterP_T H5]]
    exact fok [cCmp] [false,false,true,true] [pF H2,pF H3,pT H4,pT H5] (by kernel_rfl)
   | false =>
    rw[show leastP [p1,p2,p3,p4,p5]=p4 by simp only[leastP,List.foldl_cons,List.foldl_nil,betterP_F H2,betterP_F H3,betterP_T H4,betterP_F H5]]
    exact fok [cCmp] [false,false,true,false] [pF H2,pF H3,pT H4,pF H5] (by kernel_rfl)
  | false =>
   cases H5:lessP p1 p5 with
   | true =>
    rw[show leastP [p1,p2,p3,p4,p5]=p5 by simp only[leastP,List.foldl_cons,List.foldl_nil,betterP_F H2,betterP_F H3,betterP_F H4,betterP_T H5]]
    exact fok [cCmp] [false,false,false,true] [pF H2,pF H3,pF H4,pT H5] (by kernel_rfl)
   | false =>
    rw[show leastP [p1,p2,p3,p4,p5]=p1 by simp only[leastP,List.foldl_cons,List.foldl_nil,betterP_F H2,betterP_F H3,betterP_F H4,betterP_F H5]]
    exact fok [cCmp] [false,false,false,false] [pF H2,pF H3,pF H4,pF H5] (by kernel_rfl)
theorem len4{L:List Pr}(h:L.length=4):∃a b c d,L=[a,b,c,d]:=by
 obtain⟨a,_,rfl,h1⟩:=len_s h
 obtain⟨b,_,rfl,h2⟩:=len_s h1
 obtain⟨c,_,rfl,h3⟩:=len_s h2
 obtain⟨d,_,rfl,h4⟩:=len_s h3
 obtain rfl:=List.eq_nil_of_length_eq_zero h4
 exact⟨a,b,c,d,rfl⟩
theorem least_ok{L:List Pr}{n:Nat}(hn:n=4\/n=5)(hl:L.length=n):Fok Tryz.prog 86 (lsA L) (.one (prI (leastP L))):=by
 rcases hn with h|h
 ·obtain ⟨a, b, c, d, rfl⟩ := len4 (hl.trans h)
  exact least_4 a b c d
 ·obtain ⟨a, M, rfl, hM⟩ := len_s (hl.trans h)
  obtain⟨b,c,d,e,rfl⟩:=len4 hM
  cases H2:lessP a b with
  | true=>exact least_5T a b c d e H2
  | false=>exact least_5F a b c d e H2
def cLeast:Con where
 f:=86
 g:=fun | [⟨false,[.fs o l n z]⟩,⟨false,[.v (.func (.func k) a b)]⟩]=>if (o=0/\z=20/\(n=4\/n=5))/\(k=87/\a.size=0/\b.size=0) then (toPrs n l).map fun L=>(.one (prI (leastP L)),[]) else none|_=>none
 ok:=by
  intro args res ps h hp
  split at h<;>try cases h
  rename_i o l n z k a b
  split at h<;>try cases h
  rename_i hb
  obtain⟨⟨rfl,rfl,hn⟩,rfl,ha,hb⟩:=hb
  cases hL:toPrs n l with
  | none=>simp[hL] at h
  | some L =>
   simp only[hL,Option.map_some,Option.some.injEq,Prod.mk.injEq] at h
   obtain⟨rfl,rfl⟩:=h
   rw[Array.eq_empty_of_size_eq_zero ha,Array.eq_empty_of_size_eq_zero hb]
   intro W vals hv
   have hv2:=hv
   simp only[rvs_cons,rvs_nil] at hv2
   obtain⟨x,hx,_,rfl,y,hy,_,rfl,rfl⟩:=hv2
   obtain⟨g,q,xs,T,e1,e2,e3,e4,e5,c,d,e6,e7,e8⟩:=hx.scal
   obtain⟨l1,l2⟩:=toPrs_low hL e7 e8
   have hA:RepVs W W (fun _=>0) 0 (lsA L) [x,y]:=by
    refine rvs_cons.2 ⟨x,?_,_,rfl,rvs_cons.2 ⟨y,hy,_,rfl,rfl⟩⟩
    rw[l1]
    exact RepI.val (i:=.fs 0 _ n 20) ⟨g,q,xs,T,e1,e2,e3,e4,e5,c,d,e6,l2,e8⟩
   exact least_ok hn l1 W _ hA
end
end Go.Proofs.YteajakbpmeebnaaGreat
