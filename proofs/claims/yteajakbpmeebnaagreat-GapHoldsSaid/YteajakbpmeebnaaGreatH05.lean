import Derived.Test.YteajakbpmeebnaaGreatH04
import Derived.Deep.MidRow
set_option linter.unusedVariables false
set_option linter.unusedSimpArgs false

namespace Go.Proofs.YteajakbpmeebnaaGreat
open Go.RowKit

set_option maxHeartbeats 1000000
set_option maxRecDepth 100000
section
theorem catch_idle(p:Addr)(w:World) :
  CallsD Tryz.prog 154 #[.pointer (some p)] .returning w fun e u' w'=>e=.returned (.tuple #[])/\u'=.returning/\w'=w:=by
 refine callsD_of_wpS Tryz.func154 rfl fun c₀ cs hu=>?_
 apply wpS_seq
 apply wpS_region
 simp[wpOpsS,go_sem,recoverD,hu,Tryz.ntmps154,Exit.thenS]
 apply wpS_seq
 apply wpS_region
 have hne:∀w,(binOp .neq 20 .nilIface .nilIface).run Tryz.prog w=.ok (.bool false) w:=fun _=>by kernel_rfl
 simp[wpOpsS,go_sem,Exit.thenS,hne]
 refine wpS_cond (t:=false) (by simp[Act.eval,Array.replicate]) ?_
 simp only[Bool.false_eq_true,if_false]
 refine wpS_of_wp (wp_skip ?_)
 cases c₀
 simp_all [bodyPostS,results,Tryz.results154]
def WrapOk(P:Program)(f:FuncId):Prop:=∀(g:FuncId) (caps:Array Value) (z:Int) (p:Prop) (w:World),(∀w,(callFunc g caps).run P w=.ok (.enter g caps) w)->(∀w0,Ext w w0->Calls P g caps w0 fun e w'=>(e=.returned (.int .i64 z)/\p)/\Ext w0 w')->Calls P f #[.func (.func g) #[] caps] w fun e w'=>(e=.returned (.int .i64 z)/\p)/\Ext w w'
theorem guard_wrap:WrapOk Tryz.prog 96:=by
 intro g caps z p w RE H
 have hmf:∀(fn:Fn) (first cap:Array Value) (w:World),(Instr.makeFunc fn first cap).run Tryz.prog w=.ok (.func fn first cap) w:=fun _ _ _ _=>rfl
 have hx0:Ext w (w.alloc (.cells #[.int .i64 0] 3)):=bxx
 have CM:=Lib.hid (H _ hx0)
 clear H
 go_enter_defers Tryz.func96,Tryz.ntmps96
 go_wp2_with fail
 refine CM.out.mono ?_
 rintro e w1 ⟨⟨rfl,hp⟩,hx⟩
 have hx1:Ext w w1:=Ext.step hx0 hx
 obtain⟨_,_,hk_w1_0,_⟩:=keepK1 hx w.heap.size
 go_wp2_with fail
 refine leaves_cons (f:=154) (args:=#[.pointer (some ⟨w.heap.size,0,none⟩)]) (by simp) (by simp[go_sem]) ?_
 refine (catch_idle ⟨w.heap.size,0,none⟩ _).mono ?_
 rintro e u' w'' ⟨rfl,rfl,rfl⟩
 simp[Leaves,settle,results,Tryz.results96,go_sem,hk_w1_0]
 refine⟨hp,?_⟩
 exact bxx
end

set_option maxHeartbeats 1000000
set_option maxRecDepth 100000
section
def I64(x:Int):Prop := -9223372036854775808<=x/\x<=9223372036854775807
def coordB(x y:Int):Bool:=decide (-67108864<=x)&&decide (x<=67108864)&&decide (-67108864<=y)&&decide (y<=67108864)
theorem vec_Sub(ax ay bx by':Int)(w:World)(h1:I64 (ax-bx))(h2:I64 (ay-by')) :
  Calls Tryz.prog 70 #[.agg #[.int .i64 ax,.int .i64 ay],.agg #[.int .i64 bx,.int .i64 by']] w fun e w'=>e=.returned (.agg #[.int .i64 (ax-bx),.int .i64 (ay-by')])/\Ext w w':=by
 obtain⟨h1a,h1b⟩:=h1
 obtain⟨h2a,h2b⟩:=h2
 go_enter Tryz.func70,Tryz.ntmps70
 go_wp2
 exact bodyPost_ret (v:=.agg #[.int .i64 (ax-bx),.int .i64 (ay-by')]) (by simp[results,Tryz.results70,go_sem]) rfl ⟨rfl,bxx⟩
theorem vec_Cross(ax ay bx by':Int)(w:World)(h1:I64 (ax*by'))(h2:I64 (ay*bx))(h3:I64 (ax*by'-ay*bx)) :
  Calls Tryz.prog 74 #[.agg #[.int .i64 ax,.int .i64 ay],.agg #[.int .i64 bx,.int .i64 by']] w fun e w'=>e=.returned (.int .i64 (ax*by'-ay*bx))/\Ext w w':=by
 obtain⟨h1a,h1b⟩:=h1
 obtain⟨h2a,h2b⟩:=h2
 obtain⟨h3a,h3b⟩:=h3
 go_enter Tryz.func74,Tryz.ntmps74
 go_wp2
 go_ret
 exact⟨rfl,bxx⟩
theorem vec_Right(x y:Int)(w:World) :
  Calls Tryz.prog 131 #[.agg #[.int .i64 x,.int .i64 y]] w fun e w'=>e=.returned (.bool (coordB x y))/\Ext w w':=by
 go_enter Tryz.func131,Tryz.ntmps131
 go_wp2
 all_goals
  go_ret
  exact⟨ret_bool (Bool.eq_iff_iff.2 (by simp[coordB];omega)),bxx⟩
def sideI(n:Int):Int:=if 0<n then 1 else if n<0 then -1 else 0
attribute [local go_sem] Gives givesU
theorem vec_Side(ax ay bx by' px py:Int)(w:World)(h1:I64 (bx-ax))(h2:I64 (by'-ay))(h3:I64 (px-ax))(h4:I64 (py-ay))
  (h5:I64 ((bx-ax)*(py-ay))) (h6:I64 ((by'-ay)*(px-ax))) (h7:I64 ((bx-ax)*(py-ay)-(by'-ay)*(px-ax))) :
  Calls Tryz.prog 192 #[.agg #[.int .i64 ax,.int .i64 ay],.agg #[.int .i64 bx,.int .i64 by'],.agg #[.int .i64 px,.int .i64 py]] w fun e w'=>e=.returned (.int .i64 (sideI ((bx-ax)*(py-ay)-(by'-ay)*(px-ax))))/\Ext w w':=by
 go_enter Tryz.func192,Tryz.ntmps192
 go_wp2
 refine wp_FSc (fun W=>ck W w.heap.size 0 [ax,ay]/\ck W (w.heap.size+1) 0 [bx,by']/\ck W (w.heap.size+1+1) 0 [px,py]) ?_
 repeat (first|refine F_s ?_|refine F_r ?_)
 refine F_c (.agg #[.int .i64 (bx-ax),.int .i64 (by'-ay)]) (fun W hW=>vec_Sub _ _ _ _ _ h1 h2) ?_
 repeat (first|refine F_s ?_|refine F_r ?_)
 refine F_c (.agg #[.int .i64 (px-ax),.int .i64 (py-ay)]) (fun W hW=>vec_Sub _ _ _ _ _ h3 h4) ?_
 refine F_c (.int .i64 ((bx-ax)*(py-ay)-(by'-ay)*(px-ax))) (fun W hW=>vec_Cross _ _ _ _ _ h5 h6 h7) ?_
 repeat (first|refine F_s ?_|refine F_r ?_)
 rintro W ⟨hx,hc⟩
 have hx0:Ext w W:=Ext.step bxx hx
 clear hx hc
 obtain⟨h7a,h7b⟩:=h7
 go_wp2
 all_goals
  go_ret
  exact⟨ret_int (by unfold sideI;(repeat' split)<;>omega),hx0⟩
end

set_option maxHeartbeats 2000000
set_option maxRecDepth 100000
section
attribute [local go_sem] Gives givesU
def rot:Nat->Int×Int->Int×Int
 | 0,p=>p
 | n+1,p=>(-(rot n p).2,(rot n p).1)
def mir(b:Bool)(p:Int×Int):Int×Int:=if b then (-p.1,p.2) else p
def applyP(ax ay t:Int)(m:Bool)(x y:Int):Int×Int:=((rot t.toNat (mir m (x,y))).1+ax,(rot t.toNat (mir m (x,y))).2+ay)
theorem vec_turns(ax ay t:Int)(m:Bool)(w:World)(h:0<=t/\t<=3) :
  Calls Tryz.prog 158 #[.agg #[.int .i64 ax,.int .i64 ay,.int .i64 t,.bool m]] w fun e w'=>e=.returned (.int .i64 t)/\Ext w w':=by
 obtain rfl|rfl|rfl|rfl:t=0\/t=1\/t=2\/t=3:=by omega
 all_goals
  go_enter Tryz.func158,Tryz.ntmps158
  go_wp2
  go_ret
  exact⟨rfl,bxx⟩
theorem wrap_in{x:Int}(h:I64 x):IntKind.i64.wrap x=x:=IntWalk.i64_in _ h
theorem run_max2{P:Program}{w:World}(ts:Array TypeId)(t:TypeId)(x y:Int):(Builtin.max_ ts t #[.int .i64 x,.int .i64 y]).run P w=.ok (.int .i64 (max x y)) w:=by
 have h:(Builtin.max_ ts t #[.int .i64 x,.int .i64 y]).run P w=.ok (.int .i64 (if y>x then y else x)) w:=by
  simp[Builtin.max_,Builtin.max2]
 rw[h]
 congr 2
 split<;>omega
theorem run_min2{P:Program}{w:World}(ts:Array TypeId)(t:TypeId)(x y:Int):(Builtin.min_ ts t #[.int .i64 x,.int .i64 y]).run P w=.ok (.int .i64 (min x y)) w:=by
 have h:(Builtin.min_ ts t #[.int .i64 x,.int .i64 y]).run P w=.ok (.int .i64 (if y<x then y else x)) w:=by
  simp[Builtin.min_,Builtin.min2]
 rw[h]
 congr 2
 split<;>omega
theorem run_max4{P:Program}{w:World}(ts:Array TypeId)(t:TypeId)(x y z u:Int):(Builtin.max_ ts t #[.int .i64 x,.int .i64 y,.int .i64 z,.int .i64 u]).run P w=.ok (.int .i64 (max (max x y) (max z u))) w:=by
 have h:(Builtin.max_ ts t #[.int .i64 x,.int .i64 y,.int .i64 z,.int .i64 u]).run P w=.ok (.int .i64 (if u>(if z>(if y>x then y else x) then z else (if y>x then y else x)) then u else (if z>(if y>x then y else x) then z else (if y>x then y else x)))) w:=by
  simp[Builtin.max_,Builtin.max2]
 rw[h]
 congr 2
 (repeat' split)<;>omega
end

set_option maxHeartbeats 1000000
set_option maxRecDepth 100000
section
attribute [local go_sem] Gives givesU
def modZ(n m:Int):Int:=(n.tmod m+m).tmod m
theorem tmod_bd(n:Int){m:Int}(h:0<m) : -m<n.tmod m/\n.tmod m<m :=
 by
 have h1:=Int.tmod_lt_of_pos n h
 have h2:=Int.tmod_lt_of_pos (-n) h
 rw[Int.neg_tmod] at h2
 omega
theorem modZ_bd(n:Int){m:Int}(h:0<m):0<=modZ n m/\modZ n m<m:=by
 obtain⟨h1,h2⟩:=tmod_bd n h
 exact⟨Int.tmod_nonneg _ (by omega),Int.tmod_lt_of_pos _ h⟩
theorem r01_Mod(n m:Int)(w:World)(h:0<m/\m<=4294967296) :
  Calls Tryz.prog 8 #[.int .i64 n,.int .i64 m] w fun e w'=>e=.returned (.int .i64 (modZ n m))/\Ext w w':=by
 obtain⟨b1,b2⟩:=tmod_bd n h.1
 obtain⟨b3,b4⟩:=modZ_bd n h.1
 have q1:IntKind.i64.wrap (n.tmod m)=n.tmod m:=wrap_in (by unfold I64;omega)
 have q2:IntKind.i64.wrap (n.tmod m+m)=n.tmod m+m:=wrap_in (by unfold I64;omega)
 have q3:IntKind.i64.wrap ((n.tmod m+m).tmod m)=modZ n m:=wrap_in (by unfold I64;unfold modZ at *;omega)
 have mb:(m==0)=false:=by rw[beq_eq_false_iff_ne];omega
 have mn:m≠0:=by omega
 clear b1 b2 b3 b4 h
 go_enter Tryz.func8,Tryz.ntmps8
 go_wp2
 go_ret
 exact⟨rfl,bxx⟩
def Ints(w:World)(a:Option Addr)(len:Nat)(L:List Int):Prop :=
 len=L.length/\len<=9223372036854775807/\(0<len->∃b o,a=some ⟨b,o,none⟩/\b<w.heap.size/\∀i,i<len->w.cell? ⟨b,o+i,none⟩=some (.int .i64 (L[i]?.getD 0)))
theorem Ints.ext{w w':World}{a:Option Addr}{len:Nat}{L:List Int}(h:Ints w a len L)(hx:Ext w w'):Ints w' a len L:=by
 refine⟨h.1,h.2.1,fun h0=>?_⟩
 obtain⟨b,o,e,hb,hc⟩:=h.2.2 h0
 refine⟨b,o,e,Nat.lt_of_lt_of_le hb hx.size,fun i hi=>?_⟩
 rw[hx.cell (p:=⟨b,o+i,none⟩) hb]
 exact hc i hi
theorem Ints.lt{w:World}{a:Option Addr}{len:Nat}{L:List Int}(h:Ints w a len L):0<len->∀x,a=some x->x.block<w.heap.size:=fun h0 x e=>by
 obtain⟨b,o,e',hb,_⟩:=h.2.2 h0
 rw[e'] at e
 cases e
 exact hb
def DrawAt(w:World)(B:Nat)(a:Option Addr)(len cp k:Nat):Prop :=
 B<w.heap.size/\w.cell? ⟨B,0,none⟩=some (.slice a len cp)/\w.cell? ⟨B,1,none⟩=some (.int .i64 k)/\∀o,w.frozen? ⟨B,o,none⟩=false
structure Past (B:Nat) (w w':World):Prop where
 os:w'.os=w.os
 tape:w'.tape=w.tape
 output:w'.output=w.output
 size:w.heap.size<=w'.heap.size
 block:∀k,k<w.heap.size->k≠B->w'.heap[k]? = w.heap[k]?
theorem Past.of_ext{B:Nat}{w w':World}(h:Ext w w'):Past B w w':=⟨h.os,h.tape,h.output,h.size,fun k hk _=>h.block k hk⟩
theorem Past.step{B:Nat}{w w1 w2:World}(h:Past B w w1)(k:Past B w1 w2):Past B w w2 :=
 ⟨k.os.trans h.os,k.tape.trans h.tape,k.output.trans h.output,Nat.le_trans h.size k.size,fun i hi hn=>(k.block i (Nat.lt_of_lt_of_le hi h.size) hn).trans (h.block i hi hn)⟩
theorem Past.set{B:Nat}(w:World)(o:Nat)(v:Value):Past B w (w.setCell ⟨B,o,none⟩ v) :=
 ⟨rfl,rfl,rfl,by simp[World.setCell],fun k _ hk=>Below.heap_setCell _ _ _ _ hk⟩
theorem DrawAt.ext{w w':World}{B:Nat}{a:Option Addr}{len cp k:Nat}(h:DrawAt w B a len cp k)(hx:Ext w w'):DrawAt w' B a len cp k:=by
 obtain⟨h1,h2,h3,h4⟩:=h
 exact⟨Nat.lt_of_lt_of_le h1 hx.size,(hx.cell (p:=⟨B,0,none⟩) h1).trans h2,(hx.cell (p:=⟨B,1,none⟩) h1).trans h3,fun o=>(hx.frozen (p:=⟨B,o,none⟩) h1).trans (h4 o)⟩
def nextV(L:List Int)(k:Nat)(n:Int):Int:=if k<L.length then modZ (L[k]?.getD 0) n else 0
def nextK(L:List Int)(k:Nat):Nat:=if k<L.length then k+1 else k
theorem nextV_bd(L:List Int)(k:Nat){n:Int}(h:0<n):0<=nextV L k n/\nextV L k n<n:=by
 unfold nextV
 split
 ·exact modZ_bd _ h
 ·omega
end

section
def nd(v:Value):Prop:=∀z,v ≠ .int .u32 z
def Dat.R(w:World)(cs:List Value):Dat->Prop
 | .num x=>∃n p l c,cs=[.bool n,.slice p l c]/\NR w n p l c x
 | .zi z B=>(∃n p l c,cs=[.bool n,.slice p l c]/\NR w n p l c (ofZ z))/\z.natAbs<=B
theorem Dat.ext{w w':World}{cs:List Value}(hx:Ext w w'):∀ {D:Dat},D.R w cs->D.R w' cs
 | .num _,⟨n,p,l,c,e,h⟩=>⟨n,p,l,c,e,h.ext hx⟩
 | .zi _ _,⟨⟨n,p,l,c,e,h⟩,hb⟩=>⟨⟨n,p,l,c,e,h.ext hx⟩,hb⟩
theorem num_cells{w:World}{cs:List Value}{x:Nm}(h:∃n p l c,cs=[Value.bool n,.slice p l c]/\NR w n p l c x):cs.length=2/\∀v∈cs,nd v/\v.oneCell'=true:=by
 obtain⟨n,p,l,c,e,h⟩:=h
 subst e
 refine⟨rfl,fun v hv=>?_⟩
 simp only[List.mem_cons,List.not_mem_nil,or_false] at hv
 rcases hv with rfl|rfl
 ·exact⟨fun z h=>(by cases h),rfl⟩
 ·exact⟨fun z h=>(by cases h),rfl⟩
theorem Dat.cells{w:World}{cs:List Value}:∀ {D:Dat},D.R w cs->cs.length=D.n/\∀v∈cs,nd v/\v.oneCell'=true
 | .num _,h=>num_cells h
 | .zi _ _,⟨h,_⟩=>num_cells h
theorem Dat.keep{W W':World}{g:Nat}{xs:List Value}{T:TypeId}{cs:List Value}(hg:W.heap[g]? = some (.cells xs.toArray T))(hn:∀v∈xs,nd v)(ho:OnlyB g W W'):∀ {D:Dat},D.R W cs->D.R W' cs
 | .num _,⟨n,p,l,c,e,h⟩=>⟨n,p,l,c,e,RK.nrA (cs:=xs.toArray) (T:=T) (fun v hv=>hn v (by simpa using hv)) W W' h hg ho⟩
 | .zi _ _,⟨⟨n,p,l,c,e,h⟩,hb⟩=>⟨⟨n,p,l,c,e,RK.nrA (cs:=xs.toArray) (T:=T) (fun v hv=>hn v (by simpa using hv)) W W' h hg ho⟩,hb⟩
def IntsC(w:World)(L:List Int)(v:Value):Prop:=∃a len c,v=.slice a len c/\Ints w a len L/\len<=c/\c<=maxLen
theorem IntsC.ext{w w':World}{L:List Int}{v:Value}(hx:Ext w w'):IntsC w L v->IntsC w' L v
 | ⟨a,len,c,e,h1,h2⟩=>⟨a,len,c,e,h1.ext hx,h2⟩
theorem IntsC.one{w:World}{L:List Int}{v:Value}:IntsC w L v->nd v/\v.oneCell'=true
 | ⟨_,_,_,e,_⟩=>by subst e;exact⟨(fun z h=>nomatch h),rfl⟩
def FcC(T:TypeId)(l:List (Int×Nat))(v:Value):Prop:=v=.iface T (.agg (l.map fun x=>Value.int .i64 x.1).toArray)/\∀x∈l,x.1.natAbs<=x.2/\I64 x.1
theorem FcC.one{T:TypeId}{l:List (Int×Nat)}{v:Value}:FcC T l v->nd v/\v.oneCell'=true
 | ⟨e,_⟩=>by subst e;exact⟨(fun z h=>nomatch h),rfl⟩
def RowC(R:List It->List Value->Prop)(V:World)(z n:Nat)(f:Nat->List It)(v:Value):Prop :=
 ∃a c,v=.slice a n c/\n<=c/\c<=maxLen/\∀i,i<n->∃g o xs,∃T:TypeId×(Nat×Nat),a=some ⟨g,o,none⟩/\V.heap[g]? = some (.cells xs T.1 T.2)/\o+i*z<=xs.size/\∃cs d,xs.toList.drop (o+i*z)=cs++d/\R (f i) cs
theorem RowC.one{R:List It->List Value->Prop}{V:World}{z n:Nat}{f:Nat->List It}{v:Value}:RowC R V z n f v->nd v/\v.oneCell'=true
 | ⟨_,_,e,_⟩=>by subst e;exact⟨(fun z h=>nomatch h),rfl⟩
theorem RowC.imp{R R':List It->List Value->Prop}{V V':World}{z n:Nat}{f:Nat->List It}{v:Value}(hx:Ext V V')(hR:∀l cs,R l cs->R' l cs):RowC R V z n f v->RowC R' V' z n f v
 | ⟨a,c,e,h1,h2,h3⟩=>⟨a,c,e,h1,h2,fun i hi=>by
  obtain⟨g,o,xs,T,k1,k2,k3,cs,d,k4,k5⟩:=h3 i hi
  exact⟨g,o,xs,T,k1,heap_ext k2 hx,k3,cs,d,k4,hR _ _ k5⟩⟩
def Rep00(V:World):It->List Value->Prop
 | .i z B,cs=>cs=[.int .i64 z]/\z.natAbs<=B/\I64 z
 | .k n,cs=>cs=[.int .i64 n]/\I64 n
 | .v x,cs=>cs=[x]/\okV x=true
 | .b k,cs=>cs=[.bool k]
 | .d D,cs=>D.R V cs
 | .o D,cs=>D.R V cs
 | .ds L,cs=>∃v,cs=[v]/\IntsC V L v
 | .fc T l,cs=>∃v,cs=[v]/\FcC T l v
 | .ln n,cs=>∃p c,cs=[.slice p n c]/\n<=9223372036854775807
 | _,_=>False
def RepG(V:World):List It->List Value->Prop
 | [],cs=>cs=[]
 | i::l,cs=>∃c d,cs=c++d/\Rep00 V i c/\RepG V l d
def Rep0(V:World):It->List Value->Prop
 | .i z B,cs=>cs=[.int .i64 z]/\z.natAbs<=B/\I64 z
 | .k n,cs=>cs=[.int .i64 n]/\I64 n
 | .v x,cs=>cs=[x]/\okV x=true
 | .b k,cs=>cs=[.bool k]
 | .d D,cs=>D.R V cs
 | .o D,cs=>D.R V cs
 | .ds L,cs=>∃v,cs=[v]/\IntsC V L v
 | .fc T l,cs=>∃v,cs=[v]/\FcC T l v
 | .ln n,cs=>∃p c,cs=[.slice p n c]/\n<=9223372036854775807
 | .ro z n f,cs=>∃v,cs=[v]/\RowC (RepG V) V z n f v
 | _,_=>False
def RepF(V:World):List It->List Value->Prop
 | [],cs=>cs=[]
 | i::l,cs=>∃c d,cs=c++d/\Rep0 V i c/\RepF V l d
def RepI(V W:World)(r:Nat->Nat)(k:Nat):It->List Value->Prop
 | .i z B,cs=>cs=[.int .i64 z]/\z.natAbs<=B/\I64 z
 | .k n,cs=>cs=[.int .i64 n]/\I64 n
 | .v x,cs=>cs=[x]/\okV x=true
 | .b k,cs=>cs=[.bool k]
 | .p b o,cs=>b<k/\cs=[.pointer (some ⟨r b,o,none⟩)]
 | .d D,cs=>D.R W cs
 | .o D,cs=>D.R V cs
 | .sl b n z,cs=>b<k/\∃c xs T,cs=[.slice (some ⟨r b,0,none⟩) n c]/\W.heap[r b]? = some (.cells xs T)/\c*z=xs.size/\n<=c/\c<=maxLen
 | .fp l,cs=>∃g o xs,∃T:TypeId×(Nat×Nat),cs=[.pointer (some ⟨g,o,none⟩)]/\V.heap[g]? = some (.cells xs T.1 T.2)/\o<=xs.size/\∃c d,xs.toList.drop o=c++d/\RepF V l c
 | .fs o l n z,cs=>∃g q xs,∃T:TypeId×(Nat×Nat),cs=[.slice (some ⟨g,o,none⟩) n q]/\V.heap[g]? = some (.cells xs T.1 T.2)/\n<=q/\q<=maxLen/\o<=xs.size/\∃c d,xs.toList.drop o=c++d/\RepF V l c/\c.length=n*z
 | .fn f l,cs=>(∀p∈l,p.1<k)/\cs=[.func (.func f) #[] (l.map fun p=>Value.pointer (some ⟨r p.1,p.2,none⟩)).toArray]
 | .ds L,cs=>∃v,cs=[v]/\IntsC V L v
 | .dr L k,cs=>∃v,cs=[v,.int .i64 k]/\IntsC V L v/\k<=L.length
 | .px b z n len,cs=>(b<k/\0<=z/\z<len)/\cs=[.pointer (some ⟨r b,z.toNat*n,none⟩)]
 | .fc T l,cs=>∃v,cs=[v]/\FcC T l v
 | .ln n,cs=>∃p c,cs=[.slice p n c]/\n<=9223372036854775807
 | .ro z n f,cs=>∃v,cs=[v]/\RowC (RepF V) V z n f v
def RepL(V W:World)(r:Nat->Nat)(k:Nat):List It->List Value->Prop
 | [],cs=>cs=[]
 | i::l,cs=>∃c d,cs=c++d/\RepI V W r k i c/\RepL V W r k l d
def cellsV(g:Bool)(cs:List Value):Value:=if g then .agg cs.toArray else cs.headD undef
def RepV(V W:World)(r:Nat->Nat)(k:Nat)(v:V1)(x:Value):Prop:=∃cs,RepL V W r k v.l cs/\x=cellsV v.g cs/\(v.g=false->cs.length=1)
def RepVs(V W:World)(r:Nat->Nat)(k:Nat):List V1->List Value->Prop
 | [],xs=>xs=[]
 | v::l,xs=>∃x ys,xs=x::ys/\RepV V W r k v x/\RepVs V W r k l ys
def RepA(V W:World)(r:Nat->Nat)(k:Nat):AV->Value->Prop
 | .und,x=>x=undef
 | .any,_=>True
 | .one v,x=>RepV V W r k v x
 | .tup l,x=>∃xs,x=.tuple xs.toArray/\RepVs V W r k l xs
theorem Rep00.up{V V':World}{i:It}{cs:List Value}(hx:Ext V V')(h:Rep00 V i cs):Rep0 V' i cs:=by
 cases i with
 | d D=>exact Dat.ext hx h
 | o D=>exact Dat.ext hx h
 | ds L=>obtain⟨v,e,h⟩:=h;exact⟨v,e,h.ext hx⟩
 | ro z n f=>exact h.elim
 | _=>exact h
theorem RepG.up{V V':World}(hx:Ext V V'):∀ {l:List It} {cs:List Value},RepG V l cs->RepF V' l cs
 | [],_,e=>e
 | _::_,_,⟨c,d,e,h1,h2⟩=>⟨c,d,e,h1.up hx,RepG.up hx h2⟩
theorem RepG.ext{V V':World}(hx:Ext V V'):∀ {l:List It} {cs:List Value},RepG V l cs->RepG V' l cs
 | [],_,e=>e
 | i::_,_,⟨c,d,e,h1,h2⟩=>by
  refine⟨c,d,e,?_,RepG.ext hx h2⟩
  cases i with
  | d D=>exact Dat.ext hx h1
  | o D=>exact Dat.ext hx h1
  | ds L=>obtain⟨v,e,h⟩:=h1;exact⟨v,e,h.ext hx⟩
  | _=>exact h1
theorem okV_nd{x:Value}(h:okV x=true):nd x/\x.oneCell'=true:=by
 cases x with
 | int k n=>cases k<;>first|(cases h;done)|exact⟨(fun z e=>nomatch e),rfl⟩
 | bool b=>exact⟨(fun z e=>nomatch e),rfl⟩
 | slice a _ _=>exact⟨(fun z e=>nomatch e),rfl⟩
 | func a b c=>exact⟨(fun z e=>nomatch e),rfl⟩
 | nilFunc=>exact⟨(fun z e=>nomatch e),rfl⟩
 | nilIface=>exact⟨(fun z e=>nomatch e),rfl⟩
 | _=>cases h
section
variable {V W W':World} {r r':Nat->Nat} {k k':Nat}
theorem RepL.imp(h:∀i cs,RepI V W r k i cs->RepI V W' r' k' i cs):∀ {l:List It} {cs:List Value},RepL V W r k l cs->RepL V W' r' k' l cs
 | [],_,e=>e
 | _::_,_,⟨c,d,e,h1,h2⟩=>⟨c,d,e,h _ _ h1,RepL.imp h h2⟩
theorem RepV.imp(h:∀i cs,RepI V W r k i cs->RepI V W' r' k' i cs){v:V1}{x:Value}:RepV V W r k v x->RepV V W' r' k' v x
 | ⟨cs,h1,h2,h3⟩=>⟨cs,h1.imp h,h2,h3⟩
theorem RepVs.imp(h:∀i cs,RepI V W r k i cs->RepI V W' r' k' i cs):∀ {l:List V1} {xs:List Value},RepVs V W r k l xs->RepVs V W' r' k' l xs
 | [],_,e=>e
 | _::_,_,⟨x,ys,e,h1,h2⟩=>⟨x,ys,e,h1.imp h,RepVs.imp h h2⟩
theorem RepA.imp(h:∀i cs,RepI V W r k i cs->RepI V W' r' k' i cs):∀ {v:AV} {x:Value},RepA V W r k v x->RepA V W' r' k' v x
 | .und,_,e=>e
 | .any,_,_=>trivial
 | .one _,_,e=>RepV.imp h e
 | .tup _,_,⟨xs,e,h1⟩=>⟨xs,e,h1.imp h⟩
theorem RepI.ext(hx:Ext W W')(i:It)(cs:List Value):RepI V W r k i cs->RepI V W' r k i cs:=by
 cases i with
 | d D=>exact fun h=>Dat.ext hx h
 | sl b n z=>exact fun ⟨h0,c,xs,T,h1,h2,h3⟩=>⟨h0,c,xs,T,h1,heap_ext h2 hx,h3⟩
 | _=>exact id
theorem RepI.grow(hk:k<=k')(hr:∀b,b<k->r' b=r b)(i:It)(cs:List Value):RepI V W r k i cs->RepI V W r' k' i cs:=by
 cases i with
 | p b o=>exact fun ⟨h1,h2⟩=>⟨Nat.lt_of_lt_of_le h1 hk,by rw[hr b h1];exact h2⟩
 | sl b n z=>exact fun ⟨h0,h⟩=>⟨Nat.lt_of_lt_of_le h0 hk,by rw[hr b h0];exact h⟩
 | px b z n len=>exact fun ⟨⟨h0,h1⟩,h2⟩=>⟨⟨Nat.lt_of_lt_of_le h0 hk,h1⟩,by rw[hr b h0];exact h2⟩
 | fn f l=>exact fun ⟨h1,h2⟩=>⟨fun p hp=>Nat.lt_of_lt_of_le (h1 p hp) hk,by rw[h2];congr 3;exact List.map_congr_left fun p hp=>by rw[hr _ (h1 p hp)]⟩
 | _=>exact id
theorem RepI.keep{g:Nat}{xs xs':List Value}{T T':TypeId}(hg:W.heap[g]? = some (.cells xs.toArray T))(hn:∀v∈xs,nd v)(ho:OnlyB g W W')(hg':W'.heap[g]? = some (.cells xs'.toArray T'))(hl:xs'.length=xs.length)(i:It)(cs:List Value):RepI V W r k i cs->RepI V W' r k i cs:=by
 cases i with
 | d D=>exact fun h=>Dat.keep hg hn ho h
 | sl b n z =>
  refine fun ⟨h0,c,ys,U,h1,h2,h3,h4⟩=>?_
  by_cases e:r b=g
  ·rw [e] at h2 h1
   rw[hg] at h2
   cases h2
   exact⟨h0,c,xs'.toArray,T',by rw[e];exact h1,by rw[e];exact hg',by rw[h3];simp[hl],h4⟩
  ·exact⟨h0,c,ys,U,h1,by rw[ho.block _ e];exact h2,h3,h4⟩
 | _=>exact id
theorem RepI.cells{i:It}{cs:List Value}(h:RepI V W r k i cs):cs.length=i.n/\∀v∈cs,nd v/\v.oneCell'=true:=by
 have one:∀x:Value,nd x->x.oneCell'=true->([x]:List Value).length=1/\∀v ∈ [x],nd v/\v.oneCell'=true:=fun x h1 h2=>⟨rfl,fun v hv=>by rw[List.mem_singleton.1 hv];exact⟨h1,h2⟩⟩
 cases i with
 | i z B=>obtain⟨rfl,_⟩:=h;exact one _ (fun z e=>nomatch e) rfl
 | k n=>obtain⟨rfl,_⟩:=h;exact one _ (fun z e=>nomatch e) rfl
 | v x=>obtain⟨rfl,h⟩:=h;exact one _ (okV_nd h).1 (okV_nd h).2
 | b k=>cases h;exact one _ (fun z e=>nomatch e) rfl
 | p b o=>obtain⟨_,rfl⟩:=h;exact one _ (fun z e=>nomatch e) rfl
 | d D=>exact Dat.cells h
 | o D=>exact Dat.cells h
 | sl b n z=>obtain⟨_,c,xs,T,rfl,_⟩:=h;exact one _ (fun z e=>nomatch e) rfl
 | fp l=>obtain⟨g,o,xs,T,rfl,_⟩:=h;exact one _ (fun z e=>nomatch e) rfl
 | fs o l n z=>obtain⟨g,q,xs,T,rfl,_⟩:=h;exact one _ (fun z e=>nomatch e) rfl
 | fn f l=>obtain⟨_,rfl⟩:=h;exact one _ (fun z e=>nomatch e) rfl
 | ds L=>obtain⟨v,rfl,h⟩:=h;exact one _ h.one.1 h.one.2
 | fc T l=>obtain⟨v,rfl,h⟩:=h;exact one _ h.one.1 h.one.2
 | ln n=>obtain⟨p,c,rfl,_⟩:=h;exact one _ (fun z e=>nomatch e) rfl
 | ro z n f=>obtain⟨v,rfl,h⟩:=h;exact one _ h.one.1 h.one.2
 | px b z n len=>obtain⟨_,rfl⟩:=h;exact one _ (fun z e=>nomatch e) rfl
 | dr L k =>
  obtain⟨v,rfl,h,_⟩:=h
  refine⟨rfl,fun u hu=>?_⟩
  simp only[List.mem_cons,List.not_mem_nil,or_false] at hu
  rcases hu with rfl|rfl
  ·exact h.one
  ·exact⟨(fun z e=>nomatch e),rfl⟩
theorem opn_n{U:World}{x:Nm}{cs:List Value}(h:∃n p l c,cs=[Value.bool n,.slice p l c]/\NR U n p l c x):RepL V W r k [.v (.bool x.neg),.ln x.d.length] cs:=by
 obtain⟨n,p,l,c,rfl,h1,h2,h3⟩:=h
 exact⟨[_],[_],rfl,⟨by rw[h1],rfl⟩,[_],[],rfl,⟨p,c,by rw[h2],Nat.le_trans h3.le h3.max⟩,rfl⟩
theorem RepL.cells:∀ {l:List It} {cs:List Value},RepL V W r k l cs->cs.length=(l.map It.n).sum/\∀v∈cs,nd v/\v.oneCell'=true
 | [],_,e=>by cases e;simp
 | i::l,_,⟨c,d,e,h1,h2⟩=>by
  subst e
  obtain⟨a1,a2⟩:=h1.cells
  obtain⟨b1,b2⟩:=RepL.cells h2
  refine⟨by simp[a1,b1],fun v hv=>?_⟩
  rcases List.mem_append.1 hv with hv|hv
  ·exact a2 v hv
  ·exact b2 v hv
theorem RepL.app:∀ {l m:List It} {cs ds:List Value},RepL V W r k l cs->RepL V W r k m ds->RepL V W r k (l++m) (cs++ds)
 | [],_,_,_,e,h=>by cases e;exact h
 | i::l,_,_,_,⟨c,d,e,h1,h2⟩,h=>⟨c,d++_,by rw[e,List.append_assoc],h1,RepL.app h2 h⟩
theorem opn_i{i:It}{cs:List Value}(h:RepI V W r k i cs):RepL V W r k (opnI i) cs:=by
 have one:RepL V W r k [i] cs:=⟨cs,[],by simp,h,rfl⟩
 cases i with
 | d D =>
  cases D with
  | num x=>exact opn_n h
  | zi z B=>exact opn_n h.1
 | o D =>
  cases D with
  | num x=>exact opn_n h
  | zi z B=>exact opn_n h.1
 | _=>exact one
theorem opn_rep:∀ {l:List It} {cs:List Value},RepL V W r k l cs->RepL V W r k (opnL l) cs
 | [],_,e=>e
 | i::l,_,⟨c,d,e,h1,h2⟩=>by
  rw[e]
  exact (opn_i h1).app (opn_rep h2)
theorem toIt_rep{v:Value}{i:It}(h:toIt v=some i):RepI V W r k i [v]:=by
 unfold toIt at h
 split at h
 ·cases h;rfl
 ·split at h
  ·split at h
   ·rename_i hl
    unfold lim at hl
    cases h;exact⟨rfl,by unfold I64;omega⟩
   ·cases h
  ·split at h
   ·cases h;exact⟨rfl,by assumption⟩
   ·cases h
 ·split at h
  ·cases h;exact⟨rfl,by assumption⟩
  ·cases h
theorem toIts_rep:∀ {l:List Value} {is:List It},toIts l=some is->RepL V W r k is l
 | [],_,h=>by cases h;rfl
 | v::l,is,h=>by
  unfold toIts at h
  split at h
  ·cases h
   exact⟨[v],l,rfl,toIt_rep (by assumption),toIts_rep (by assumption)⟩
  ·cases h
theorem cutI_rep:∀ {l:List It} {n:Nat} {a b:List It} {cs:List Value},cutI l n=some (a,b)->RepL V W r k l cs->RepL V W r k a (cs.take n)/\RepL V W r k b (cs.drop n)/\n<=cs.length
 | [],0,_,_,_,h,e=>by unfold cutI at h;cases h;cases e;exact⟨rfl,rfl,Nat.le_refl _⟩
 | [],n+1,_,_,_,h,_=>by unfold cutI at h;cases h
 | i::l,0,_,_,cs,h,e=>by unfold cutI at h;cases h;exact⟨rfl,e,Nat.zero_le _⟩
 | i::l,n+1,a,b,cs,h,⟨c,d,e,h1,h2⟩=>by
  unfold cutI at h
  split at h
  ·rename_i hle
   split at h
   ·rename_i x y hc
    cases h
    obtain⟨k1,k2,k3⟩:=cutI_rep hc h2
    have hl:=h1.cells.1
    subst e
    have e1:List.take (n+1) (c++d)=c++d.take (n+1-i.n):=by rw[List.take_append,List.take_of_length_le (by omega),hl]
    have e2:List.drop (n+1) (c++d)=d.drop (n+1-i.n):=by rw[List.drop_append,List.drop_eq_nil_of_le (by omega),hl];rfl
    rw[e1,e2]
    exact⟨⟨c,_,rfl,h1,k1⟩,k2,by rw[List.length_append];omega⟩
   ·cases h
  ·cases h
theorem subI_rep{l x:List It}{o n:Nat}{cs:List Value}(h:subI l o n=some x)(hr:RepL V W r k l cs):RepL V W r k x ((cs.drop o).take n)/\o+n<=cs.length:=by
 unfold subI at h
 cases h1:cutI l o with
 | none=>simp[h1] at h
 | some q =>
  obtain⟨a,b⟩:=q
  cases h2:cutI b n with
  | none=>simp[h1,h2] at h
  | some q =>
   obtain⟨c,d⟩:=q
   simp only[h1,h2,Option.bind_some,Option.map_some,Option.some.injEq] at h
   subst h
   obtain⟨k1,k2,k3⟩:=cutI_rep h1 hr
   obtain⟨k4,k5,k6⟩:=cutI_rep h2 k2
   exact⟨k4,by simp at k6;omega⟩
theorem putI_rep{l x y:List It}{o n:Nat}{cs ds:List Value}(h:putI l o n x=some y)(hr:RepL V W r k l cs)(hx:RepL V W r k x ds)(hl:ds.length=n):RepL V W r k y (cs.take o++(ds++cs.drop (o+ds.length)))/\o+ds.length<=cs.length:=by
 unfold putI at h
 cases h1:cutI l o with
 | none=>simp[h1] at h
 | some q =>
  obtain⟨a,b⟩:=q
  cases h2:cutI b n with
  | none=>simp[h1,h2] at h
  | some q =>
   obtain⟨c,d⟩:=q
   simp only[h1,h2,Option.bind_some,Option.map_some,Option.some.injEq] at h
   subst h
   obtain⟨k1,k2,k3⟩:=cutI_rep h1 hr
   obtain⟨k4,k5,k6⟩:=cutI_rep h2 k2
   rw[hl]
   rw[List.drop_drop] at k5
   exact⟨k1.app (hx.app k5),by simp at k6;omega⟩
def RepP(V W:World)(r:Nat->Nat)(k:Nat)(l:List It)(cs:List Value):Prop:=∃c d,cs=c++d/\RepL V W r k l c/\∀v∈d,nd v
theorem RepL.pre{l:List It}{cs:List Value}(h:RepL V W r k l cs):RepP V W r k l cs:=⟨cs,[],(List.append_nil _).symm,h,nofun⟩
theorem RepP.imp(h:∀i cs,RepI V W r k i cs->RepI V W' r' k' i cs){l:List It}{cs:List Value}:RepP V W r k l cs->RepP V W' r' k' l cs
 | ⟨c,d,e,h1,h2⟩=>⟨c,d,e,h1.imp h,h2⟩
theorem RepP.nd{l:List It}{cs:List Value}(h:RepP V W r k l cs):∀v∈cs,nd v:=by
 obtain⟨c,d,rfl,h1,h2⟩:=h
 intro v hv
 rcases List.mem_append.1 hv with hv|hv
 ·exact (h1.cells.2 v hv).1
 ·exact h2 v hv
theorem putI_repP{l x y:List It}{o n:Nat}{cs ds:List Value}(h:putI l o n x=some y)(hr:RepP V W r k l cs)(hx:RepL V W r k x ds)(hl:ds.length=n):RepP V W r k y (cs.take o++(ds++cs.drop (o+ds.length)))/\o+ds.length<=cs.length:=by
 obtain⟨c,d,rfl,h1,h2⟩:=hr
 obtain⟨k1,k2⟩:=putI_rep h h1 hx hl
 refine⟨⟨_,d,?_,k1,h2⟩,by rw[List.length_append];omega⟩
 rw[List.take_append_of_le_length (by omega),List.drop_append_of_le_length (by omega)]
 simp only[List.append_assoc]
theorem cutI_repP{l a b:List It}{n:Nat}{cs:List Value}(h:cutI l n=some (a,b))(hr:RepP V W r k l cs):RepL V W r k a (cs.take n)/\RepP V W r k b (cs.drop n)/\n<=cs.length:=by
 obtain⟨c,d,rfl,h1,h2⟩:=hr
 obtain⟨k1,k2,k3⟩:=cutI_rep h h1
 rw[List.take_append_of_le_length k3,List.drop_append_of_le_length k3]
 exact⟨k1,⟨_,d,rfl,k2,h2⟩,by rw[List.length_append];omega⟩
end
end

section
theorem Tr.get_set{x:AV}:∀ {t:Tr} {i j:Nat},(t.set i x).get j=if i=j then (t.get j).map (fun _=>x) else t.get j
 | .e,i,j=>by simp[Tr.set,Tr.get]
 | .n v l r,i,j=>by
  have hl:=@Tr.get_set x l
  have hr:=@Tr.get_set x r
  cases i with
  | zero =>
   cases j with
   | zero=>rfl
   | succ j=>rw[if_neg (by omega)];rfl
  | succ i =>
   have hm:∀k:Nat,Nat.mod k 2=0\/Nat.mod k 2=0+1:=fun k=>by have:k%2<2:=Nat.mod_lt _ (by decide);show k%2=0\/k%2=0+1;omega
   cases j with
   | zero=>rw[if_neg (by omega)];unfold Tr.set;simp only;rcases hm i with h|h<;>rw[h]<;>rfl
   | succ j =>
    have e:∀k:Nat,k%2=Nat.mod k 2/\k/2=Nat.div k 2:=fun _=>⟨rfl,rfl⟩
    unfold Tr.set
    simp only
    rcases hm i with h|h<;>rcases hm j with g|g<;>rw[h]<;>simp only[Tr.get,g]
    ·rw [hl]
     by_cases hij:i=j
     ·subst hij;rw[if_pos rfl,if_pos rfl]
     ·rw[if_neg (fun q=>hij (by have:=e i;have:=e j;omega)),if_neg (by omega)]
    ·rw[if_neg (fun q=>by obtain rfl:i=j:=Nat.succ.inj q;rw[h] at g;cases g)]
    ·rw[if_neg (fun q=>by obtain rfl:i=j:=Nat.succ.inj q;rw[h] at g;cases g)]
    ·rw [hr]
     by_cases hij:i=j
     ·subst hij;rw[if_pos rfl,if_pos rfl]
     ·rw[if_neg (fun q=>hij (by have:=e i;have:=e j;omega)),if_neg (by omega)]
theorem Tr.full_get{v:AV}:∀ {k i:Nat},(Tr.full k).get i=some v->v=.und
 | 0,_,h=>by cases h
 | k+1,i,h=>by
  unfold Tr.full Tr.get at h
  split at h
  ·cases h;rfl
  ·split at h
   ·exact Tr.full_get h
   ·exact Tr.full_get h
theorem Tr.fill_get{v:AV}:∀ {l:List AV} {t:Tr} {i j:Nat},(t.fill i l).get j=some v->(i<=j/\l[j-i]? = some v)\/(t.get j=some v/\(j<i\/i+l.length<=j))
 | [],t,i,j,h=>.inr ⟨h,by simp;omega⟩
 | u::l,t,i,j,h=>by
  rcases Tr.fill_get (l:=l) (t:=t.set i u) (i:=i+1) (j:=j) h with⟨h1,h2⟩|⟨h1,h2⟩
  ·refine .inl ⟨by omega, ?_⟩
   rw[show j-i=(j-(i+1))+1 by omega]
   simpa using h2
  ·rw [Tr.get_set] at h1
   split at h1
   ·rename_i hij
    subst hij
    refine .inl ⟨Nat.le_refl _,?_⟩
    cases hq:t.get i with
    | none=>simp[hq] at h1
    | some w=>simp only[hq,Option.map_some] at h1;simpa using h1
   ·exact .inr ⟨h1,by simp only[List.length_cons];omega⟩
theorem Tm.get_lt{t:Tm}{i:Nat}{v:AV}(h:t.get i=some v):i<t.n/\t.r.get i=some v:=by
 unfold Tm.get at h
 split at h
 ·rename_i hb;exact⟨by simpa[Nat.blt_eq] using hb,h⟩
 ·cases h
theorem Tm.get_set{t:Tm}{i j:Nat}{x v:AV}(h:(t.set i x).get j=some v):(i=j/\v=x/\j<t.n)\/(i≠j/\t.get j=some v):=by
 obtain⟨h1,h2⟩:=Tm.get_lt h
 have h1:j<t.n:=h1
 have h2:(t.r.set i x).get j=some v:=h2
 rw[Tr.get_set] at h2
 split at h2
 ·rename_i hij
  cases hq:t.r.get j with
  | none=>simp[hq] at h2
  | some w=>simp only[hq,Option.map_some,Option.some.injEq] at h2;exact .inl ⟨hij,h2.symm,h1⟩
 ·rename_i hij
  refine .inr ⟨hij,?_⟩
  unfold Tm.get
  rw[show Nat.blt j t.n=true by simpa[Nat.blt_eq] using h1]
  exact h2
def RT(V W:World)(r:Nat->Nat)(k:Nat)(t:Tm)(a:Act):Prop:=a.tmps.size=t.n/\∀i v,t.get i=some v->RepA V W r k v (a.tmps.getD i undef)
structure RM (V:World) (r:Nat->Nat) (cm:Nat->List Value) (m:List (Option Mb)) (W:World):Prop where
 ext:Ext V W
 blk:∀b x,mb m b=some x->W.heap[r b]? = some (.cells (cm b).toArray x.T)/\RepP V W r m.length x.l (cm b)
 lo:∀b x,mb m b=some x->V.heap.size<=r b
 inj:∀b c x y,mb m b=some x->mb m c=some y->r b=r c->b=c
theorem mb_at{m:List (Option Mb)}{b:Nat}{x:Mb}:mb m b=some x <-> m[b]? = some (some x):=by
 unfold mb
 constructor
 ·intro h
  split at h<;>cases h
  assumption
 ·intro h
  rw[h]
theorem mb_lt{m:List (Option Mb)}{b:Nat}{x:Mb}(h:mb m b=some x):b<m.length:=(List.getElem?_eq_some_iff.1 (mb_at.1 h)).1
theorem calleeF_l{c:Callee}{f:Operand}(h:calleeF c=some (.inl f)):c=.value f:=by
 unfold calleeF at h
 split at h<;>cases h
 rfl
theorem calleeF_r{c:Callee}{b:Builtin}(h:calleeF c=some (.inr b)):c=.builtin b:=by
 unfold calleeF at h
 split at h<;>cases h
 rfl
def All:List Prop->Prop
 | []=>True
 | p::l=>p/\All l
theorem All.app:∀ {l m:List Prop},All (l++m)->All l/\All m
 | [],_,h=>⟨trivial,h⟩
 | _::_,_,h=>⟨⟨h.1,(All.app h.2).1⟩,(All.app h.2).2⟩
theorem Rep0.up{V W:World}{r:Nat->Nat}{k:Nat}{i:It}{cs:List Value}(h:Rep0 V i cs):RepI V W r k (toO i) cs:=by
 cases i with
 | ro z n f=>obtain⟨v,e,h⟩:=h;exact⟨v,e,h.imp (Below.refl _ _) fun _ _ h=>h.up (Below.refl _ _)⟩
 | _=>first|exact h|exact h.elim
theorem RepF.up{V W:World}{r:Nat->Nat}{k:Nat}:∀ {l:List It} {cs:List Value},RepF V l cs->RepL V W r k (l.map toO) cs
 | [],_,e=>e
 | _::_,_,⟨c,d,e,h1,h2⟩=>⟨c,d,e,h1.up,RepF.up h2⟩
theorem Rep0.n{V:World}{i:It}{cs:List Value}(h:Rep0 V i cs):cs.length=i.n:=by
 have:=(Rep0.up (W:=V) (r:=fun _=>0) (k:=0) h).cells.1
 rw[this]
 cases i<;>rfl
theorem cutI_repF{V:World}:∀ {l:List It} {n:Nat} {a b:List It} {cs:List Value},cutI l n=some (a,b)->RepF V l cs->RepF V a (cs.take n)/\RepF V b (cs.drop n)/\n<=cs.length
 | [],0,_,_,_,h,e=>by unfold cutI at h;cases h;cases e;exact⟨rfl,rfl,Nat.le_refl _⟩
 | [],n+1,_,_,_,h,_=>by unfold cutI at h;cases h
 | i::l,0,_,_,cs,h,e=>by unfold cutI at h;cases h;exact⟨rfl,e,Nat.zero_le _⟩
 | i::l,n+1,a,b,cs,h,⟨c,d,e,h1,h2⟩=>by
  unfold cutI at h
  split at h
  ·rename_i hle
   split at h
   ·rename_i x y hc
    cases h
    obtain⟨k1,k2,k3⟩:=cutI_repF hc h2
    have hl:=h1.n
    subst e
    have e1:List.take (n+1) (c++d)=c++d.take (n+1-i.n):=by rw[List.take_append,List.take_of_length_le (by omega),hl]
    have e2:List.drop (n+1) (c++d)=d.drop (n+1-i.n):=by rw[List.drop_append,List.drop_eq_nil_of_le (by omega),hl];rfl
    rw[e1,e2]
    exact⟨⟨c,_,rfl,h1,k1⟩,k2,by rw[List.length_append];omega⟩
   ·cases h
  ·cases h
section
variable {P:Program} {V W:World} {r:Nat->Nat} {k:Nat} {s:St} {a:Act}
theorem RepV.scal{i:It}{x:Value}(h:RepV V W r k ⟨false,[i]⟩ x):RepI V W r k i [x]:=by
 obtain⟨cs,⟨c,d,e,h1,h2⟩,h3,h4⟩:=h
 cases h2
 rw[List.append_nil] at e
 subst e
 have h4:=h4 rfl
 match cs,h4 with
 | [y],_=>rw[h3];exact h1
theorem RepI.val{i:It}{x:Value}(h:RepI V W r k i [x]):RepV V W r k ⟨false,[i]⟩ x:=⟨[x],⟨[x],[],rfl,h,rfl⟩,rfl,fun _=>rfl⟩
theorem evA_rep(hT:RT V W r k s.t a){x:Operand}{v:AV}(h:evA s x=some v):RepA V W r k v (a.eval x):=by
 unfold evA at h
 split at h
 ·exact hT.2 _ _ h
 ·split at h
  ·rename_i cs
   cases hq:toIts cs.toList with
   | none=>simp[hq] at h
   | some l =>
    simp only[hq,Option.map_some,Option.some.injEq] at h
    subst h
    exact⟨cs.toList,toIts_rep hq,rfl,nofun⟩
  ·cases h
  ·rename_i u _ _ _
   cases hq:toIt u with
   | none=>simp[hq] at h
   | some l =>
    simp only[hq,Option.map_some,Option.some.injEq] at h
    subst h
    exact (toIt_rep hq).val
 ·cases h
 ·cases h
  exact RepI.val (i:=.v _) ⟨rfl,rfl⟩
theorem evV_rep(hT:RT V W r k s.t a){x:Operand}{v:V1}(h:evV s x=some v):RepV V W r k v (a.eval x):=by
 unfold evV at h
 cases hq:evA s x with
 | none=>simp[hq] at h
 | some y =>
  rw[hq] at h
  cases y with
  | one y=>cases h;exact evA_rep hT hq
  | _=>cases h
theorem evI_rep(hT:RT V W r k s.t a){x:Operand}{i:It}(h:evI s x=some i):RepI V W r k i [a.eval x]:=by
 unfold evI at h
 cases hq:evV s x with
 | none=>simp[hq] at h
 | some y =>
  obtain⟨g,l⟩:=y
  have:=evV_rep hT hq
  rw[hq] at h
  simp only[Option.bind_some] at h
  split at h
  ·cases h
   exact this.scal
  ·cases h
theorem evVs_rep(hT:RT V W r k s.t a):∀ {xs:List Operand} {l:List V1},evVs s xs=some l->RepVs V W r k l (xs.map a.eval)
 | [],_,h=>by cases h;rfl
 | x::xs,l,h=>by
  unfold evVs at h
  split at h
  ·cases h
   exact⟨_,_,rfl,evV_rep hT (by assumption),evVs_rep hT (by assumption)⟩
  ·cases h
theorem run_sizeT{t:TypeId}{n:Nat}(h:szT P t=some n)(w:World):(sizeOf t).run P w=.ok n w:=by
 unfold szT at h
 cases hq:P.info? t with
 | none=>simp[hq] at h
 | some i =>
  simp only[hq,Option.map_some,Option.some.injEq] at h
  simp[sizeOf,typeInfo,hq,h]
theorem agT_und{t:TypeId}{g:Bool}(h:agT P t=some g):∃d,P.underlying t=some d/\d.isRow=g:=by
 unfold agT at h
 cases hq:P.underlying t with
 | none=>simp[hq] at h
 | some d =>
  refine⟨d,rfl,?_⟩
  simp only[hq,Option.map_some,Option.some.injEq] at h
  rw[<- h]
  cases d<;>rfl
theorem run_isAggT{t:TypeId}{g:Bool}(h:agT P t=some g)(w:World):(isAgg t).run P w=.ok g w:=by
 obtain⟨d,h1,h2⟩:=agT_und h
 unfold isAgg
 rw[Sem.run_bind,run_underlying h1 w]
 subst h2
 cases d<;>rfl
theorem fld_und{t:TypeId}{f o:Nat}{ft:TypeId}(h:fld P t f=some (o,ft)):∃fs fd,P.underlying t=some (.struct fs)/\fs[f]? = some fd/\fd.offset=o/\fd.type=ft:=by
 unfold fld at h
 split at h
 ·rename_i fs hu
  cases hq:fs[f]? with
  | none=>simp[hq] at h
  | some fd =>
   simp only[hq,Option.map_some,Option.some.injEq,Prod.mk.injEq] at h
   exact⟨fs,fd,hu,hq,h.1,h.2⟩
 ·cases h
theorem subO_rep{l x:List It}{o n:Nat}{cs:List Value}(h:subO l o n=some x)(hr:RepL V W r k l cs):RepL V W r k x ((cs.drop o).take n)/\o+n<=cs.length:=by
 unfold subO at h
 split at h
 ·rename_i y hy
  cases h
  exact subI_rep hy hr
 ·exact subI_rep h (opn_rep hr)
theorem partI_rep{t:TypeId}{l:List It}{o:Nat}{v:V1}{cs:List Value}(h:partI P t l o=some v)(hr:RepL V W r k l cs) :
  ∃n,szT P t=some n/\agT P t=some v.g/\RepL V W r k v.l ((cs.drop o).take n)/\o+n<=cs.length/\(v.g=false->n=1):=by
 unfold partI at h
 split at h
 ·rename_i n g h1 h2
  split at h
  rotate_left
  ·cases h
  rename_i hc
  cases hq:subO l o n with
  | none=>simp[hq] at h
  | some x =>
   simp only[hq,Option.map_some,Option.some.injEq] at h
   subst h
   obtain⟨k1,k2⟩:=subO_rep hq hr
   exact⟨n,h1,h2,k1,k2,fun e=>by simpa[show g=false from e] using hc⟩
 ·cases h
theorem opn_nF{V:World}{x:Nm}{cs:List Value}(h:∃n p l c,cs=[Value.bool n,.slice p l c]/\NR V n p l c x):RepF V [.v (.bool x.neg),.ln x.d.length] cs:=by
 obtain⟨n,p,l,c,rfl,h1,h2,h3⟩:=h
 exact⟨[_],[_],rfl,⟨by rw[h1],rfl⟩,[_],[],rfl,⟨p,c,by rw[h2],Nat.le_trans h3.le h3.max⟩,rfl⟩
theorem opn_iF{V:World}{i:It}{cs:List Value}(h:Rep0 V i cs):RepF V (opnI i) cs:=by
 have one:RepF V [i] cs:=⟨cs,[],by simp,h,rfl⟩
 cases i with
 | d D =>
  cases D with
  | num x=>exact opn_nF h
  | zi z B=>exact opn_nF h.1
 | o D =>
  cases D with
  | num x=>exact opn_nF h
  | zi z B=>exact opn_nF h.1
 | _=>exact one
theorem appF{V:World}:∀ {l m:List It} {c d:List Value},RepF V l c->RepF V m d->RepF V (l++m) (c++d)
 | [],_,_,_,e,h=>by cases e;exact h
 | i::l,m,_,d,⟨a,b,e,h1,h2⟩,h=>⟨a,b++d,by rw[e,List.append_assoc],h1,appF h2 h⟩
theorem opn_repF{V:World}:∀ {l:List It} {cs:List Value},RepF V l cs->RepF V (opnL l) cs
 | [],_,e=>e
 | i::l,_,⟨c,d,e,h1,h2⟩=>by
  rw[e]
  exact appF (opn_iF h1) (opn_repF h2)
theorem subI_repF{V:World}{l x:List It}{o n:Nat}{cs:List Value}(hq:subI l o n=some x)(hr:RepF V l cs):RepF V x ((cs.drop o).take n)/\o+n<=cs.length:=by
 unfold subI at hq
 cases h3:cutI l o with
 | none=>simp[h3] at hq
 | some q =>
  obtain⟨a,b⟩:=q
  cases h4:cutI b n with
  | none=>simp[h3,h4] at hq
  | some q =>
   obtain⟨c,d⟩:=q
   simp only[h3,h4,Option.bind_some,Option.map_some,Option.some.injEq] at hq
   subst hq
   obtain⟨k1,k2,k3⟩:=cutI_repF h3 hr
   obtain⟨k4,k5,k6⟩:=cutI_repF h4 k2
   exact⟨k4,by simp at k6;omega⟩
theorem partI_repF{t:TypeId}{l:List It}{o:Nat}{v:V1}{cs:List Value}(h:partI P t l o=some v)(hr:RepF V l cs) :
  ∃n,szT P t=some n/\agT P t=some v.g/\RepF V v.l ((cs.drop o).take n)/\o+n<=cs.length/\(v.g=false->n=1):=by
 unfold partI at h
 split at h
 ·rename_i n g h1 h2
  split at h
  rotate_left
  ·cases h
  rename_i hc
  cases hq:subO l o n with
  | none=>simp[hq] at h
  | some x =>
   simp only[hq,Option.map_some,Option.some.injEq] at h
   subst h
   unfold subO at hq
   split at hq
   ·rename_i y hy
    cases hq
    obtain⟨k1,k2⟩:=subI_repF hy hr
    exact⟨n,h1,h2,k1,k2,fun e=>by simpa[show g=false from e] using hc⟩
   ·obtain ⟨k1, k2⟩ := subI_repF hq (opn_repF hr)
    exact⟨n,h1,h2,k1,k2,fun e=>by simpa[show g=false from e] using hc⟩
 ·cases h
theorem partI_repP{t:TypeId}{l:List It}{o:Nat}{v:V1}{cs:List Value}(h:partI P t l o=some v)(hr:RepP V W r k l cs) :
  ∃n,szT P t=some n/\agT P t=some v.g/\RepL V W r k v.l ((cs.drop o).take n)/\o+n<=cs.length/\(v.g=false->n=1):=by
 obtain⟨c,d,rfl,h1,h2⟩:=hr
 obtain⟨n,k1,k2,k3,k4,k5⟩:=partI_rep h h1
 refine⟨n,k1,k2,?_,by rw[List.length_append];omega,k5⟩
 rw[List.drop_append_of_le_length (by omega),List.take_append_of_le_length (by simp;omega)]
 exact k3
theorem run_loadVarT{t:TypeId}{n g o:Nat}{b:Bool}{T:TypeId}{fr:Nat×Nat}{cs:List Value}(hg:W.heap[g]? = some (.cells cs.toArray T fr))(h1:szT P t=some n)(h2:agT P t=some b)(h3:o+n<=cs.length)(h4:b=false->n=1) :
  (loadVar t ⟨g,o,none⟩).run P W=.ok (cellsV b ((cs.drop o).take n)) W:=by
 cases b with
 | true =>
  obtain⟨d,hu,hd⟩:=agT_und h2
  have hl:((cs.drop o).take n).length=n:=by simp;omega
  exact run_loadVar_mid W g o t ((cs.drop o).take n) d (fun j v hv=>by
   rw[cell_of_row _ _ _ _ _ _ hg]
   rw[List.getElem?_take] at hv
   split at hv
   ·simpa using hv
   ·cases hv) hu hd (by rw[hl];exact h1)
 | false =>
  obtain rfl:=h4 rfl
  have hlt:o<cs.length:=by omega
  simp only[loadVar,Sem.run_bind,run_isAggT h2,Result.andThen_ok,Bool.false_eq_true,if_false,run_load]
  rw[cell_of_row _ _ _ _ _ _ hg]
  have e:(List.take 1 (cs.drop o))=[cs[o]]:=by rw[List.drop_eq_getElem_cons hlt];rfl
  simp[hlt,cellsV,e]
theorem run_partT{t:TypeId}{n o:Nat}{b:Bool}{cs:List Value}(h1:szT P t=some n)(h2:agT P t=some b)(h3:o+n<=cs.length)(h4:b=false->n=1) :
  (part t cs.toArray o).run P W=.ok (cellsV b ((cs.drop o).take n)) W:=by
 cases b with
 | true =>
  simp only[part,Sem.run_bind,run_isAggT h2,Result.andThen_ok,if_true,run_sizeT h1,Sem.run_pure]
  congr 2
  simp[List.extract_eq_take_drop]
 | false =>
  obtain rfl:=h4 rfl
  have hlt:o<cs.length:=by omega
  simp only[part,Sem.run_bind,run_isAggT h2,Result.andThen_ok,Bool.false_eq_true,if_false]
  have e:(List.take 1 (cs.drop o))=[cs[o]]:=by rw[List.drop_eq_getElem_cons hlt];rfl
  simp[hlt,cellsV,e]
end
end
end Go.Proofs.YteajakbpmeebnaaGreat
