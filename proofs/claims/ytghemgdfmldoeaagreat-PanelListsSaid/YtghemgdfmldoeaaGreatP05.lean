import Derived.Test.YtghemgdfmldoeaaGreatP04
import Derived.Laws.Tables
import Derived.Laws.Rows
import Derived.Laws.CopyRow
import Derived.Deep.MidRow
set_option linter.unusedVariables false
set_option linter.unusedSimpArgs false
namespace Go.Proofs.YtghemgdfmldoeaaGreat
open Go.RowKit
def EL(n:Nat)(S:World->Prop):Prop:=∀W W',S W->Below n W W'->S W'
theorem EL.mono{n:Nat}{S:World->Prop}(h:EL n S)(hn:∀W,S W->n<=W.heap.size):dh S:=λW W' hs hb=>h W W' hs (hb.mono (hn W hs))
structure fR (g:Nat) (W W':World):Prop where
 os:W'.os=W.os
 tape:W'.tape=W.tape
 output:W'.output=W.output
 size:W'.heap.size=W.heap.size
 block:∀k,k≠g->W'.heap[k]? = W.heap[k]?
theorem fR.below{g n:Nat}{W W':World}(h:fR g W W')(hn:n<=g):Below n W W':=⟨h.os,h.tape,h.output,by rw[h.size];exact Nat.le_refl _,λk hk=>h.block k (by omega)⟩
def RK(g:Nat)(obj:Obj)(R:World->Prop):Prop:=∀W W',R W->W.heap[g]? = some obj->fR g W W'->R W'
theorem RK.and{g:Nat}{obj:Obj}{A B:World->Prop}(ha:RK g obj A)(hb:RK g obj B):RK g obj (λW=>A W/\B W):=λW W' h ho hb'=>⟨ha W W' h.1 ho hb',hb W W' h.2 ho hb'⟩
theorem RK.keep{g n:Nat}{obj:Obj}{S:World->Prop}(h:EL n S)(hn:n<=g):RK g obj S:=λW W' hs _ hb=>h W W' hs (hb.below hn)
theorem RK.obj{g g':Nat}{obj o':Obj}(hn:g'≠g):RK g obj (λW=>W.heap[g']? = some o'):=λW W' h _ hb=>by
 show W'.heap[g']? = some o';rw[hb.block g' hn];exact h
theorem RK.nr{g:Nat}{a b:Value}{T:TypeId}{n:Bool}{p:Option Addr}{l c:Nat}{x:Nm}(ha:∀z,a ≠ .int .u32 z)(hb:∀z,b ≠ .int .u32 z):RK g (.cells #[a,b] T) (λW=>NR W n p l c x):=λW W' h ho hk=>by
 obtain⟨h1,h2,h3,h4,h5,h6⟩:=h;refine⟨h1,h2,h3,h4,h5,λh0=>?_⟩;obtain⟨B,o,rfl,hlt,hc⟩:=h6 h0;have hne:B≠g:=by
  intro e;subst e;have:=hc 0 h0;rw[cell_of_row _ _ _ _ _ _ ho] at this;rcases o with _|_|o
  ·simp at this;exact ha _ this
  ·simp at this;exact hb _ this
  ·simp at this
 refine⟨B,o,rfl,by rw[hk.size];exact hlt,λi hi=>?_⟩;rw[<- hc i hi];exact World.cell?_of_block (hk.block B hne)
section
theorem tX{W:World}{o:Obj}{r:Nat}(h:r=W.heap.size):(W.alloc o).heap[r]? = some o:=by subst h;exact heap_alloc_new W o
theorem aH{W W':World}{g:Nat}{x:Obj}(h:W.heap[g]? = some x)(hx:ac W W'):W'.heap[g]? = some x:=by
 rw[hx.block _ (Array.getElem?_eq_some_iff.1 h).1];exact h
def putAt(cs:Array Value)(o:Nat)(vs:Array Value):Array Value:=(cs.toList.take o++vs.toList++cs.toList.drop (o+vs.toList.length)).toArray
theorem lP{W:World}{g:Nat}{cs cs':Array Value}{T:TypeId}(h:W.heap[g]? = some (.cells cs T)):fR g W (W.setRow g cs')/\(W.setRow g cs').heap[g]? = some (.cells cs' T):=by
 have hlt:=(Array.getElem?_eq_some_iff.1 h).1;refine⟨⟨rfl,rfl,rfl,by simp[World.setRow],λk hk=>?_⟩,setRow_heap W g cs cs' T _ h⟩;show (W.heap.modify g _)[k]? = _;rw[Array.getElem?_modify,if_neg (λe=>hk e.symm)]
theorem a5v{P:Program}(w:World)(g o:Nat)(t ty:TypeId)(old vs:Array Value)(hg:w.heap[g]? = some (.cells old t))(hi:(P.info? ty).map (·.size)=some vs.size)
  (ho:o+vs.size<=old.size) (h1:vs.all (·.oneCell')=true) :
  (storeVar ty ⟨g,o,none⟩ (.agg vs)).run P w=.ok () (w.setRow g (putAt old o vs)):=by
 have:=run_storeCells_at (P:=P) g o t vs.toList 0 old w hg (by simpa using ho) (λv hv=>(Array.all_eq_true_iff_forall_mem.1 h1) v (by simpa using hv));simp only[Nat.add_zero] at this;cases hq:P.info? ty with|none=>simp[hq] at hi|some i =>
  have hs:vs.size=i.size:=by simp[hq] at hi;omega
  simp[storeVar,sizeOf,typeInfo,hq,Value.cells,hs,this,putAt]
theorem RK.nrA{g:Nat}{cs:Array Value}{T:TypeId}{n:Bool}{p:Option Addr}{l c:Nat}{x:Nm}(h0:∀v∈cs.toList,∀z,v ≠ .int .u32 z):RK g (.cells cs T) (λW=>NR W n p l c x):=λW W' h ho hk=>by
 obtain⟨k1,k2,k3,k4,k5,k6⟩:=h;refine⟨k1,k2,k3,k4,k5,λk0=>?_⟩;obtain⟨B,o,rfl,hlt,hc⟩:=k6 k0;have hne:B≠g:=by
  intro e;subst e;have:=hc 0 k0;rw[cell_of_row _ _ _ _ _ _ ho] at this;exact h0 _ (by simpa using Array.mem_of_getElem? this) _ rfl
 refine⟨B,o,rfl,by rw[hk.size];exact hlt,λi hi=>?_⟩;rw[<- hc i hi];exact World.cell?_of_block (hk.block B hne)
section
variable {P:Program} {id:Nat} {l:List Oper} {Q:Exit->Act->World->Prop} {a:Act} {w:World} {d:Bool}
theorem a7d(C:World->Prop)
  (h:aG P l.toArray (λW=>Below w.heap.size w W/\C W) (λa w=>Q .normal a w) l a (List.range w.heap.size) (λW=>Below w.heap.size w W/\C W))
  (hd:d=false\/(P.follows .mixedOrders=true/\fN l.toArray=true):=by first|exact .inl rfl|exact .inr ⟨by kernel_rfl,by kernel_rfl⟩)
  (hC:C w:=by go_simp)
  (hM:∀W W',C W->Below w.heap.size w W->Below W.heap.size W W'->C W':=by (intro W W' h hx hb;have hs:=hx.size;(try simp at hs);have hbc:∀b o,b<W.heap.size->W'.cell? ⟨b,o,none⟩=W.cell? ⟨b,o,none⟩:=(λb o h=>hb.cell (p:=⟨b,o,none⟩) h);(try dsimp only at h ⊢);simp (disch:=omega) only[hbc];exact h)):(Code.region id l.toArray d).wp P Q a w:=by
 rcases hd with rfl|⟨h3,h4⟩
 ·exact EA C hC hM h
 ·cases d with|false=>exact EA C hC hM h|true=>exact Ez C h3 h4 hC hM h
end
section
variable {P:Program} {ops:Array Oper} {S:World->Prop} {Q:Act->World->Prop} {o:Oper} {l:List Oper} {a:Act} {own:List Nat} {F:World->Prop}
theorem xo(v:Value){f:FuncId}{args:Array Value}{a':Act}(hc:∀W,F W->Calls P f args W (λe w'=>e=.returned v/\ac W w'))(h:aG P ops S Q l a' own F)
  (hk:av o=2:=by rfl) (hw:Region.wanted o (yielded ops a.tmps)=true:=by rfl) (hx:∀W,(execOp a.eval o).run P W=.ok (.enter f args) W:=by (intro W;go_simp;try with_reducible rfl))
  (ha:a.put o.dst v=a':=by (simp only[Act.put,List.setIfInBounds_toArray,List.set_cons_zero,List.set_cons_succ];rfl)):aG P ops S Q (o::l) a own F:=by
 subst ha;exact U5 hk hw (λW hf=>tU (hx W) ((hc W hf).mono λe w' ⟨h1,h2⟩=>⟨v,h1,rfl,h2⟩)) h
end
def ck(W:World)(b:Nat):Nat->List Int->Prop
 | _,[]=>True|o,[x]=>W.cell? ⟨b,o,none⟩=some (.int .i64 x)|o,x::y::l=>W.cell? ⟨b,o,none⟩=some (.int .i64 x)/\ck W b (o+1) (y::l)
def cn(W:World)(b o:Nat)(n:Bool)(p:Option Addr)(l c:Nat):Prop:=W.cell? ⟨b,o,none⟩=some (.bool n)/\W.cell? ⟨b,o+1,none⟩=some (.slice p l c)
section
variable {P:Program} {id:Nat} {l:List Oper} {Q:Exit->Act->World->Prop} {a:Act} {w:World} {d:Bool}
theorem uT(C0:World->Prop){C:World->Prop}
  (h:aG P l.toArray (λW=>Below w.heap.size w W/\C W) (λa w=>Q .normal a w) l a (List.range w.heap.size) (λW=>Below w.heap.size w W/\C W))
  (h0:∀W,C0 W=C W:=by (intro W;(try simp only[ck,cn,and_assoc]);rfl))
  (hd:d=false\/(P.follows .mixedOrders=true/\fN l.toArray=true):=by first|exact .inl rfl|exact .inr ⟨by kernel_rfl,by kernel_rfl⟩)
  (hC:C w:=by go_simp)
  (hM:∀W W',C W->Below w.heap.size w W->Below W.heap.size W W'->C W':=by (intro W W' h hx hb;have hs:=hx.size;(try simp at hs);have hbc:∀b o,b<W.heap.size->W'.cell? ⟨b,o,none⟩=W.cell? ⟨b,o,none⟩:=(λb o h=>hb.cell (p:=⟨b,o,none⟩) h);(try dsimp only at h ⊢);simp (disch:=omega) only[hbc];exact h)):(Code.region id l.toArray d).wp P Q a w :=
 a7d C h hd hC hM
end
end
set_option maxHeartbeats 1000000
set_option maxRecDepth 100000
section
theorem catch_idle(p:Addr)(w:World) :
  CallsD Tryz.prog 211 #[.pointer (some p)] .returning w λe u' w'=>e=.returned (.tuple #[])/\u'=.returning/\w'=w:=by
 refine callsD_of_wpS Tryz.func211 rfl λc₀ cs hu=>?_
 apply wpS_seq;apply wpS_region;simp[wpOpsS,go_sem,recoverD,hu,Tryz.ntmps211,Exit.thenS];apply wpS_seq;apply wpS_region;have hne:∀w,(binOp .neq 20 .nilIface .nilIface).run Tryz.prog w=.ok (.bool false) w:=λ_=>by kernel_rfl
 simp[wpOpsS,go_sem,Exit.thenS,hne];refine wpS_cond (t:=false) (by simp[Act.eval,Array.replicate]) ?_;simp only[Bool.false_eq_true,if_false];refine wpS_of_wp (wp_skip ?_);cases c₀;simp_all [bodyPostS,results,Tryz.results211]
def AE(P:Program)(f:FuncId):Prop:=∀(g:FuncId) (caps:Array Value) (z:Int) (p:Prop) (w:World),(∀w,(callFunc g caps).run P w=.ok (.enter g caps) w)->(∀w0,ac w w0->Calls P g caps w0 λe w'=>(e=.returned (.int .i64 z)/\p)/\ac w0 w')->Calls P f #[.func (.func g) #[] caps] w λe w'=>(e=.returned (.int .i64 z)/\p)/\ac w w'
theorem a0a:AE Tryz.prog 146:=by
 intro g caps z p w RE H;have hmf:∀(fn:Fn) (first cap:Array Value) (w:World),(Instr.makeFunc fn first cap).run Tryz.prog w=.ok (.func fn first cap) w:=λ_ _ _ _=>rfl
 have hx0:ac w (w.alloc (.cells #[.int .i64 0] 3)):=ag;have CM:=Lib.hid (H _ hx0);clear H;go_enter_defers Tryz.func146,Tryz.ntmps146;go_wp2_with fail;refine CM.out.mono ?_;rintro e w1 ⟨⟨rfl,hp⟩,hx⟩;have hx1:ac w w1:=ac.step hx0 hx;obtain⟨_,_,hk_w1_0,_⟩:=vM hx w.heap.size;go_wp2_with fail;refine leaves_cons (f:=211) (args:=#[.pointer (some ⟨w.heap.size,0,none⟩)]) (by simp) (by simp[go_sem]) ?_;refine (catch_idle ⟨w.heap.size,0,none⟩ _).mono ?_;rintro e u' w'' ⟨rfl,rfl,rfl⟩;simp[Leaves,settle,results,Tryz.results146,go_sem,hk_w1_0];refine⟨hp,?_⟩;exact ag
end
set_option maxHeartbeats 1000000
set_option maxRecDepth 100000
section
def I64(x:Int):Prop := -9223372036854775808<=x/\x<=9223372036854775807
def dP(x y:Int):Bool:=decide (-67108864<=x)&&decide (x<=67108864)&&decide (-67108864<=y)&&decide (y<=67108864)
theorem UG(ax ay bx by':Int)(w:World)(h1:I64 (ax-bx))(h2:I64 (ay-by')) :
  Calls Tryz.prog 195 #[.agg #[.int .i64 ax,.int .i64 ay],.agg #[.int .i64 bx,.int .i64 by']] w λe w'=>e=.returned (.agg #[.int .i64 (ax-bx),.int .i64 (ay-by')])/\ac w w':=by
 obtain⟨h1a,h1b⟩:=h1;obtain⟨h2a,h2b⟩:=h2;go_enter Tryz.func195,Tryz.ntmps195;go_wp2;exact bodyPost_ret (v:=.agg #[.int .i64 (ax-bx),.int .i64 (ay-by')]) (by simp[results,Tryz.results195,go_sem]) rfl ⟨rfl,ag⟩
theorem a6Y(ax ay bx by':Int)(w:World)(h1:I64 (ax*by'))(h2:I64 (ay*bx))(h3:I64 (ax*by'-ay*bx)) :
  Calls Tryz.prog 197 #[.agg #[.int .i64 ax,.int .i64 ay],.agg #[.int .i64 bx,.int .i64 by']] w λe w'=>e=.returned (.int .i64 (ax*by'-ay*bx))/\ac w w':=by
 obtain⟨h1a,h1b⟩:=h1;obtain⟨h2a,h2b⟩:=h2;obtain⟨h3a,h3b⟩:=h3;go_enter Tryz.func197,Tryz.ntmps197;go_wp2;go_ret;exact⟨rfl,ag⟩
theorem a6Z(x y:Int)(w:World) :
  Calls Tryz.prog 183 #[.agg #[.int .i64 x,.int .i64 y]] w λe w'=>e=.returned (.bool (dP x y))/\ac w w':=by
 go_enter Tryz.func183,Tryz.ntmps183;go_wp2;all_goals
  go_ret;exact⟨a4F (Bool.eq_iff_iff.2 (by simp[dP];omega)),ag⟩
def lV(n:Int):Int:=if 0<n then 1 else if n<0 then -1 else 0
attribute [local go_sem] aL dz
theorem a60(ax ay bx by' px py:Int)(w:World)(h1:I64 (bx-ax))(h2:I64 (by'-ay))(h3:I64 (px-ax))(h4:I64 (py-ay))
  (h5:I64 ((bx-ax)*(py-ay))) (h6:I64 ((by'-ay)*(px-ax))) (h7:I64 ((bx-ax)*(py-ay)-(by'-ay)*(px-ax))) :
  Calls Tryz.prog 250 #[.agg #[.int .i64 ax,.int .i64 ay],.agg #[.int .i64 bx,.int .i64 by'],.agg #[.int .i64 px,.int .i64 py]] w λe w'=>e=.returned (.int .i64 (lV ((bx-ax)*(py-ay)-(by'-ay)*(px-ax))))/\ac w w':=by
 go_enter Tryz.func250,Tryz.ntmps250
 go_wp2
 refine uT (λW=>ck W w.heap.size 0 [ax,ay]/\ck W (w.heap.size+1) 0 [bx,by']/\ck W (w.heap.size+1+1) 0 [px,py]) ?_
 repeat (first|refine gQ ?_|refine gP ?_)
 refine xo (.agg #[.int .i64 (bx-ax),.int .i64 (by'-ay)]) (λW hW=>UG _ _ _ _ _ h1 h2) ?_
 repeat (first|refine gQ ?_|refine gP ?_)
 refine xo (.agg #[.int .i64 (px-ax),.int .i64 (py-ay)]) (λW hW=>UG _ _ _ _ _ h3 h4) ?_
 refine xo (.int .i64 ((bx-ax)*(py-ay)-(by'-ay)*(px-ax))) (λW hW=>a6Y _ _ _ _ _ h5 h6 h7) ?_
 repeat (first|refine gQ ?_|refine gP ?_)
 rintro W ⟨hx,hc⟩
 have hx0:ac w W:=ac.step ag hx
 clear hx hc
 obtain⟨h7a,h7b⟩:=h7
 go_wp2
 all_goals
  go_ret
  exact⟨a4G (by unfold lV;(repeat' split)<;>omega),hx0⟩
end
set_option maxHeartbeats 2000000
set_option maxRecDepth 100000
section
attribute [local go_sem] aL dz
def fH:Nat->Int×Int->Int×Int
 | 0,p=>p|n+1,p=>(-(fH n p).2,(fH n p).1)
def uk(b:Bool)(p:Int×Int):Int×Int:=if b then (-p.1,p.2) else p
def kL(ax ay t:Int)(m:Bool)(x y:Int):Int×Int:=((fH t.toNat (uk m (x,y))).1+ax,(fH t.toNat (uk m (x,y))).2+ay)
theorem a61(ax ay t:Int)(m:Bool)(w:World)(h:0<=t/\t<=3) :
  Calls Tryz.prog 87 #[.agg #[.int .i64 ax,.int .i64 ay,.int .i64 t,.bool m]] w λe w'=>e=.returned (.int .i64 t)/\ac w w':=by
 obtain rfl|rfl|rfl|rfl:t=0\/t=1\/t=2\/t=3:=by omega
 all_goals
  go_enter Tryz.func87,Tryz.ntmps87;go_wp2;go_ret;exact⟨rfl,ag⟩
theorem wrap_in{x:Int}(h:I64 x):IntKind.i64.wrap x=x:=IntWalk.i64_in _ h
theorem a5s{P:Program}{w:World}(ts:Array TypeId)(t:TypeId)(x y:Int):(Builtin.max_ ts t #[.int .i64 x,.int .i64 y]).run P w=.ok (.int .i64 (max x y)) w:=by
 have h:(Builtin.max_ ts t #[.int .i64 x,.int .i64 y]).run P w=.ok (.int .i64 (if y>x then y else x)) w:=by
  simp[Builtin.max_,Builtin.max2]
 rw[h];congr 2;split<;>omega
theorem a5u{P:Program}{w:World}(ts:Array TypeId)(t:TypeId)(x y:Int):(Builtin.min_ ts t #[.int .i64 x,.int .i64 y]).run P w=.ok (.int .i64 (min x y)) w:=by
 have h:(Builtin.min_ ts t #[.int .i64 x,.int .i64 y]).run P w=.ok (.int .i64 (if y<x then y else x)) w:=by
  simp[Builtin.min_,Builtin.min2]
 rw[h];congr 2;split<;>omega
theorem a5t{P:Program}{w:World}(ts:Array TypeId)(t:TypeId)(x y z u:Int):(Builtin.max_ ts t #[.int .i64 x,.int .i64 y,.int .i64 z,.int .i64 u]).run P w=.ok (.int .i64 (max (max x y) (max z u))) w:=by
 have h:(Builtin.max_ ts t #[.int .i64 x,.int .i64 y,.int .i64 z,.int .i64 u]).run P w=.ok (.int .i64 (if u>(if z>(if y>x then y else x) then z else (if y>x then y else x)) then u else (if z>(if y>x then y else x) then z else (if y>x then y else x)))) w:=by
  simp[Builtin.max_,Builtin.max2]
 rw[h];congr 2
 (repeat' split)<;>omega
end
set_option maxHeartbeats 1000000
set_option maxRecDepth 100000
section
attribute [local go_sem] aL dz
def am(n m:Int):Int:=(n.tmod m+m).tmod m
theorem En(n:Int){m:Int}(h:0<m) : -m<n.tmod m/\n.tmod m<m :=
 by
 have h1:=Int.tmod_lt_of_pos n h;have h2:=Int.tmod_lt_of_pos (-n) h;rw[Int.neg_tmod] at h2;omega
theorem lK(n:Int){m:Int}(h:0<m):0<=am n m/\am n m<m:=by
 obtain⟨h1,h2⟩:=En n h;exact⟨Int.tmod_nonneg _ (by omega),Int.tmod_lt_of_pos _ h⟩
theorem Ro(n m:Int)(w:World)(h:0<m/\m<=4294967296) :
  Calls Tryz.prog 53 #[.int .i64 n,.int .i64 m] w λe w'=>e=.returned (.int .i64 (am n m))/\ac w w':=by
 obtain⟨b1,b2⟩:=En n h.1;obtain⟨b3,b4⟩:=lK n h.1;have q1:IntKind.i64.wrap (n.tmod m)=n.tmod m:=wrap_in (by unfold I64;omega);have q2:IntKind.i64.wrap (n.tmod m+m)=n.tmod m+m:=wrap_in (by unfold I64;omega);have q3:IntKind.i64.wrap ((n.tmod m+m).tmod m)=am n m:=wrap_in (by unfold I64;unfold am at *;omega);have mb:(m==0)=false:=by rw[beq_eq_false_iff_ne];omega
 have mn:m≠0:=by omega
 clear b1 b2 b3 b4 h;go_enter Tryz.func53,Tryz.ntmps53;go_wp2;go_ret;exact⟨rfl,ag⟩
def Ints(w:World)(a:Option Addr)(len:Nat)(L:List Int):Prop :=
 len=L.length/\len<=9223372036854775807/\(0<len->∃b o,a=some ⟨b,o,none⟩/\b<w.heap.size/\∀i,i<len->w.cell? ⟨b,o+i,none⟩=some (.int .i64 (L[i]?.getD 0)))
theorem Ints.ext{w w':World}{a:Option Addr}{len:Nat}{L:List Int}(h:Ints w a len L)(hx:ac w w'):Ints w' a len L:=by
 refine⟨h.1,h.2.1,λh0=>?_⟩;obtain⟨b,o,e,hb,hc⟩:=h.2.2 h0;refine⟨b,o,e,Nat.lt_of_lt_of_le hb hx.size,λi hi=>?_⟩;rw[hx.cell (p:=⟨b,o+i,none⟩) hb];exact hc i hi
theorem Ints.lt{w:World}{a:Option Addr}{len:Nat}{L:List Int}(h:Ints w a len L):0<len->∀x,a=some x->x.block<w.heap.size:=λh0 x e=>by
 obtain⟨b,o,e',hb,_⟩:=h.2.2 h0;rw[e'] at e;cases e;exact hb
def pO(w:World)(B:Nat)(a:Option Addr)(len cp k:Nat):Prop :=
 B<w.heap.size/\w.cell? ⟨B,0,none⟩=some (.slice a len cp)/\w.cell? ⟨B,1,none⟩=some (.int .i64 k)/\∀o,w.frozen? ⟨B,o,none⟩=false
structure Past (B:Nat) (w w':World):Prop where
 os:w'.os=w.os
 tape:w'.tape=w.tape
 output:w'.output=w.output
 size:w.heap.size<=w'.heap.size
 block:∀k,k<w.heap.size->k≠B->w'.heap[k]? = w.heap[k]?
theorem Past.below{B n:Nat}{w w':World}(h:Past B w w')(hB:n<=B)(hn:n<=w.heap.size):Below n w w':=⟨h.os,h.tape,h.output,h.size,λk hk=>h.block k (by omega) (by omega)⟩
theorem Past.of_ext{B:Nat}{w w':World}(h:ac w w'):Past B w w':=⟨h.os,h.tape,h.output,h.size,λk hk _=>h.block k hk⟩
theorem Past.step{B:Nat}{w w1 w2:World}(h:Past B w w1)(k:Past B w1 w2):Past B w w2 :=
 ⟨k.os.trans h.os,k.tape.trans h.tape,k.output.trans h.output,Nat.le_trans h.size k.size,λi hi hn=>(k.block i (Nat.lt_of_lt_of_le hi h.size) hn).trans (h.block i hi hn)⟩
theorem Past.set{B:Nat}(w:World)(o:Nat)(v:Value):Past B w (w.setCell ⟨B,o,none⟩ v) :=
 ⟨rfl,rfl,rfl,by simp[World.setCell],λk _ hk=>Below.heap_setCell _ _ _ _ hk⟩
theorem Past.cell{B:Nat}{w w':World}(h:Past B w w'){b:Nat}(o:Nat)(hl:b<w.heap.size)(hb:b≠B):w'.cell? ⟨b,o,none⟩=w.cell? ⟨b,o,none⟩:=World.cell?_of_block (h.block b hl hb)
theorem Past.frozen{B:Nat}{w w':World}(h:Past B w w'){b:Nat}(o:Nat)(hl:b<w.heap.size)(hb:b≠B):w'.frozen? ⟨b,o,none⟩=w.frozen? ⟨b,o,none⟩:=World.frozen?_of_block (h.block b hl hb)
theorem Past.ints{B:Nat}{w w':World}{a:Option Addr}{len:Nat}{L:List Int}(h:Past B w w')(hi:Ints w a len L)(hn:0<len->∀x,a=some x->x.block≠B):Ints w' a len L:=by
 refine⟨hi.1,hi.2.1,λh0=>?_⟩;obtain⟨b,o,e,hb,hc⟩:=hi.2.2 h0;refine⟨b,o,e,Nat.lt_of_lt_of_le hb h.size,λi hi=>?_⟩;rw[h.cell _ hb (hn h0 _ e)];exact hc i hi
theorem pO.ext{w w':World}{B:Nat}{a:Option Addr}{len cp k:Nat}(h:pO w B a len cp k)(hx:ac w w'):pO w' B a len cp k:=by
 obtain⟨h1,h2,h3,h4⟩:=h;exact⟨Nat.lt_of_lt_of_le h1 hx.size,(hx.cell (p:=⟨B,0,none⟩) h1).trans h2,(hx.cell (p:=⟨B,1,none⟩) h1).trans h3,λo=>(hx.frozen (p:=⟨B,o,none⟩) h1).trans (h4 o)⟩
theorem pO.set{w:World}{B:Nat}{a:Option Addr}{len cp k:Nat}(h:pO w B a len cp k)(j:Nat):pO (w.setCell ⟨B,1,none⟩ (.int .i64 j)) B a len cp j:=by
 obtain⟨h1,h2,h3,h4⟩:=h;refine⟨by simpa[World.setCell] using h1,?_,?_,λo=>?_⟩
 ·go_simp
 ·go_simp
 ·go_simp
def o9(L:List Int)(k:Nat)(n:Int):Int:=if k<L.length then am (L[k]?.getD 0) n else 0
def qH(L:List Int)(k:Nat):Nat:=if k<L.length then k+1 else k
theorem Qp(L:List Int)(k:Nat){n:Int}(h:0<n):0<=o9 L k n/\o9 L k n<n:=by
 unfold o9;split
 ·exact lK _ h
 ·omega
end
section
def nd(v:Value):Prop:=∀z,v ≠ .int .u32 z
def lY(w:World)(n:Nat)(f:Nat->List (Int×Nat))(v:Value):Prop :=
 ∃a c,v=.slice a n c/\n<=c/\c<=maxLen/\∀i,i<n->∃g o xs,∃fr:Nat×Nat,a=some ⟨g,o,none⟩/\w.heap[g]? = some (.cells xs tE fr)/\o+i*7<=xs.size/\(∃d,xs.toList.drop (o+i*7)=(f i).map (λx=>Value.int .i64 x.1)++d)/\∀x∈f i,x.1.natAbs<=x.2/\I64 x.1
theorem lY.to{w w':World}{n:Nat}{f:Nat->List (Int×Nat)}{v:Value}(h:lY w n f v)(hw:∀(g:Nat) (xs:Array Value) (fr:Nat×Nat),w.heap[g]? = some (.cells xs tE fr)->w'.heap[g]? = some (.cells xs tE fr)):lY w' n f v:=by
 obtain⟨a,c,e,h1,h2,h3⟩:=h;exact⟨a,c,e,h1,h2,λi hi=>by obtain⟨g,o,xs,fr,k1,k2,k3⟩:=h3 i hi;exact⟨g,o,xs,fr,k1,hw g xs fr k2,k3⟩⟩
theorem lY.one{w:World}{n:Nat}{f:Nat->List (Int×Nat)}{v:Value}:lY w n f v->nd v/\v.oneCell'=true
 | ⟨_,_,e,_⟩=>by subst e;exact⟨(λz h=>nomatch h),rfl⟩
def Dat.R(w:World)(cs:List Value):Dat->Prop
 | .num x=>∃n p l c,cs=[.bool n,.slice p l c]/\NR w n p l c x|.zi z B=>(∃n p l c,cs=[.bool n,.slice p l c]/\NR w n p l c (ai z))/\z.natAbs<=B|.ed n f=>∃v,cs=[v]/\lY w n f v
theorem Dat.ext{w w':World}{cs:List Value}(hx:ac w w'):∀ {D:Dat},D.R w cs->D.R w' cs
 | .num _,⟨n,p,l,c,e,h⟩=>⟨n,p,l,c,e,h.ext hx⟩|.zi _ _,⟨⟨n,p,l,c,e,h⟩,hb⟩=>⟨⟨n,p,l,c,e,h.ext hx⟩,hb⟩|.ed _ _,⟨v,e,h⟩=>⟨v,e,h.to λ_ _ _ k=>aH k hx⟩
theorem Qw{w:World}{cs:List Value}{x:Nm}(h:∃n p l c,cs=[Value.bool n,.slice p l c]/\NR w n p l c x):cs.length=2/\∀v∈cs,nd v/\v.oneCell'=true:=by
 obtain⟨n,p,l,c,e,h⟩:=h;subst e;refine⟨rfl,λv hv=>?_⟩;simp only[List.mem_cons,List.not_mem_nil,or_false] at hv;rcases hv with rfl|rfl
 ·exact⟨λz h=>(by cases h),rfl⟩
 ·exact⟨λz h=>(by cases h),rfl⟩
theorem Dat.cells{w:World}{cs:List Value}:∀ {D:Dat},D.R w cs->cs.length=D.n/\∀v∈cs,nd v/\v.oneCell'=true
 | .num _,h=>Qw h|.zi _ _,⟨h,_⟩=>Qw h|.ed _ _,⟨v,e,h⟩=>by subst e;exact⟨rfl,λu hu=>by rw[List.mem_singleton.1 hu];exact h.one⟩
theorem Dat.keep{W W':World}{g:Nat}{xs:List Value}{T:TypeId}{cs:List Value}(hg:W.heap[g]? = some (.cells xs.toArray T))(hn:∀v∈xs,nd v)(ho:fR g W W'):∀ {D:Dat},(D.isE=false\/T≠tE)->D.R W cs->D.R W' cs
 | .num _,_,⟨n,p,l,c,e,h⟩=>⟨n,p,l,c,e,RK.nrA (cs:=xs.toArray) (T:=T) (λv hv=>hn v (by simpa using hv)) W W' h hg ho⟩|.ed _ _,hT,⟨v,e,h⟩=>⟨v,e,h.to λg' xs' fr k=>by
  rw[ho.block g' λe=>?_]
  ·exact k
  ·subst e;rw[hg] at k;rcases hT with hT|hT
   ·cases hT
   ·simp only [Option.some.injEq, Obj.cells.injEq] at k;exact hT k.2.1⟩|.zi _ _,_,⟨⟨n,p,l,c,e,h⟩,hb⟩=>⟨⟨n,p,l,c,e,RK.nrA (cs:=xs.toArray) (T:=T) (λv hv=>hn v (by simpa using hv)) W W' h hg ho⟩,hb⟩
def jQ(w:World)(L:List Int)(v:Value):Prop:=∃a len c,v=.slice a len c/\Ints w a len L/\len<=c/\c<=maxLen
theorem jQ.ext{w w':World}{L:List Int}{v:Value}(hx:ac w w'):jQ w L v->jQ w' L v
 | ⟨a,len,c,e,h1,h2⟩=>⟨a,len,c,e,h1.ext hx,h2⟩
theorem jQ.one{w:World}{L:List Int}{v:Value}:jQ w L v->nd v/\v.oneCell'=true
 | ⟨_,_,_,e,_⟩=>by subst e;exact⟨(λz h=>nomatch h),rfl⟩
def om(T:TypeId)(l:List (Int×Nat))(v:Value):Prop:=v=.iface T (.agg (l.map λx=>Value.int .i64 x.1).toArray)/\∀x∈l,x.1.natAbs<=x.2/\I64 x.1
theorem om.one{T:TypeId}{l:List (Int×Nat)}{v:Value}:om T l v->nd v/\v.oneCell'=true
 | ⟨e,_⟩=>by subst e;exact⟨(λz h=>nomatch h),rfl⟩
def fU(R:List It->List Value->Prop)(V:World)(z n:Nat)(f:Nat->List It)(v:Value):Prop :=
 ∃a c,v=.slice a n c/\n<=c/\c<=maxLen/\∀i,i<n->∃g o xs,∃T:TypeId×(Nat×Nat),a=some ⟨g,o,none⟩/\V.heap[g]? = some (.cells xs T.1 T.2)/\o+i*z<=xs.size/\∃cs d,xs.toList.drop (o+i*z)=cs++d/\R (f i) cs
theorem fU.one{R:List It->List Value->Prop}{V:World}{z n:Nat}{f:Nat->List It}{v:Value}:fU R V z n f v->nd v/\v.oneCell'=true
 | ⟨_,_,e,_⟩=>by subst e;exact⟨(λz h=>nomatch h),rfl⟩
theorem fU.imp{R R':List It->List Value->Prop}{V V':World}{z n:Nat}{f:Nat->List It}{v:Value}(hx:ac V V')(hR:∀l cs,R l cs->R' l cs):fU R V z n f v->fU R' V' z n f v
 | ⟨a,c,e,h1,h2,h3⟩=>⟨a,c,e,h1,h2,λi hi=>by
  obtain⟨g,o,xs,T,k1,k2,k3,cs,d,k4,k5⟩:=h3 i hi;exact⟨g,o,xs,T,k1,aH k2 hx,k3,cs,d,k4,hR _ _ k5⟩⟩
def uY(V:World):It->List Value->Prop
 | .i z B,cs=>cs=[.int .i64 z]/\z.natAbs<=B/\I64 z|.k n,cs=>cs=[.int .i64 n]/\I64 n|.v x,cs=>cs=[x]/\okV x=true|.b k,cs=>cs=[.bool k]|.d D,cs=>D.R V cs|.o D,cs=>D.R V cs|.ds L,cs=>∃v,cs=[v]/\jQ V L v|.fc T l,cs=>∃v,cs=[v]/\om T l v|.ln n,cs=>∃p c,cs=[.slice p n c]/\n<=9223372036854775807|_,_=>False
def oy(V:World):List It->List Value->Prop
 | [],cs=>cs=[]|i::l,cs=>∃c d,cs=c++d/\uY V i c/\oy V l d
def xH(V:World):It->List Value->Prop
 | .i z B,cs=>cs=[.int .i64 z]/\z.natAbs<=B/\I64 z|.k n,cs=>cs=[.int .i64 n]/\I64 n|.v x,cs=>cs=[x]/\okV x=true|.b k,cs=>cs=[.bool k]|.d D,cs=>D.R V cs|.o D,cs=>D.R V cs|.ds L,cs=>∃v,cs=[v]/\jQ V L v|.fc T l,cs=>∃v,cs=[v]/\om T l v|.ln n,cs=>∃p c,cs=[.slice p n c]/\n<=9223372036854775807|.ro z n f,cs=>∃v,cs=[v]/\fU (oy V) V z n f v|_,_=>False
def jf(V:World):List It->List Value->Prop
 | [],cs=>cs=[]|i::l,cs=>∃c d,cs=c++d/\xH V i c/\jf V l d
def jx(V:World):It->List Value->Prop
 | .i z B,cs=>cs=[.int .i64 z]/\z.natAbs<=B/\I64 z|.k n,cs=>cs=[.int .i64 n]/\I64 n|.v x,cs=>cs=[x]/\okV x=true|.b k,cs=>cs=[.bool k]|.d D,cs=>D.R V cs|.o D,cs=>D.R V cs|.ds L,cs=>∃v,cs=[v]/\jQ V L v|.fc T l,cs=>∃v,cs=[v]/\om T l v|.ln n,cs=>∃p c,cs=[.slice p n c]/\n<=9223372036854775807|.ro z n f,cs=>∃v,cs=[v]/\fU (jf V) V z n f v|_,_=>False
def aE(V:World):List It->List Value->Prop
 | [],cs=>cs=[]|i::l,cs=>∃c d,cs=c++d/\jx V i c/\aE V l d
def rD(W:World):It->List Value->Prop
 | .i z B,cs=>cs=[.int .i64 z]/\z.natAbs<=B/\I64 z|.k n,cs=>cs=[.int .i64 n]/\I64 n|.v x,cs=>cs=[x]/\okV x=true|.b k,cs=>cs=[.bool k]|.d D,cs=>D.R W cs|.fc T l,cs=>∃v,cs=[v]/\om T l v|_,_=>False
def cE(W:World):List It->List Value->Prop
 | [],cs=>cs=[]|i::l,cs=>∃c d,cs=c++d/\rD W i c/\cE W l d
def eb(V W:World)(r:Nat->Nat)(k:Nat)(T:TypeId)(z n:Nat)(f:Nat->List It)(v:Value):Prop :=
 (v=.slice none 0 0/\n=0)\/∃g c,∃xs:Array Value,v=.slice (some ⟨g,0,none⟩) n c/\(V.heap.size<=g/\∀b,b<k->r b≠g)/\W.heap[g]? = some (.cells xs T)/\n<=c/\c<=maxLen/\xs.size=c*z/\(∀v∈xs.toList,nd v)/\∀i,i<n->∃cs d,xs.toList.drop (i*z)=cs++d/\cs.length=z/\cE W (f i) cs
def m6(V W:World)(r:Nat->Nat)(k:Nat)(T:TypeId)(l:List It)(v:Value):Prop :=
 ∃g o xs,∃fr:Nat×Nat,v=.pointer (some ⟨g,o,none⟩)/\(T=tE\/(V.heap.size<=g/\∀b,b<k->r b≠g))/\W.heap[g]? = some (.cells xs T fr)/\o<=xs.size/\∃c d,xs.toList.drop o=c++d/\cE W l c
def af(V W:World)(r:Nat->Nat)(k:Nat):It->List Value->Prop
 | .i z B,cs=>cs=[.int .i64 z]/\z.natAbs<=B/\I64 z|.k n,cs=>cs=[.int .i64 n]/\I64 n|.v x,cs=>cs=[x]/\okV x=true|.b k,cs=>cs=[.bool k]|.p b o,cs=>b<k/\cs=[.pointer (some ⟨r b,o,none⟩)]|.d D,cs=>D.R W cs|.o D,cs=>D.R V cs|.sl b n z,cs=>b<k/\∃c xs T,cs=[.slice (some ⟨r b,0,none⟩) n c]/\W.heap[r b]? = some (.cells xs T)/\c*z=xs.size/\n<=c/\c<=maxLen|.fp l,cs=>∃g o xs,∃T:TypeId×(Nat×Nat),cs=[.pointer (some ⟨g,o,none⟩)]/\V.heap[g]? = some (.cells xs T.1 T.2)/\o<=xs.size/\∃c d,xs.toList.drop o=c++d/\aE V l c
 | .fs o l n z,cs=>∃g q xs,∃T:TypeId×(Nat×Nat),cs=[.slice (some ⟨g,o,none⟩) n q]/\V.heap[g]? = some (.cells xs T.1 T.2)/\n<=q/\q<=maxLen/\o<=xs.size/\∃c d,xs.toList.drop o=c++d/\aE V l c/\c.length=n*z|.fn f l,cs=>(∀p∈l,p.1<k)/\cs=[.func (.func f) #[] (l.map λp=>Value.pointer (some ⟨r p.1,p.2,none⟩)).toArray]|.ds L,cs=>∃v,cs=[v]/\jQ V L v|.dr L k,cs=>∃v,cs=[v,.int .i64 k]/\jQ V L v/\k<=L.length|.px b z n len,cs=>(b<k/\0<=z/\z<len)/\cs=[.pointer (some ⟨r b,z.toNat*n,none⟩)]|.fc T l,cs=>∃v,cs=[v]/\om T l v|.ln n,cs=>∃p c,cs=[.slice p n c]/\n<=9223372036854775807
 | .ro z n f,cs=>∃v,cs=[v]/\fU (aE V) V z n f v|.ol T z n f,cs=>∃v,cs=[v]/\eb V W r k T z n f v|.gp T l,cs=>∃v,cs=[v]/\m6 V W r k T l v
def aA(V W:World)(r:Nat->Nat)(k:Nat):List It->List Value->Prop
 | [],cs=>cs=[]|i::l,cs=>∃c d,cs=c++d/\af V W r k i c/\aA V W r k l d
def dj(g:Bool)(cs:List Value):Value:=if g then .agg cs.toArray else cs.headD undef
def au(V W:World)(r:Nat->Nat)(k:Nat)(v:V1)(x:Value):Prop:=∃cs,aA V W r k v.l cs/\x=dj v.g cs/\(v.g=false->cs.length=1)
def aV(V W:World)(r:Nat->Nat)(k:Nat):List V1->List Value->Prop
 | [],xs=>xs=[]|v::l,xs=>∃x ys,xs=x::ys/\au V W r k v x/\aV V W r k l ys
def bT(V W:World)(r:Nat->Nat)(k:Nat):AV->Value->Prop
 | .und,x=>x=undef|.any,_=>True|.one v,x=>au V W r k v x|.tup l,x=>∃xs,x=.tuple xs.toArray/\aV V W r k l xs
theorem uY.up{V V':World}{i:It}{cs:List Value}(hx:ac V V')(h:uY V i cs):uY V' i cs:=by
 cases i with|d D=>exact Dat.ext hx h|o D=>exact Dat.ext hx h|ds L=>obtain⟨v,e,h⟩:=h;exact⟨v,e,h.ext hx⟩|ro z n f=>exact h.elim|_=>exact h
theorem oy.ext{V V':World}(hx:ac V V'):∀ {l:List It} {cs:List Value},oy V l cs->oy V' l cs
 | [],_,e=>e|_::_,_,⟨c,d,e,h1,h2⟩=>⟨c,d,e,h1.up hx,oy.ext hx h2⟩
theorem uY.to{V:World}{i:It}{cs:List Value}(h:uY V i cs):xH V i cs:=by
 cases i<;>first|exact h|exact h.elim
theorem oy.toG{V:World}:∀ {l:List It} {cs:List Value},oy V l cs->jf V l cs
 | [],_,e=>e|_::_,_,⟨c,d,e,h1,h2⟩=>⟨c,d,e,h1.to,oy.toG h2⟩
theorem xH.up{V V':World}{i:It}{cs:List Value}(hx:ac V V')(h:xH V i cs):jx V' i cs:=by
 cases i with|d D=>exact Dat.ext hx h|o D=>exact Dat.ext hx h|ds L=>obtain⟨v,e,h⟩:=h;exact⟨v,e,h.ext hx⟩|ro z n f=>obtain⟨v,e,h⟩:=h;exact⟨v,e,h.imp hx λ_ _ h=>(h.ext hx).toG⟩|_=>exact h
theorem jf.up{V V':World}(hx:ac V V'):∀ {l:List It} {cs:List Value},jf V l cs->aE V' l cs
 | [],_,e=>e|_::_,_,⟨c,d,e,h1,h2⟩=>⟨c,d,e,h1.up hx,jf.up hx h2⟩
theorem jf.ext{V V':World}(hx:ac V V'):∀ {l:List It} {cs:List Value},jf V l cs->jf V' l cs
 | [],_,e=>e|i::_,_,⟨c,d,e,h1,h2⟩=>by
  refine⟨c,d,e,?_,jf.ext hx h2⟩;cases i with|d D=>exact Dat.ext hx h1|o D=>exact Dat.ext hx h1|ds L=>obtain⟨v,e,h⟩:=h1;exact⟨v,e,h.ext hx⟩|ro z n f=>obtain⟨v,e,h⟩:=h1;exact⟨v,e,h.imp hx λ_ _ h=>h.ext hx⟩|_=>exact h1
theorem IY{x:Value}(h:okV x=true):nd x/\x.oneCell'=true:=by
 cases x with
 | int k n=>cases k<;>first|(cases h;done)|exact⟨(λz e=>nomatch e),rfl⟩
 | bool b=>exact⟨(λz e=>nomatch e),rfl⟩
 | slice a _ _=>exact⟨(λz e=>nomatch e),rfl⟩
 | func a b c=>exact⟨(λz e=>nomatch e),rfl⟩
 | nilFunc=>exact⟨(λz e=>nomatch e),rfl⟩
 | nilIface=>exact⟨(λz e=>nomatch e),rfl⟩
 | string s=>exact⟨(λz e=>nomatch e),rfl⟩
 | _=>cases h
section
variable {V W W':World} {r r':Nat->Nat} {k k':Nat}
theorem aA.imp(h:∀i cs,af V W r k i cs->af V W' r' k' i cs):∀ {l:List It} {cs:List Value},aA V W r k l cs->aA V W' r' k' l cs
 | [],_,e=>e|_::_,_,⟨c,d,e,h1,h2⟩=>⟨c,d,e,h _ _ h1,aA.imp h h2⟩
theorem au.imp(h:∀i cs,af V W r k i cs->af V W' r' k' i cs){v:V1}{x:Value}:au V W r k v x->au V W' r' k' v x
 | ⟨cs,h1,h2,h3⟩=>⟨cs,h1.imp h,h2,h3⟩
theorem aV.imp(h:∀i cs,af V W r k i cs->af V W' r' k' i cs):∀ {l:List V1} {xs:List Value},aV V W r k l xs->aV V W' r' k' l xs
 | [],_,e=>e|_::_,_,⟨x,ys,e,h1,h2⟩=>⟨x,ys,e,h1.imp h,aV.imp h h2⟩
theorem bT.imp(h:∀i cs,af V W r k i cs->af V W' r' k' i cs):∀ {v:AV} {x:Value},bT V W r k v x->bT V W' r' k' v x
 | .und,_,e=>e|.any,_,_=>trivial|.one _,_,e=>au.imp h e|.tup _,_,⟨xs,e,h1⟩=>⟨xs,e,h1.imp h⟩
theorem aA.impM:∀ {l:List It} (_:∀i∈l,∀cs,af V W r k i cs->af V W' r' k' i cs) {cs:List Value},aA V W r k l cs->aA V W' r' k' l cs
 | [],_,_,e=>e|_::_,h,_,⟨c,d,e,h1,h2⟩=>⟨c,d,e,h _ (List.mem_cons_self ..) _ h1,aA.impM (λi hi=>h i (List.mem_cons_of_mem _ hi)) h2⟩
theorem aV.impM:∀ {l:List V1} (_:∀v∈l,∀i∈v.l,∀cs,af V W r k i cs->af V W' r' k' i cs) {xs:List Value},aV V W r k l xs->aV V W' r' k' l xs
 | [],_,_,e=>e|_::_,h,_,⟨x,ys,e,⟨cs,h1,h3⟩,h2⟩=>⟨x,ys,e,⟨cs,h1.impM (h _ (List.mem_cons_self ..)),h3⟩,aV.impM (λv hv=>h v (List.mem_cons_of_mem _ hv)) h2⟩
theorem bT.impM:∀ {v:AV} (_:∀i∈v.its,∀cs,af V W r k i cs->af V W' r' k' i cs) {x:Value},bT V W r k v x->bT V W' r' k' v x
 | .und,_,_,e=>e|.any,_,_,_=>trivial|.one _,h,_,⟨cs,h1,h3⟩=>⟨cs,h1.impM h,h3⟩|.tup _,h,_,⟨xs,e,h1⟩=>⟨xs,e,h1.impM λv hv i hi=>h i (List.mem_flatMap.2 ⟨v,hv,hi⟩)⟩
structure Fr (V W:World) (r:Nat->Nat) (k:Nat) (W':World) (r':Nat->Nat) (k':Nat):Prop where
 mem:∀g,g<W.heap.size->V.heap.size<=g->(∀b,b<k->r b≠g)->W'.heap[g]? = W.heap[g]?
 msk:∀g,g<W.heap.size->V.heap.size<=g->(∀b,b<k->r b≠g)->∀b,b<k'->r' b≠g
 dat:∀(D:Dat) cs,D.R W cs->D.R W' cs
 ed:∀(g:Nat) (xs:Array Value) (fr:Nat×Nat),W.heap[g]? = some (.cells xs tE fr)->W'.heap[g]? = some (.cells xs tE fr)
theorem rD.mono(h:∀(D:Dat) cs,D.R W cs->D.R W' cs){i:It}{cs:List Value}(hi:rD W i cs):rD W' i cs:=by
 cases i with|d D=>exact h D cs hi|_=>exact hi
theorem cE.mono(h:∀(D:Dat) cs,D.R W cs->D.R W' cs):∀ {l:List It} {cs:List Value},cE W l cs->cE W' l cs
 | [],_,e=>e|_::_,_,⟨c,d,e,h1,h2⟩=>⟨c,d,e,h1.mono h,cE.mono h h2⟩
theorem rD.to{i:It}{cs:List Value}(h:rD W i cs):xH W i cs/\af V W r k i cs:=by
 cases i<;>first|exact⟨h,h⟩|exact h.elim
theorem cE.toG:∀ {l:List It} {cs:List Value},cE W l cs->jf W l cs
 | [],_,e=>e|_::_,_,⟨c,d,e,h1,h2⟩=>⟨c,d,e,(h1.to (V:=W) (r:=λ_=>0) (k:=0)).1,h2.toG⟩
theorem cE.toL:∀ {l:List It} {cs:List Value},cE W l cs->aA V W r k l cs
 | [],_,e=>e|_::_,_,⟨c,d,e,h1,h2⟩=>⟨c,d,e,h1.to.2,h2.toL⟩
theorem eb.fr(F:Fr V W r k W' r' k'){T:TypeId}{z n:Nat}{f:Nat->List It}{v:Value}:eb V W r k T z n f v->eb V W' r' k' T z n f v
 | .inl h=>.inl h|.inr ⟨g,c,xs,e,⟨h1,h2⟩,h3,h4,h5,h6,h7,h8⟩=>by
  have hlt:=(Array.getElem?_eq_some_iff.1 h3).1;exact .inr ⟨g,c,xs,e,⟨h1,F.msk g hlt h1 h2⟩,by rw[F.mem g hlt h1 h2];exact h3,h4,h5,h6,h7,λi hi=>by
   obtain⟨cs,d,k1,k2,k3⟩:=h8 i hi;exact⟨cs,d,k1,k2,k3.mono F.dat⟩⟩
theorem m6.fr(F:Fr V W r k W' r' k'){T:TypeId}{l:List It}{v:Value}:m6 V W r k T l v->m6 V W' r' k' T l v
 | ⟨g,o,xs,fr,e,h1,h2,h3,c,d,h4,h5⟩=>by
  have hlt:=(Array.getElem?_eq_some_iff.1 h2).1;refine⟨g,o,xs,fr,e,h1.imp id λh=>⟨h.1,F.msk g hlt h.1 h.2⟩,?_,h3,c,d,h4,h5.mono F.dat⟩;rcases h1 with h1|⟨h1,h6⟩
  ·subst h1;exact F.ed g xs fr h2
  ·rw[F.mem g hlt h1 h6];exact h2
theorem Fr.ext(hx:ac W W'):Fr V W r k W' r k:=⟨λg h _ _=>hx.block g h,λ_ _ _ h=>h,λ_ _ h=>Dat.ext hx h,λ_ _ _ h=>aH h hx⟩
theorem Fr.grow(hr:∀b,b<k->r' b=r b)(hn:∀b,k<=b->b<k'->W.heap.size<=r' b\/∃b0,b0<k/\r' b=r b0):Fr V W r k W r' k' :=
 ⟨λ_ _ _ _=>rfl,λg hg _ hm b hb e=>by
  rcases Nat.lt_or_ge b k with h|h
  ·rw[hr b h] at e;exact hm b h e
  ·rcases hn b h hb with h1 | ⟨b0, h1, h2⟩
   ·omega
   ·exact hm b0 h1 (h2.symm.trans e),λ_ _ h=>h,λ_ _ _ h=>h⟩
theorem eb.one{T:TypeId}{z n:Nat}{f:Nat->List It}{v:Value}:eb V W r k T z n f v->nd v/\v.oneCell'=true
 | .inl ⟨e,_⟩=>by subst e;exact⟨(λz h=>nomatch h),rfl⟩|.inr ⟨_,_,_,e,_⟩=>by subst e;exact⟨(λz h=>nomatch h),rfl⟩
theorem m6.one{T:TypeId}{l:List It}{v:Value}:m6 V W r k T l v->nd v/\v.oneCell'=true
 | ⟨_,_,_,_,e,_⟩=>by subst e;exact⟨(λz h=>nomatch h),rfl⟩
theorem af.ext(hx:ac W W')(i:It)(cs:List Value):af V W r k i cs->af V W' r k i cs:=by
 cases i with|d D=>exact λh=>Dat.ext hx h|sl b n z=>exact λ⟨h0,c,xs,T,h1,h2,h3⟩=>⟨h0,c,xs,T,h1,aH h2 hx,h3⟩|ol T z n f=>exact λ⟨v,e,h⟩=>⟨v,e,h.fr (Fr.ext hx)⟩|gp T l=>exact λ⟨v,e,h⟩=>⟨v,e,h.fr (Fr.ext hx)⟩|_=>exact id
theorem af.grow(hk:k<=k')(hr:∀b,b<k->r' b=r b)(i:It)(hn:i.fr=false\/∀b,k<=b->b<k'->W.heap.size<=r' b\/∃b0,b0<k/\r' b=r b0)(cs:List Value):af V W r k i cs->af V W r' k' i cs:=by
 cases i with|p b o=>exact λ⟨h1,h2⟩=>⟨Nat.lt_of_lt_of_le h1 hk,by rw[hr b h1];exact h2⟩|sl b n z=>exact λ⟨h0,h⟩=>⟨Nat.lt_of_lt_of_le h0 hk,by rw[hr b h0];exact h⟩|px b z n len=>exact λ⟨⟨h0,h1⟩,h2⟩=>⟨⟨Nat.lt_of_lt_of_le h0 hk,h1⟩,by rw[hr b h0];exact h2⟩|fn f l=>exact λ⟨h1,h2⟩=>⟨λp hp=>Nat.lt_of_lt_of_le (h1 p hp) hk,by rw[h2];congr 3;exact List.map_congr_left λp hp=>by rw[hr _ (h1 p hp)]⟩|ol T z n f=>exact λ⟨v,e,h⟩=>⟨v,e,h.fr (Fr.grow hr (hn.resolve_left λh=>nomatch h))⟩|gp T l=>exact λ⟨v,e,h⟩=>⟨v,e,h.fr (Fr.grow hr (hn.resolve_left λh=>nomatch h))⟩|_=>exact id
theorem Fr.keep{g:Nat}{xs:List Value}{T:TypeId}(hb:∃b,b<k/\r b=g)(hg:W.heap[g]? = some (.cells xs.toArray T))(hn:∀v∈xs,nd v)(ho:fR g W W')(hT:T≠tE):Fr V W r k W' r k :=
 ⟨λg' _ _ hm=>ho.block g' λe=>by obtain⟨b,h1,h2⟩:=hb;exact hm b h1 (h2.trans e.symm),λ_ _ _ h=>h,λ_ _ h=>Dat.keep hg hn ho (.inr hT) h,λg' xs' fr h=>by
  rw[ho.block g' λe=>?_]
  ·exact h
  ·subst e;rw[hg] at h;simp only[Option.some.injEq,Obj.cells.injEq] at h;exact hT h.2.1⟩
theorem af.keep{g:Nat}{xs xs':List Value}{T T':TypeId}(hb:∃b,b<k/\r b=g)(hg:W.heap[g]? = some (.cells xs.toArray T))(hn:∀v∈xs,nd v)(ho:fR g W W')(hg':W'.heap[g]? = some (.cells xs'.toArray T'))(hl:xs'.length=xs.length)(i:It)(hi:It.isE i=false\/T≠tE)(cs:List Value):af V W r k i cs->af V W' r k i cs:=by
 cases i with|d D=>exact λh=>Dat.keep hg hn ho hi h|sl b n z =>
  refine λ⟨h0,c,ys,U,h1,h2,h3,h4⟩=>?_
  by_cases e:r b=g
  ·rw [e] at h2 h1;rw[hg] at h2;cases h2;exact⟨h0,c,xs'.toArray,T',by rw[e];exact h1,by rw[e];exact hg',by rw[h3];simp[hl],h4⟩
  ·exact⟨h0,c,ys,U,h1,by rw[ho.block _ e];exact h2,h3,h4⟩|ol T z n f=>exact λ⟨v,e,h⟩=>⟨v,e,h.fr (Fr.keep hb hg hn ho (hi.resolve_left λh=>nomatch h))⟩|gp T l=>exact λ⟨v,e,h⟩=>⟨v,e,h.fr (Fr.keep hb hg hn ho (hi.resolve_left λh=>nomatch h))⟩|_=>exact id
theorem af.cells{i:It}{cs:List Value}(h:af V W r k i cs):cs.length=i.n/\∀v∈cs,nd v/\v.oneCell'=true:=by
 have one:∀x:Value,nd x->x.oneCell'=true->([x]:List Value).length=1/\∀v ∈ [x],nd v/\v.oneCell'=true:=λx h1 h2=>⟨rfl,λv hv=>by rw[List.mem_singleton.1 hv];exact⟨h1,h2⟩⟩
 cases i with
 | i z B=>obtain⟨rfl,_⟩:=h;exact one _ (λz e=>nomatch e) rfl
 | k n=>obtain⟨rfl,_⟩:=h;exact one _ (λz e=>nomatch e) rfl
 | v x=>obtain⟨rfl,h⟩:=h;exact one _ (IY h).1 (IY h).2
 | b k=>cases h;exact one _ (λz e=>nomatch e) rfl
 | p b o=>obtain⟨_,rfl⟩:=h;exact one _ (λz e=>nomatch e) rfl
 | d D=>exact Dat.cells h
 | o D=>exact Dat.cells h
 | sl b n z=>obtain⟨_,c,xs,T,rfl,_⟩:=h;exact one _ (λz e=>nomatch e) rfl
 | fp l=>obtain⟨g,o,xs,T,rfl,_⟩:=h;exact one _ (λz e=>nomatch e) rfl
 | fs o l n z=>obtain⟨g,q,xs,T,rfl,_⟩:=h;exact one _ (λz e=>nomatch e) rfl
 | fn f l=>obtain⟨_,rfl⟩:=h;exact one _ (λz e=>nomatch e) rfl
 | ds L=>obtain⟨v,rfl,h⟩:=h;exact one _ h.one.1 h.one.2
 | fc T l=>obtain⟨v,rfl,h⟩:=h;exact one _ h.one.1 h.one.2
 | ln n=>obtain⟨p,c,rfl,_⟩:=h;exact one _ (λz e=>nomatch e) rfl
 | ro z n f=>obtain⟨v,rfl,h⟩:=h;exact one _ h.one.1 h.one.2
 | ol T z n f=>obtain⟨v,rfl,h⟩:=h;exact one _ h.one.1 h.one.2
 | gp T l=>obtain⟨v,rfl,h⟩:=h;exact one _ h.one.1 h.one.2
 | px b z n len=>obtain⟨_,rfl⟩:=h;exact one _ (λz e=>nomatch e) rfl
 | dr L k =>
  obtain⟨v,rfl,h,_⟩:=h;refine⟨rfl,λu hu=>?_⟩;simp only[List.mem_cons,List.not_mem_nil,or_false] at hu;rcases hu with rfl|rfl
  ·exact h.one
  ·exact⟨(λz e=>nomatch e),rfl⟩
theorem CX{U:World}{x:Nm}{cs:List Value}(h:∃n p l c,cs=[Value.bool n,.slice p l c]/\NR U n p l c x):aA V W r k [.v (.bool x.neg),.ln x.d.length] cs:=by
 obtain⟨n,p,l,c,rfl,h1,h2,h3⟩:=h;exact⟨[_],[_],rfl,⟨by rw[h1],rfl⟩,[_],[],rfl,⟨p,c,by rw[h2],Nat.le_trans h3.le h3.max⟩,rfl⟩
theorem aA.cells:∀ {l:List It} {cs:List Value},aA V W r k l cs->cs.length=(l.map It.n).sum/\∀v∈cs,nd v/\v.oneCell'=true
 | [],_,e=>by cases e;simp|i::l,_,⟨c,d,e,h1,h2⟩=>by
  subst e;obtain⟨a1,a2⟩:=h1.cells;obtain⟨b1,b2⟩:=aA.cells h2;refine⟨by simp[a1,b1],λv hv=>?_⟩;rcases List.mem_append.1 hv with hv|hv
  ·exact a2 v hv
  ·exact b2 v hv
theorem aA.app:∀ {l m:List It} {cs ds:List Value},aA V W r k l cs->aA V W r k m ds->aA V W r k (l++m) (cs++ds)
 | [],_,_,_,e,h=>by cases e;exact h|i::l,_,_,_,⟨c,d,e,h1,h2⟩,h=>⟨c,d++_,by rw[e,List.append_assoc],h1,aA.app h2 h⟩
theorem a2O{i:It}{cs:List Value}(h:af V W r k i cs):aA V W r k (I1 i) cs:=by
 have one:aA V W r k [i] cs:=⟨cs,[],by simp,h,rfl⟩;cases i with
 | d D =>
  cases D with
  | num x=>exact CX h
  | zi z B=>exact CX h.1
  | ed n f=>exact one
 | o D =>
  cases D with
  | num x=>exact CX h
  | zi z B=>exact CX h.1
  | ed n f=>exact one
 | _=>exact one
theorem QN:∀ {l:List It} {cs:List Value},aA V W r k l cs->aA V W r k (I2 l) cs
 | [],_,e=>e|i::l,_,⟨c,d,e,h1,h2⟩=>by
  rw[e];exact (a2O h1).app (QN h2)
theorem Un{v:Value}{i:It}(h:tc v=some i):af V W r k i [v]:=by
 unfold tc at h;split at h
 ·cases h;rfl
 ·split at h
  ·split at h
   ·rename_i hl;unfold lim at hl;cases h;exact⟨rfl,by unfold I64;omega⟩
   ·cases h
  ·split at h
   ·cases h;exact⟨rfl,by assumption⟩
   ·cases h
 ·split at h
  ·cases h;exact⟨rfl,by assumption⟩
  ·cases h
theorem pK:∀ {l:List Value} {is:List It},mV l=some is->aA V W r k is l
 | [],_,h=>by cases h;rfl|v::l,is,h=>by
  unfold mV at h;split at h
  ·cases h;exact⟨[v],l,rfl,Un (by assumption),pK (by assumption)⟩
  ·cases h
theorem qf:∀ {l:List It} {n:Nat} {a b:List It} {cs:List Value},bE l n=some (a,b)->aA V W r k l cs->aA V W r k a (cs.take n)/\aA V W r k b (cs.drop n)/\n<=cs.length
 | [],0,_,_,_,h,e=>by unfold bE at h;cases h;cases e;exact⟨rfl,rfl,Nat.le_refl _⟩|[],n+1,_,_,_,h,_=>by unfold bE at h;cases h|i::l,0,_,_,cs,h,e=>by unfold bE at h;cases h;exact⟨rfl,e,Nat.zero_le _⟩|i::l,n+1,a,b,cs,h,⟨c,d,e,h1,h2⟩=>by
  unfold bE at h;split at h
  ·rename_i hle;split at h
   ·rename_i x y hc;cases h;obtain⟨k1,k2,k3⟩:=qf hc h2;have hl:=h1.cells.1;subst e;have e1:List.take (n+1) (c++d)=c++d.take (n+1-i.n):=by rw[List.take_append,List.take_of_length_le (by omega),hl]
    have e2:List.drop (n+1) (c++d)=d.drop (n+1-i.n):=by rw[List.drop_append,List.drop_eq_nil_of_le (by omega),hl];rfl
    rw[e1,e2];exact⟨⟨c,_,rfl,h1,k1⟩,k2,by rw[List.length_append];omega⟩
   ·cases h
  ·cases h
theorem Ue{l x:List It}{o n:Nat}{cs:List Value}(h:wV l o n=some x)(hr:aA V W r k l cs):aA V W r k x ((cs.drop o).take n)/\o+n<=cs.length:=by
 unfold wV at h;cases h1:bE l o with|none=>simp[h1] at h|some q =>
  obtain⟨a,b⟩:=q;cases h2:bE b n with|none=>simp[h1,h2] at h|some q =>
   obtain⟨c,d⟩:=q;simp only[h1,h2,Option.bind_some,Option.map_some,Option.some.injEq] at h;subst h;obtain⟨k1,k2,k3⟩:=qf h1 hr;obtain⟨k4,k5,k6⟩:=qf h2 k2;exact⟨k4,by simp at k6;omega⟩
theorem Ju{l x y:List It}{o n:Nat}{cs ds:List Value}(h:uC l o n x=some y)(hr:aA V W r k l cs)(hx:aA V W r k x ds)(hl:ds.length=n):aA V W r k y (cs.take o++(ds++cs.drop (o+ds.length)))/\o+ds.length<=cs.length:=by
 unfold uC at h;cases h1:bE l o with|none=>simp[h1] at h|some q =>
  obtain⟨a,b⟩:=q;cases h2:bE b n with|none=>simp[h1,h2] at h|some q =>
   obtain⟨c,d⟩:=q;simp only[h1,h2,Option.bind_some,Option.map_some,Option.some.injEq] at h;subst h;obtain⟨k1,k2,k3⟩:=qf h1 hr;obtain⟨k4,k5,k6⟩:=qf h2 k2;rw[hl];rw[List.drop_drop] at k5;exact⟨k1.app (hx.app k5),by simp at k6;omega⟩
def fS(V W:World)(r:Nat->Nat)(k:Nat)(l:List It)(cs:List Value):Prop:=∃c d,cs=c++d/\aA V W r k l c/\∀v∈d,nd v
theorem aA.pre{l:List It}{cs:List Value}(h:aA V W r k l cs):fS V W r k l cs:=⟨cs,[],(List.append_nil _).symm,h,nofun⟩
theorem fS.imp(h:∀i cs,af V W r k i cs->af V W' r' k' i cs){l:List It}{cs:List Value}:fS V W r k l cs->fS V W' r' k' l cs
 | ⟨c,d,e,h1,h2⟩=>⟨c,d,e,h1.imp h,h2⟩
theorem fS.impM{l:List It}(h:∀i∈l,∀cs,af V W r k i cs->af V W' r' k' i cs){cs:List Value}:fS V W r k l cs->fS V W' r' k' l cs
 | ⟨c,d,e,h1,h2⟩=>⟨c,d,e,h1.impM h,h2⟩
theorem fS.nd{l:List It}{cs:List Value}(h:fS V W r k l cs):∀v∈cs,nd v:=by
 obtain⟨c,d,rfl,h1,h2⟩:=h;intro v hv;rcases List.mem_append.1 hv with hv|hv
 ·exact (h1.cells.2 v hv).1
 ·exact h2 v hv
theorem Jv{l x y:List It}{o n:Nat}{cs ds:List Value}(h:uC l o n x=some y)(hr:fS V W r k l cs)(hx:aA V W r k x ds)(hl:ds.length=n):fS V W r k y (cs.take o++(ds++cs.drop (o+ds.length)))/\o+ds.length<=cs.length:=by
 obtain⟨c,d,rfl,h1,h2⟩:=hr;obtain⟨k1,k2⟩:=Ju h h1 hx hl;refine⟨⟨_,d,?_,k1,h2⟩,by rw[List.length_append];omega⟩;rw[List.take_append_of_le_length (by omega),List.drop_append_of_le_length (by omega)];simp only[List.append_assoc]
theorem NM{l a b:List It}{n:Nat}{cs:List Value}(h:bE l n=some (a,b))(hr:fS V W r k l cs):aA V W r k a (cs.take n)/\fS V W r k b (cs.drop n)/\n<=cs.length:=by
 obtain⟨c,d,rfl,h1,h2⟩:=hr;obtain⟨k1,k2,k3⟩:=qf h h1;rw[List.take_append_of_le_length k3,List.drop_append_of_le_length k3];exact⟨k1,⟨_,d,rfl,k2,h2⟩,by rw[List.length_append];omega⟩
end
end
end Go.Proofs.YtghemgdfmldoeaaGreat
