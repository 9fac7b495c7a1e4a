import Derived.Test.YtghemgdfmldoeaaGreatP13
set_option linter.unusedVariables false
set_option linter.unusedSimpArgs false
namespace Go.Proofs.YtghemgdfmldoeaaGreat
open Go.RowKit
set_option maxHeartbeats 1000000
set_option maxRecDepth 100000
section
def kJ(w:World)(a:Nm)(e:Ending)(w':World):Prop :=
 ∃n p l c,e=.returned (.agg #[.bool n,.slice p l c])/\NR w' n p l c a/\New w p/\ac w w'
theorem PY(n:Int)(lo hi:Nat)(neg:Bool)(hn:neg=decide (n<0))(hv:lo+4294967296*hi=n.natAbs)(hs:n.natAbs<4294967296 ^ 64):gY neg [lo,hi]=(ai n,true):=by
 rw[sw];have e:(if neg=true then -(val [lo,hi]:Int) else (val [lo,hi]:Int))=n:=by
  have:val [lo,hi]=n.natAbs:=by simp[val];omega
  rw[this,hn];simp only[decide_eq_true_eq];split<;>omega
 rw[e,fit,small,if_pos (by simpa using hs)]
theorem Ta(W:World)(x y:Int)(lo hi B:Nat)(T:TypeId)(hx:x=(lo:Int))(hy:y=(hi:Int))(h1:lo<4294967296)(h2:hi<4294967296)(hB:B=W.heap.size) :
  Row (W.alloc (.cells #[.int .u32 x,.int .u32 y] T)) (some ⟨B,0,none⟩) 2 [lo,hi]:=by
 subst hx hy hB;refine⟨by simp,by omega,ao.cons h1 (ao.cons h2 ao.nil),λ_=>⟨_,0,rfl,by simp,λi hi'=>?_⟩⟩;have h:=heap_alloc_new W (.cells #[.int .u32 (lo:Int),.int .u32 (hi:Int)] T);rw[cell_of_row _ _ (0+i) _ _ _ h];simp only[List.length_cons,List.length_nil] at hi';match i,hi' with|0,_=>rfl|1,_=>rfl
theorem CN(n:Int)(w:World)(h1 : -9223372036854775808<=n)(h2:n<=9223372036854775807) :
  Calls Tryz.prog 96 #[.int .i64 n] w (kJ w (ai n)):=by
 have hp:(18446744073709551616:Nat)<=4294967296 ^ 64:=Nat.le_trans (by decide) (Nat.pow_le_pow_right (n:=4294967296) (i:=2) (by decide) (by decide));have HS:Hid (n.natAbs<4294967296 ^ 64):=Nat.lt_of_lt_of_le (show n.natAbs<18446744073709551616 by omega) hp;clear hp;by_cases hn:n<0
 ·go_enter Tryz.func96, Tryz.ntmps96;go_wp2_with fail;have e0:IntKind.u64.wrap n=n+18446744073709551616:=u64_neg _ (by omega);have e1:IntKind.u64.wrap (-(n+18446744073709551616)) = -n:=by rw[u64_neg _ (by omega)];omega
  rw[e0,e1];clear e0 e1;have M:=Lib.hid (PY n (n.natAbs%4294967296) (n.natAbs/4294967296) true (by simp[hn]) (by omega) HS.out);refine (nN true [n.natAbs%4294967296,n.natAbs/4294967296] _ _ _ _ (Ta _ _ _ _ _ _ _ (by omega) (by omega) (by omega) (by omega) (by simp)) rfl).mono ?_;rintro e w1 ⟨n',p',l',c',rfl,hnr,hnew,hx⟩;rw[M.out] at hnr ⊢;have hx0:ac w w1:=ac.step ag hx;obtain⟨_,⟨_,_,_⟩,_,_,_⟩:=lG hx w.heap.size;go_wp2;refine bodyPost_ret (v:=.agg #[.bool n',.slice p' l' c']) (by simp[results,Tryz.results96,go_sem, *]) rfl ?_
  exact⟨n',p',l',c',rfl,(by repeat (first|assumption|refine NR.set ?_ (by assumption) _ (by first|(simp;done)|(simp;omega)|omega) _|refine NR.alloc ?_ _)),hnew.mono (by simp;omega),ag⟩
 ·go_enter Tryz.func96, Tryz.ntmps96;go_wp2_with fail;have M:=Lib.hid (PY n (n.natAbs%4294967296) (n.natAbs/4294967296) false (by simp[hn]) (by omega) HS.out);refine (nN false [n.natAbs%4294967296,n.natAbs/4294967296] _ _ _ _ (Ta _ _ _ _ _ _ _ (by omega) (by omega) (by omega) (by omega) (by simp)) rfl).mono ?_;rintro e w1 ⟨n',p',l',c',rfl,hnr,hnew,hx⟩;rw[M.out] at hnr ⊢;have hx0:ac w w1:=ac.step ag hx;obtain⟨_,⟨_,_,_⟩,_,_,_⟩:=lG hx w.heap.size;go_wp2;refine bodyPost_ret (v:=.agg #[.bool n',.slice p' l' c']) (by simp[results,Tryz.results96,go_sem, *]) rfl ?_
  exact⟨n',p',l',c',rfl,(by repeat (first|assumption|refine NR.set ?_ (by assumption) _ (by first|(simp;done)|(simp;omega)|omega) _|refine NR.alloc ?_ _)),hnew.mono (by simp;omega),ag⟩
end
set_option maxRecDepth 100000
section
structure ah where
 f:FuncId
 g:List V1->Option (AV×List Prop)
 ok:∀args res ps,g args=some (res,ps)->aw ps->ae Tryz.prog f args res
def tab:List ah->FuncId->Option (List V1->Option (AV×List Prop))
 | [],_=>none|c::l,f=>if c.f=f then some c.g else tab l f
theorem Ek:∀l:List ah,LG Tryz.prog (tab l)
 | [],_,_,_,_,_,h=>by cases h|c::l,f,g,args,res,ps,h=>by
  unfold tab at h;split at h
  ·rename_i e;cases h;subst e;exact c.ok args res ps
  ·exact Ek l f g args res ps h
theorem qU (f : FuncId) (fn : Func) (h : Tryz.prog.funcs[f]? = some fn) : (fn.name == "runtime.NumGoroutine") = false := by
 have h0 : (Tryz.prog.funcs.toList.all λfn => !(fn.name == "runtime.NumGoroutine")) = true := by kernel_rfl
 have:=List.all_eq_true.1 h0 fn (by rw[Array.mem_toList_iff];exact Array.mem_of_getElem? h);simpa using this
theorem cj{x:Sc}(h:x.kind=0):∃z,x=.i z:=by cases x<;>first|exact⟨_,rfl⟩|cases h
theorem wS{x:Sc}(h:x.kind=1):∃z,x=.b z:=by cases x<;>first|exact⟨_,rfl⟩|cases h
theorem bC{xs:List Sc}{b:Nat}{n:List Nat}(h:xs.map Sc.kind=b::n):∃x l,xs=x::l/\x.kind=b/\l.map Sc.kind=n:=by
 cases xs with|nil=>cases h|cons x l=>simp only[List.map_cons,List.cons.injEq] at h;exact⟨x,l,rfl,h.1,h.2⟩
theorem lh{xs:List Sc}(h:xs.map Sc.kind=[]):xs=[]:=by simpa using h
theorem vz{t:TypeId}{u v:Value}{e:Bool}{w:World}(hb:binOp .eql t u v=(do pure (.bool (<- Op.equal t u v))))(h:(binOp .eql t u v).run Tryz.prog w=.ok (.bool e) w):(Op.equal t u v).run Tryz.prog w=.ok e w:=by
 rw[hb,Sem.run_bind] at h;cases hr:(Op.equal t u v).run Tryz.prog w with|ok b w' =>
  rw[hr] at h;simp only[Result.andThen_ok,Sem.run_pure,Result.ok.injEq,Value.bool.injEq] at h;rw[h.1,h.2]|halt x w'=>rw[hr] at h;cases h
theorem Zs:kq Tryz.prog 24 [0,0]:=by
 refine⟨by kernel_rfl,λxs ys hx hy w=>?_⟩;obtain⟨_,_,rfl,h1,hx⟩:=bC hx;obtain⟨_,_,rfl,h2,hx⟩:=bC hx;obtain rfl:=lh hx;obtain⟨_,_,rfl,h3,hy⟩:=bC hy;obtain⟨_,_,rfl,h4,hy⟩:=bC hy;obtain rfl:=lh hy;obtain⟨a,rfl⟩:=cj h1;obtain⟨b,rfl⟩:=cj h2;obtain⟨c,rfl⟩:=cj h3;obtain⟨d,rfl⟩:=cj h4;exact vz rfl (Zy w a b c d)
theorem Zo:kq Tryz.prog 175 [1,1]:=by
 refine⟨by kernel_rfl,λxs ys hx hy w=>?_⟩;obtain⟨_,_,rfl,h1,hx⟩:=bC hx;obtain⟨_,_,rfl,h2,hx⟩:=bC hx;obtain rfl:=lh hx;obtain⟨_,_,rfl,h3,hy⟩:=bC hy;obtain⟨_,_,rfl,h4,hy⟩:=bC hy;obtain rfl:=lh hy;obtain⟨a,rfl⟩:=wS h1;obtain⟨b,rfl⟩:=wS h2;obtain⟨c,rfl⟩:=wS h3;obtain⟨d,rfl⟩:=wS h4;cases a<;>cases b<;>cases c<;>cases d<;>kernel_rfl
theorem Zu(w:World)(a0 a1 a2 a3 a4 a5 a6 b0 b1 b2 b3 b4 b5 b6:Int):(binOp .eql 87 (.agg #[.int .i64 a0,.int .i64 a1,.int .i64 a2,.int .i64 a3,.int .i64 a4,.int .i64 a5,.int .i64 a6]) (.agg #[.int .i64 b0,.int .i64 b1,.int .i64 b2,.int .i64 b3,.int .i64 b4,.int .i64 b5,.int .i64 b6])).run Tryz.prog w=.ok (.bool (a0==b0&&(a1==b1&&(a2==b2&&(a3==b3&&(a4==b4&&(a5==b5&&a6==b6))))))) w:=by
 by_cases h0:a0=b0;rotate_left
 ·have g0 : (a0 == b0) = false := by simpa using h0
  go_simp
 subst h0;by_cases h1:a1=b1;rotate_left
 ·have g1 : (a1 == b1) = false := by simpa using h1
  go_simp
 subst h1;by_cases h2:a2=b2;rotate_left
 ·have g2 : (a2 == b2) = false := by simpa using h2
  go_simp
 subst h2;by_cases h3:a3=b3;rotate_left
 ·have g3 : (a3 == b3) = false := by simpa using h3
  go_simp
 subst h3;by_cases h4:a4=b4;rotate_left
 ·have g4 : (a4 == b4) = false := by simpa using h4
  go_simp
 subst h4;by_cases h5:a5=b5;rotate_left
 ·have g5 : (a5 == b5) = false := by simpa using h5
  go_simp
 subst h5;by_cases h6:a6=b6;rotate_left
 ·have g6 : (a6 == b6) = false := by simpa using h6
  go_simp
 subst h6;go_simp
theorem Zn:kq Tryz.prog 87 [0,0,0,0,0,0,0]:=by
 refine⟨by kernel_rfl,λxs ys hx hy w=>?_⟩;obtain⟨_,_,rfl,h0,hx⟩:=bC hx;obtain⟨_,_,rfl,h1,hx⟩:=bC hx;obtain⟨_,_,rfl,h2,hx⟩:=bC hx;obtain⟨_,_,rfl,h3,hx⟩:=bC hx;obtain⟨_,_,rfl,h4,hx⟩:=bC hx;obtain⟨_,_,rfl,h5,hx⟩:=bC hx;obtain⟨_,_,rfl,h6,hx⟩:=bC hx;obtain rfl:=lh hx;obtain⟨_,_,rfl,k0,hy⟩:=bC hy;obtain⟨_,_,rfl,k1,hy⟩:=bC hy;obtain⟨_,_,rfl,k2,hy⟩:=bC hy;obtain⟨_,_,rfl,k3,hy⟩:=bC hy;obtain⟨_,_,rfl,k4,hy⟩:=bC hy;obtain⟨_,_,rfl,k5,hy⟩:=bC hy;obtain⟨_,_,rfl,k6,hy⟩:=bC hy;obtain rfl:=lh hy;obtain⟨_,rfl⟩:=cj h0;obtain⟨_,rfl⟩:=cj k0;obtain⟨_,rfl⟩:=cj h1;obtain⟨_,rfl⟩:=cj k1;obtain⟨_,rfl⟩:=cj h2
 obtain⟨_,rfl⟩:=cj k2;obtain⟨_,rfl⟩:=cj h3;obtain⟨_,rfl⟩:=cj k3;obtain⟨_,rfl⟩:=cj h4;obtain⟨_,rfl⟩:=cj k4;obtain⟨_,rfl⟩:=cj h5;obtain⟨_,rfl⟩:=cj k5;obtain⟨_,rfl⟩:=cj h6;obtain⟨_,rfl⟩:=cj k6;exact vz rfl (Zu w _ _ _ _ _ _ _ _ _ _ _ _ _ _)
theorem Zt(w:World)(a0 a1 a2 a3 a4 a5 a6 b0 b1 b2 b3 b4 b5 b6:Int):(binOp .eql 108 (.agg #[.int .i64 a0,.int .i64 a1,.int .i64 a2,.int .i64 a3,.int .i64 a4,.int .i64 a5,.int .i64 a6]) (.agg #[.int .i64 b0,.int .i64 b1,.int .i64 b2,.int .i64 b3,.int .i64 b4,.int .i64 b5,.int .i64 b6])).run Tryz.prog w=.ok (.bool (a0==b0&&(a1==b1&&(a2==b2&&(a3==b3&&(a4==b4&&(a5==b5&&a6==b6))))))) w:=by
 by_cases h0:a0=b0;rotate_left
 ·have g0 : (a0 == b0) = false := by simpa using h0
  go_simp
 subst h0;by_cases h1:a1=b1;rotate_left
 ·have g1 : (a1 == b1) = false := by simpa using h1
  go_simp
 subst h1;by_cases h2:a2=b2;rotate_left
 ·have g2 : (a2 == b2) = false := by simpa using h2
  go_simp
 subst h2;by_cases h3:a3=b3;rotate_left
 ·have g3 : (a3 == b3) = false := by simpa using h3
  go_simp
 subst h3;by_cases h4:a4=b4;rotate_left
 ·have g4 : (a4 == b4) = false := by simpa using h4
  go_simp
 subst h4;by_cases h5:a5=b5;rotate_left
 ·have g5 : (a5 == b5) = false := by simpa using h5
  go_simp
 subst h5;by_cases h6:a6=b6;rotate_left
 ·have g6 : (a6 == b6) = false := by simpa using h6
  go_simp
 subst h6;go_simp
theorem Zm:kq Tryz.prog 108 [0,0,0,0,0,0,0]:=by
 refine⟨by kernel_rfl,λxs ys hx hy w=>?_⟩;obtain⟨_,_,rfl,h0,hx⟩:=bC hx;obtain⟨_,_,rfl,h1,hx⟩:=bC hx;obtain⟨_,_,rfl,h2,hx⟩:=bC hx;obtain⟨_,_,rfl,h3,hx⟩:=bC hx;obtain⟨_,_,rfl,h4,hx⟩:=bC hx;obtain⟨_,_,rfl,h5,hx⟩:=bC hx;obtain⟨_,_,rfl,h6,hx⟩:=bC hx;obtain rfl:=lh hx;obtain⟨_,_,rfl,k0,hy⟩:=bC hy;obtain⟨_,_,rfl,k1,hy⟩:=bC hy;obtain⟨_,_,rfl,k2,hy⟩:=bC hy;obtain⟨_,_,rfl,k3,hy⟩:=bC hy;obtain⟨_,_,rfl,k4,hy⟩:=bC hy;obtain⟨_,_,rfl,k5,hy⟩:=bC hy;obtain⟨_,_,rfl,k6,hy⟩:=bC hy;obtain rfl:=lh hy;obtain⟨_,rfl⟩:=cj h0;obtain⟨_,rfl⟩:=cj k0;obtain⟨_,rfl⟩:=cj h1;obtain⟨_,rfl⟩:=cj k1;obtain⟨_,rfl⟩:=cj h2
 obtain⟨_,rfl⟩:=cj k2;obtain⟨_,rfl⟩:=cj h3;obtain⟨_,rfl⟩:=cj k3;obtain⟨_,rfl⟩:=cj h4;obtain⟨_,rfl⟩:=cj k4;obtain⟨_,rfl⟩:=cj h5;obtain⟨_,rfl⟩:=cj k5;obtain⟨_,rfl⟩:=cj h6;obtain⟨_,rfl⟩:=cj k6;exact vz rfl (Zt w _ _ _ _ _ _ _ _ _ _ _ _ _ _)
theorem Zv(w:World)(a0 a1 a2 b0 b1 b2:Int)(a3 b3:Bool):(binOp .eql 74 (.agg #[.int .i64 a0,.int .i64 a1,.int .i64 a2,.bool a3]) (.agg #[.int .i64 b0,.int .i64 b1,.int .i64 b2,.bool b3])).run Tryz.prog w=.ok (.bool (a0==b0&&(a1==b1&&(a2==b2&&a3==b3)))) w:=by
 by_cases h0:a0=b0;rotate_left
 ·have g0 : (a0 == b0) = false := by simpa using h0
  go_simp
 subst h0;by_cases h1:a1=b1;rotate_left
 ·have g1 : (a1 == b1) = false := by simpa using h1
  go_simp
 subst h1;by_cases h2:a2=b2;rotate_left
 ·have g2 : (a2 == b2) = false := by simpa using h2
  go_simp
 subst h2;go_simp;cases a3<;>cases b3<;>rfl
theorem Zp:kq Tryz.prog 74 [0,0,0,1]:=by
 refine⟨by kernel_rfl,λxs ys hx hy w=>?_⟩;obtain⟨_,_,rfl,h0,hx⟩:=bC hx;obtain⟨_,_,rfl,h1,hx⟩:=bC hx;obtain⟨_,_,rfl,h2,hx⟩:=bC hx;obtain⟨_,_,rfl,h3,hx⟩:=bC hx;obtain rfl:=lh hx;obtain⟨_,_,rfl,k0,hy⟩:=bC hy;obtain⟨_,_,rfl,k1,hy⟩:=bC hy;obtain⟨_,_,rfl,k2,hy⟩:=bC hy;obtain⟨_,_,rfl,k3,hy⟩:=bC hy;obtain rfl:=lh hy;obtain⟨_,rfl⟩:=cj h0;obtain⟨_,rfl⟩:=cj k0;obtain⟨_,rfl⟩:=cj h1;obtain⟨_,rfl⟩:=cj k1;obtain⟨_,rfl⟩:=cj h2;obtain⟨_,rfl⟩:=cj k2;obtain⟨_,rfl⟩:=wS h3;obtain⟨_,rfl⟩:=wS k3;exact vz rfl (Zv w _ _ _ _ _ _ _ _)
theorem sY{x:Sc}(h:x.kind=2):∃z,x=.s z:=by cases x<;>first|exact⟨_,rfl⟩|cases h
theorem Zx(w:World)(a0 a3 a4 a5 b0 b3 b4 b5:Int)(a1 a2 b1 b2:ByteArray):(binOp .eql 64 (.agg #[.int .i64 a0,.string a1,.string a2,.int .i64 a3,.int .i64 a4,.int .i64 a5]) (.agg #[.int .i64 b0,.string b1,.string b2,.int .i64 b3,.int .i64 b4,.int .i64 b5])).run Tryz.prog w=.ok (.bool (a0==b0&&(a1==b1&&(a2==b2&&(a3==b3&&(a4==b4&&a5==b5)))))) w:=by
 by_cases h0:a0=b0;rotate_left
 ·have g0 : (a0 == b0) = false := by simpa using h0
  go_simp
 subst h0;have e1:=beq_toListBytes a1 b1;have e2:=beq_toListBytes a2 b2;by_cases h1:a1.toList=b1.toList;rotate_left
 ·have g1 : (a1 == b1) = false := by rw [e1]; simpa using h1
  clear e1 e2;go_simp
 by_cases h2:a2.toList=b2.toList;rotate_left
 ·have g1 : (a1 == b1) = true := by rw [e1]; simpa using h1
  have g2:(a2==b2)=false:=by rw[e2];simpa using h2
  clear e1 e2;go_simp
 have g1:(a1==b1)=true:=by rw[e1];simpa using h1
 have g2:(a2==b2)=true:=by rw[e2];simpa using h2
 clear e1 e2;by_cases h3:a3=b3;rotate_left
 ·have g3 : (a3 == b3) = false := by simpa using h3
  go_simp
 subst h3;by_cases h4:a4=b4;rotate_left
 ·have g4 : (a4 == b4) = false := by simpa using h4
  go_simp
 subst h4;by_cases h5:a5=b5;rotate_left
 ·have g5 : (a5 == b5) = false := by simpa using h5
  go_simp
 subst h5;go_simp
theorem Zr:kq Tryz.prog 64 [0,2,2,0,0,0]:=by
 refine⟨by kernel_rfl,λxs ys hx hy w=>?_⟩;obtain⟨_,_,rfl,h0,hx⟩:=bC hx;obtain⟨_,_,rfl,h1,hx⟩:=bC hx;obtain⟨_,_,rfl,h2,hx⟩:=bC hx;obtain⟨_,_,rfl,h3,hx⟩:=bC hx;obtain⟨_,_,rfl,h4,hx⟩:=bC hx;obtain⟨_,_,rfl,h5,hx⟩:=bC hx;obtain rfl:=lh hx;obtain⟨_,_,rfl,k0,hy⟩:=bC hy;obtain⟨_,_,rfl,k1,hy⟩:=bC hy;obtain⟨_,_,rfl,k2,hy⟩:=bC hy;obtain⟨_,_,rfl,k3,hy⟩:=bC hy;obtain⟨_,_,rfl,k4,hy⟩:=bC hy;obtain⟨_,_,rfl,k5,hy⟩:=bC hy;obtain rfl:=lh hy;obtain⟨_,rfl⟩:=cj h0;obtain⟨_,rfl⟩:=cj k0;obtain⟨_,rfl⟩:=sY h1;obtain⟨_,rfl⟩:=sY k1;obtain⟨_,rfl⟩:=sY h2;obtain⟨_,rfl⟩:=sY k2;obtain⟨_,rfl⟩:=cj h3;obtain⟨_,rfl⟩:=cj k3
 obtain⟨_,rfl⟩:=cj h4;obtain⟨_,rfl⟩:=cj k4;obtain⟨_,rfl⟩:=cj h5;obtain⟨_,rfl⟩:=cj k5;exact vz rfl (Zx w _ _ _ _ _ _ _ _ _ _ _ _)
theorem Zw(w:World)(a1 a2 b1 b2:ByteArray):(binOp .eql 62 (.agg #[.string a1,.string a2]) (.agg #[.string b1,.string b2])).run Tryz.prog w=.ok (.bool (a1==b1&&a2==b2)) w:=by
 have e1:=beq_toListBytes a1 b1;have e2:=beq_toListBytes a2 b2;by_cases h1:a1.toList=b1.toList;rotate_left
 ·have g1 : (a1 == b1) = false := by rw [e1]; simpa using h1
  clear e1 e2;go_simp
 by_cases h2:a2.toList=b2.toList;rotate_left
 ·have g1 : (a1 == b1) = true := by rw [e1]; simpa using h1
  have g2:(a2==b2)=false:=by rw[e2];simpa using h2
  clear e1 e2;go_simp
 have g1:(a1==b1)=true:=by rw[e1];simpa using h1
 have g2:(a2==b2)=true:=by rw[e2];simpa using h2
 clear e1 e2;go_simp
theorem Zq:kq Tryz.prog 62 [2,2]:=by
 refine⟨by kernel_rfl,λxs ys hx hy w=>?_⟩;obtain⟨_,_,rfl,h1,hx⟩:=bC hx;obtain⟨_,_,rfl,h2,hx⟩:=bC hx;obtain rfl:=lh hx;obtain⟨_,_,rfl,k1,hy⟩:=bC hy;obtain⟨_,_,rfl,k2,hy⟩:=bC hy;obtain rfl:=lh hy;obtain⟨_,rfl⟩:=sY h1;obtain⟨_,rfl⟩:=sY k1;obtain⟨_,rfl⟩:=sY h2;obtain⟨_,rfl⟩:=sY k2;exact vz rfl (Zw w _ _ _ _)
def EQ:List (TypeId×List Nat):=[(24,[0,0]),(175,[1,1]),(87,[0,0,0,0,0,0,0]),(108,[0,0,0,0,0,0,0])
 , (74,[0,0,0,1]),(64,[0,2,2,0,0,0]),(62,[2,2])
 ]
theorem a00{l:List (TypeId×List Nat)}(H:∀x∈l,kq Tryz.prog x.1 x.2){t:TypeId}{n:List Nat}(h:l.lookup t=some n):kq Tryz.prog t n:=by
 induction l with|nil=>cases h|cons x l ih =>
  obtain⟨u,m⟩:=x;simp only[List.lookup] at h;split at h
  ·rename_i e;cases h;rw[beq_iff_eq.1 e];exact H _ (List.mem_cons_self ..)
  ·exact ih (λy hy=>H y (List.mem_cons_of_mem _ hy)) h
theorem EK(t:TypeId)(n:List Nat)(h:EQ.lookup t=some n):kq Tryz.prog t n:=by
 suffices H:∀x∈EQ,kq Tryz.prog x.1 x.2 by exact a00 (l:=EQ) (t:=t) (n:=n) H h
 clear h;unfold EQ;refine List.forall_mem_cons.2 ⟨Zs,List.forall_mem_cons.2 ⟨Zo,List.forall_mem_cons.2 ⟨Zn,List.forall_mem_cons.2 ⟨Zm,?_⟩⟩⟩⟩;refine List.forall_mem_cons.2 ⟨Zp,List.forall_mem_cons.2 ⟨Zr,List.forall_mem_cons.2 ⟨Zq,?_⟩⟩⟩;exact nofun
theorem Hh{f:FuncId}{args:List V1}{res:AV}(h:kK Tryz.prog ⟨[],[],[],[],[]⟩ (λ_=>none) 40 f args []=some ((res,[]),[],[])):ae Tryz.prog f args res :=
 pU.toO ((xO qU (E:=⟨[],[],[],[],[]⟩) (λ_ _ h=>by cases h) (λ_ _ h=>by cases h) (λ_ _ _ _ h=>by cases h) (λ_ h=>by cases h) (λ_ _ _ _ _ h=>by cases h) 40).ok f args [] (res,[]) _ [] h trivial)
theorem Iw{T:TypeId}{name:String}{n:Int}{wd:Nat}{f:FuncId}{fn:Func}{cb:Code}(hm:∀v w,(method (Tryz.prog.types.size+Made.depth) T v name).run Tryz.prog w=Result.ok (f,v) w)(h1:Tryz.prog.funcs[f]? = some fn)(h2:fn.body=some cb)(hF:∀l,l.length=wd->ae Tryz.prog f [⟨true,uc l⟩] (.one ⟨false,[.k n]⟩))(hi:I64 n):tj Tryz.prog T name n wd:=by
 refine⟨hi,λo c x l a w ho hc ha hx hwd=>?_⟩;have hnm:=qU f fn h1;have hrun:(execOp a.eval o).run Tryz.prog w=.ok (.enter f #[.agg (l.map λx:Int×Nat=>Value.int .i64 x.1).toArray]) w:=by
  have e0:c.args=#[]:=Array.eq_empty_of_size_eq_zero ha;have h3 : fn.name ≠ "runtime.NumGoroutine" := by simpa using hnm
  have e1:∀v,(callMethod (.iface T v) name #[]).run Tryz.prog w=.ok (.enter f #[v]) w:=λv=>by
   simp only[callMethod,Sem.run_bind,run_program,hm,Result.andThen_ok,callFunc,h1];simp[h3,h2]
  unfold execOp;simp only[ho,resolve,hc,e0,hx.1,Sem.run_bind,Sem.run_pure,Result.andThen_ok,invoke];generalize (Value.agg (l.map λx:Int×Nat=>Value.int .i64 x.1).toArray)=v;rw[show #[Value.iface T v]++Array.map a.eval #[]=#[Value.iface T v] by simp];have e2:(#[Value.iface T v].extract 1)=#[]:=by simp
  simp only[List.getElem?_toArray,List.getElem?_cons_zero];rw[e2];exact e1 v
 refine tU hrun ?_;refine (hF l hwd w [_] ⟨_,_,rfl,⟨_,zL (λx hx'=>⟨rfl,hx.2 x hx'⟩),rfl,nofun⟩,rfl⟩).mono λe w' ⟨v,e1,h1,h2⟩=>⟨v,e1,?_,h2⟩
 simpa using h1.scal.1
theorem jo{α:Type}{l:List α}{n:Nat}(h:l.length=n+1):∃x m,l=x::m/\m.length=n:=by
 cases l with|nil=>simp at h|cons x m=>exact⟨x,m,rfl,by simpa using h⟩
def MT : List ((TypeId × String) × Int × Nat) := [((223, "etchant/meet.kind"), 0, 2), ((225, "etchant/meet.kind"), 1, 4), ((228, "etchant/meet.kind"), 2, 7)]
theorem a1x : tj Tryz.prog 223 "etchant/meet.kind" 0 2 := by
 refine Iw (f:=318) (λv w=>by kernel_rfl) Tryz.func318 rfl (λl h0=>?_) (by unfold I64;omega);obtain⟨x0,l0,rfl,h1⟩:=jo h0;obtain⟨x1,l1,rfl,h2⟩:=jo h1;obtain rfl:=List.eq_nil_of_length_eq_zero h2;exact Hh (by kernel_rfl)
theorem a1w : tj Tryz.prog 225 "etchant/meet.kind" 1 4 := by
 refine Iw (f:=319) (λv w=>by kernel_rfl) Tryz.func319 rfl (λl h0=>?_) (by unfold I64;omega);obtain⟨x0,l0,rfl,h1⟩:=jo h0;obtain⟨x1,l1,rfl,h2⟩:=jo h1;obtain⟨x2,l2,rfl,h3⟩:=jo h2;obtain⟨x3,l3,rfl,h4⟩:=jo h3;obtain rfl:=List.eq_nil_of_length_eq_zero h4;exact Hh (by kernel_rfl)
theorem a1v : tj Tryz.prog 228 "etchant/meet.kind" 2 7 := by
 refine Iw (f:=320) (λv w=>by kernel_rfl) Tryz.func320 rfl (λl h0=>?_) (by unfold I64;omega);obtain⟨x0,l0,rfl,h1⟩:=jo h0;obtain⟨x1,l1,rfl,h2⟩:=jo h1;obtain⟨x2,l2,rfl,h3⟩:=jo h2;obtain⟨x3,l3,rfl,h4⟩:=jo h3;obtain⟨x4,l4,rfl,h5⟩:=jo h4;obtain⟨x5,l5,rfl,h6⟩:=jo h5;obtain⟨x6,l6,rfl,h7⟩:=jo h6;obtain rfl:=List.eq_nil_of_length_eq_zero h7;exact Hh (by kernel_rfl)
theorem EW(T:TypeId)(name:String)(n:Int)(wd:Nat)(h:MT.lookup (T,name)=some (n,wd)):tj Tryz.prog T name n wd:=by
 unfold MT at h;simp only[List.lookup] at h;split at h
 ·rename_i e;cases h;obtain⟨rfl,rfl⟩:=Prod.mk.inj (beq_iff_eq.1 e);exact a1x
 ·split at h
  ·rename_i e;cases h;obtain⟨rfl,rfl⟩:=Prod.mk.inj (beq_iff_eq.1 e);exact a1w
  ·split at h
   ·rename_i e;cases h;obtain⟨rfl,rfl⟩:=Prod.mk.inj (beq_iff_eq.1 e);exact a1v
   ·cases h
structure Eff where
 f:FuncId
 g:uV
 ok:xl Tryz.prog f g
def WR:List FuncId:=[146]
theorem E9(f:FuncId)(h:WR.contains f=true):AE Tryz.prog f:=by
 obtain rfl:f=146:=by simpa[WR] using h
 exact a0a
def Vg(X:List Eff):List TypeId :=
 if X.any (λx=>x.f==10) then [108,72,78,64,74,30,24] else
 []
def env(X:List Eff):Env:=⟨EQ,X.map (λx=>(x.f,x.g)),MT,WR,Vg X⟩
theorem G0(X:List Eff)(f:FuncId)(g:uV)(h:(env X).eff.lookup f=some g):xl Tryz.prog f g:=by
 induction X with|nil=>cases h|cons x X ih =>
  simp only[env,List.map_cons,List.lookup] at h ih;split at h
  ·rename_i e;cases h;rw[beq_iff_eq.1 e];exact x.ok
  ·exact ih h
theorem ZQ{f:FuncId}{args:List V1}{res:AV}(K:List ah)(q:List Bool)(pf:List Pf)(X:List Eff)(h:kK Tryz.prog (env X) (tab K) 40 f args q=some ((res,[]),pf.map Pf.p,[])):ae Tryz.prog f args res :=
 pU.toO ((xO qU EK (G0 X) EW E9 (Ek K) 40).ok f args q (res,[]) _ [] h (ku pf))
theorem a0L{V W:World}{r:Nat->Nat}{k:Nat}{i:It}{cs:List Value}(h1:af V W r k i cs):af V W r k (Pq i) cs:=by
 cases i with|i z B=>exact⟨h1.1,by have:=h1.2.2;unfold I64 at this;unfold lim;omega,h1.2.2⟩|b k=>exact⟨h1,rfl⟩|k n=>exact⟨h1.1,by have:=h1.2;unfold I64 at this;unfold lim;omega,h1.2⟩|_=>exact h1
theorem Ii{V W:World}{r:Nat->Nat}{k:Nat}:∀ {l:List It} {cs:List Value},aA V W r k l cs->aA V W r k (yO l) cs
 | [],_,e=>e|i::l,_,⟨c,d,e,h1,h2⟩=>by
  unfold yO;split
  ·obtain ⟨c2, d2, e2, h3, h4⟩ := h2;subst e2 e;cases h1;rw[h3.1];exact⟨[_,_],d2,rfl,⟨_,_,_,_,rfl,⟨rfl,rfl,Row.nil _⟩⟩,Ii h4⟩
  ·exact⟨c,d,e,a0L h1,Ii h2⟩
theorem Ij{V W:World}{r:Nat->Nat}{k:Nat}{v:V1}{x:Value}:au V W r k v x->au V W r k (yP v) x
 | ⟨cs,h1,h2,h3⟩=>⟨cs,Ii h1,h2,h3⟩
theorem Px{V W:World}{r:Nat->Nat}{k:Nat}:∀ {l:List V1} {xs:List Value},aV V W r k l xs->aV V W r k (l.map yP) xs
 | [],_,e=>e|_::_,_,⟨x,ys,e,h1,h2⟩=>⟨x,ys,e,Ij h1,Px h2⟩
theorem Pv{V W:World}{r:Nat->Nat}{k:Nat}:∀ {v:AV} {x:Value},bT V W r k v x->bT V W r k (B8 v) x
 | .und,_,e=>e|.any,_,e=>e|.one _,_,e=>Ij e|.tup _,_,⟨xs,e,h⟩=>⟨xs,e,Px h⟩
theorem ae.mono{f:FuncId}{args:List V1}{res res':AV}(h:ae Tryz.prog f args res)(hr:∀V W x,bT V W (λ_=>0) 0 res x->bT V W (λ_=>0) 0 res' x):ae Tryz.prog f args res' :=
 λW vals hv=>(h W vals hv).mono λ_ _ ⟨v,h1,h2,h3⟩=>⟨v,h1,hr _ _ _ h2,h3⟩
theorem qp{f:FuncId}{args:List V1}{res:AV}(X:List Eff)(K:List ah)(q:List Bool)(pf:List Pf)(h:(kK Tryz.prog (env X) (tab K) 40 f args q).map (λz=>((B8 z.1.1,z.1.2),z.2))=some ((res,[]),pf.map Pf.p,[])):ae Tryz.prog f args res:=by
 cases hz:kK Tryz.prog (env X) (tab K) 40 f args q with|none=>rw[hz] at h;cases h|some z =>
  obtain⟨⟨z0,z1⟩,z2,z3⟩:=z;rw[hz] at h;simp only[Option.map_some,Option.some.injEq,Prod.mk.injEq] at h;obtain⟨⟨rfl,rfl⟩,rfl,rfl⟩:=h;exact (ZQ K q pf X hz).mono λ_ _ _ h=>Pv h
theorem ad{f:FuncId}{args:List V1}{res:AV}(K:List ah)(q:List Bool)(pf:List Pf)(h:(kK Tryz.prog (env []) (tab K) 40 f args q).map (λz=>((B8 z.1.1,z.1.2),z.2))=some ((res,[]),pf.map Pf.p,[])):ae Tryz.prog f args res:=qp [] K q pf h
section
variable {V W:World} {r:Nat->Nat} {k:Nat}
theorem fh{cs:List Value}:aA V W r k [] cs <-> cs=[]:=Iff.rfl
theorem bi{z:Int}{B:Nat}{l:List It}{cs:List Value}:aA V W r k (.i z B::l) cs <-> (z.natAbs<=B/\I64 z)/\∃d,cs=.int .i64 z::d/\aA V W r k l d :=
 ⟨λ⟨c,d,e,⟨h1,h2⟩,h3⟩=>⟨h2,d,by rw[e,h1];rfl,h3⟩,λ⟨h,d,e,h3⟩=>⟨[_],d,e,⟨rfl,h⟩,h3⟩⟩
theorem nU{x:Value}{l:List It}{cs:List Value}:aA V W r k (.v x::l) cs <-> okV x=true/\∃d,cs=x::d/\aA V W r k l d :=
 ⟨λ⟨c,d,e,⟨h1,h2⟩,h3⟩=>⟨h2,d,by rw[e,h1];rfl,h3⟩,λ⟨h,d,e,h3⟩=>⟨[_],d,e,⟨rfl,h⟩,h3⟩⟩
theorem SJ{x:Bool}{l:List It}{cs:List Value}:aA V W r k (.b x::l) cs <-> ∃d,cs=.bool x::d/\aA V W r k l d :=
 ⟨λ⟨c,d,e,h2,h3⟩=>⟨d,by rw[e,show c=[Value.bool x] from h2];rfl,h3⟩,λ⟨d,e,h3⟩=>⟨[_],d,e,rfl,h3⟩⟩
theorem js{x:Nm}{l:List It}{cs:List Value}:aA V W r k (.d (.num x)::l) cs <-> ∃n p m c,NR W n p m c x/\∃d,cs=.bool n::.slice p m c::d/\aA V W r k l d :=
 ⟨λ⟨c,d,e,⟨n,p,m,c',h1,h2⟩,h3⟩=>⟨n,p,m,c',h2,d,by rw[e,h1];rfl,h3⟩,λ⟨n,p,m,c',h,d,e,h3⟩=>⟨[_,_],d,e,⟨n,p,m,c',rfl,h⟩,h3⟩⟩
theorem bL{l:List It}{x:Value}:au V W r k ⟨true,l⟩ x <-> ∃cs,aA V W r k l cs/\x=.agg cs.toArray :=
 ⟨λ⟨cs,h1,h2,_⟩=>⟨cs,h1,h2⟩,λ⟨cs,h1,h2⟩=>⟨cs,h1,h2,nofun⟩⟩
theorem dL{z:Int}{B:Nat}{x:Value}:au V W r k ⟨false,[.i z B]⟩ x <-> (z.natAbs<=B/\I64 z)/\x=.int .i64 z :=
 ⟨λh=>⟨h.scal.2,by simpa using h.scal.1⟩,λ⟨h,e⟩=>af.val ⟨by rw[e],h⟩⟩
theorem lg{v x:Value}:au V W r k ⟨false,[.v v]⟩ x <-> okV v=true/\x=v :=
 ⟨λh=>⟨h.scal.2,by simpa using h.scal.1⟩,λ⟨h,e⟩=>af.val ⟨by rw[e],h⟩⟩
theorem iL{xs:List Value}:aV V W r k [] xs <-> xs=[]:=Iff.rfl
theorem aK{v:V1}{l:List V1}{xs:List Value}:aV V W r k (v::l) xs <-> ∃x,au V W r k v x/\∃ys,xs=x::ys/\aV V W r k l ys :=
 ⟨λ⟨x,ys,e,h1,h2⟩=>⟨x,h1,ys,e,h2⟩,λ⟨x,h1,ys,e,h2⟩=>⟨x,ys,e,h1,h2⟩⟩
end
def nM(x:Nm):V1:=⟨true,[.d (.num x)]⟩
def aN(b:Bool):V1:=⟨false,[.v (.bool b)]⟩
def aj(z:Int)(B:Nat):V1:=⟨false,[.i z B]⟩
def ew(x y:Int)(B:Nat):V1:=⟨true,[.i x B,.i y B]⟩
abbrev Gv(res:AV)(w:World)(e:Ending)(w':World):Prop:=∃v,e=.returned v/\bT w' w' (λ_=>0) 0 res v/\ac w w'
theorem a0g{x:Nm}{w:World}{e:Ending}{w':World}(h:kJ w x e w'):Gv (.one (nM x)) w e w':=by
 obtain⟨n,p,l,c,rfl,h1,_,h2⟩:=h;exact⟨_,rfl,bL.2 ⟨_,js.2 ⟨n,p,l,c,h1,[],rfl,rfl⟩,rfl⟩,h2⟩
theorem a0f{x:Nm×Bool}{w:World}{e:Ending}{w':World}(h:jR w x e w'):Gv (.tup [nM x.1,aN x.2]) w e w':=by
 obtain⟨n,p,l,c,rfl,h1,_,h2⟩:=h;exact⟨_,rfl,⟨[_,_],rfl,aK.2 ⟨_,bL.2 ⟨_,js.2 ⟨n,p,l,c,h1,[],rfl,rfl⟩,rfl⟩,_,rfl,aK.2 ⟨_,lg.2 ⟨rfl,rfl⟩,_,rfl,rfl⟩⟩⟩,h2⟩
theorem Hl{b:Bool}{w:World}{e:Ending}{w':World}(h:e=.returned (.bool b)/\ac w w'):Gv (.one (aN b)) w e w':=⟨_,h.1,lg.2 ⟨rfl,rfl⟩,h.2⟩
theorem tW{z:Int}{B:Nat}{w:World}{e:Ending}{w':World}(hB:z.natAbs<=B/\I64 z)(h:e=.returned (.int .i64 z)/\ac w w'):Gv (.one (aj z B)) w e w':=⟨_,h.1,dL.2 ⟨hB,rfl⟩,h.2⟩
end
set_option maxRecDepth 100000
section
theorem aP{z:Int}(h:I64 z):z.natAbs<=lim/\I64 z:=⟨by unfold I64 at h;unfold lim;omega,h⟩
def aC:Nat:=67108864
def aO(e:Ed)(K B:Nat):V1:=⟨true,[.i e.k K,.i e.ax B,.i e.ay B,.i e.bx B,.i e.by' B,.i e.cx B,.i e.cy B]⟩
def eK:List It->Option Ed
 | [.i k _,.i ax _,.i ay _,.i bx _,.i by' _,.i cx _,.i cy _]=>some ⟨k,ax,ay,bx,by',cx,cy⟩|_=>none
theorem Ul{l:List It}{e:Ed}{V W:World}{r:Nat->Nat}{k:Nat}{x:Value}(h:eK l=some e)(hr:au V W r k ⟨true,l⟩ x) :
  x=.agg #[.int .i64 e.k,.int .i64 e.ax,.int .i64 e.ay,.int .i64 e.bx,.int .i64 e.by',.int .i64 e.cx,.int .i64 e.cy]:=by
 unfold eK at h;split at h<;>cases h;simp only[bL,bi,fh] at hr;obtain⟨_,⟨_,_,rfl,_,_,rfl,_,_,rfl,_,_,rfl,_,_,rfl,_,_,rfl,_,_,rfl,rfl⟩,rfl⟩:=hr;rfl
def vf:ah where
 f:=183;g:=λ| [⟨true,[.i x _,.i y _]⟩]=>some (.one (aN (dP x y)),[])|_=>none
 ok:=by
  intro args res ps h _;split at h<;>cases h;intro W vals hv;simp only[aK,iL,bL,bi,fh] at hv;obtain⟨_,⟨_,⟨_,_,rfl,_,_,rfl,rfl⟩,rfl⟩,_,rfl,rfl⟩:=hv;exact (a6Z _ _ W).mono λ_ _ h=>Hl h
def WN:ah where
 f:=87
 g:=λ| [⟨true,[.i _ _,.i _ _,.i n _,.v (.bool _)]⟩]=>if 0<=n/\n<=3 then some (.one ⟨false,[.k n]⟩,[]) else none|_=>none
 ok:=by
  intro args res ps h hp
  split at h<;>try cases h
  split at h<;>cases h
  rename_i hn
  intro W vals hv
  simp only[aK,iL,bL,bi,nU,fh] at hv
  obtain⟨_,⟨_,⟨_,_,rfl,_,_,rfl,_,_,rfl,_,_,rfl,rfl⟩,rfl⟩,_,rfl,rfl⟩:=hv
  exact (a61 _ _ _ _ W hn).mono λ_ _ h=>⟨_,h.1,af.val (i:=.k _) ⟨rfl,by unfold I64;omega⟩,h.2⟩
theorem a0m:I64 0:=by unfold I64;omega
abbrev pT{b:Bool}(h:b=true):Pf:=⟨b=true,h⟩
abbrev pF{b:Bool}(h:b=false):Pf:=⟨b=false,h⟩
abbrev pP{p:Prop}(h:p):Pf:=⟨p,h⟩
theorem cL{a b:Int}(h:b<a):decide (a>b)=true:=by simpa using h
theorem bU{a b:Int}(h:¬b<a):decide (a>b)=false:=by simpa using h
theorem gZ{a b:Int}(h:a≠b):(a != b)=true:=by simpa using h
theorem jF{a b:Int}(h:¬a≠b):(a != b)=false:=by simpa using h
theorem dD{a b:Int}(h:a=b):(a==b)=true:=by simpa using h
theorem aB{a b:Int}(h:¬a=b):(a==b)=false:=by simpa using h
theorem kO{x:Int}(h:Co x):x.natAbs<=aC/\I64 x:=by unfold Co at h;unfold aC I64;omega
theorem Oh{V W:World}{r:Nat->Nat}{k:Nat}{e:Ed}(h:e.ok=true):au V W r k (aO e 3 aC) (.agg #[.int .i64 e.k,.int .i64 e.ax,.int .i64 e.ay,.int .i64 e.bx,.int .i64 e.by',.int .i64 e.cx,.int .i64 e.cy]):=by
 obtain⟨⟨h1,h2⟩,⟨h3,h4⟩,h5,h6⟩:=sH h;have hk:=nE h;exact bL.2 ⟨_,bi.2 ⟨⟨by omega,by unfold I64;omega⟩,_,rfl,bi.2 ⟨kO h1,_,rfl,bi.2 ⟨kO h2,_,rfl,bi.2 ⟨kO h3,_,rfl,bi.2 ⟨kO h4,_,rfl,bi.2 ⟨kO h5,_,rfl,bi.2 ⟨kO h6,_,rfl,rfl⟩⟩⟩⟩⟩⟩⟩,rfl⟩
theorem ZK{e:Ed}(h:e.ok=true):(jk e.k).k.natAbs<=3/\I64 (jk e.k).k:=by
 rcases nE h with h|h|h<;>rw[h]<;>exact⟨by decide,by unfold I64;decide⟩
theorem zp{V W:World}{r:Nat->Nat}{k:Nat}{x y:Int}{A B C:Nat}(h1:A<=C)(h2:B<=C):∀v,au V W r k ⟨true,[.i x A,.i y B]⟩ v->au V W r k (ew x y C) v:=by
 intro v h;simp only[bL,bi,fh] at h;obtain⟨_,⟨⟨a1,a2⟩,_,rfl,⟨b1,b2⟩,_,rfl,rfl⟩,rfl⟩:=h;exact bL.2 ⟨_,bi.2 ⟨⟨Nat.le_trans a1 h1,a2⟩,_,rfl,bi.2 ⟨⟨Nat.le_trans b1 h2,b2⟩,_,rfl,rfl⟩⟩,rfl⟩
theorem a3M{V W:World}{r:Nat->Nat}{k:Nat}{x y:Int}{A B:Nat}:∀v,au V W r k ⟨true,[.i x A,.i y B]⟩ v->au V W r k (ew x y lim) v:=by
 intro v h;simp only[bL,bi,fh] at h;obtain⟨_,⟨⟨a1,a2⟩,_,rfl,⟨b1,b2⟩,_,rfl,rfl⟩,rfl⟩:=h;exact bL.2 ⟨_,bi.2 ⟨aP a2,_,rfl,bi.2 ⟨aP b2,_,rfl,rfl⟩⟩,rfl⟩
theorem a3K{V W:World}{r:Nat->Nat}{k:Nat}{x y:Int}{A B:Nat}(h:Co x/\Co y):∀v,au V W r k ⟨true,[.i x A,.i y B]⟩ v->au V W r k (ew x y aC) v:=by
 intro v hv;simp only[bL,bi,fh] at hv;obtain⟨_,⟨⟨a1,a2⟩,_,rfl,⟨b1,b2⟩,_,rfl,rfl⟩,rfl⟩:=hv;exact bL.2 ⟨_,bi.2 ⟨kO h.1,_,rfl,bi.2 ⟨kO h.2,_,rfl,rfl⟩⟩,rfl⟩
theorem Xi(e:Ed):(ei e).natAbs<=11/\I64 (ei e):=by
 unfold ei I64
 (repeat' split)<;>decide
theorem ae.pre{f:FuncId}{args args':List V1}{res:AV}(h:ae Tryz.prog f args' res)(hr:∀W vals,aV W W (λ_=>0) 0 args vals->aV W W (λ_=>0) 0 args' vals):ae Tryz.prog f args res :=
 λW vals hv=>h W vals (hr W vals hv)
theorem aU{V W:World}{r:Nat->Nat}{k:Nat}{a b:V1}{l m:List V1}(h:∀x,au V W r k a x->au V W r k b x)(g:∀xs,aV V W r k l xs->aV V W r k m xs):∀xs,aV V W r k (a::l) xs->aV V W r k (b::m) xs :=
 λ_ ⟨x,ys,e,h1,h2⟩=>⟨x,ys,e,h x h1,g ys h2⟩
theorem dY{V W:World}{r:Nat->Nat}{k:Nat}:∀xs,aV V W r k [] xs->aV V W r k [] xs:=λ_ h=>h
theorem BJ{V W:World}{r:Nat->Nat}{k:Nat}{l:List It}{e:Ed}{K B:Nat}(he:eK l=some e)(h1:I64 e.k->e.k.natAbs<=K)(h2:∀z ∈ [e.ax,e.ay,e.bx,e.by',e.cx,e.cy],I64 z->z.natAbs<=B):∀v,au V W r k ⟨true,l⟩ v->au V W r k (aO e K B) v:=λv hr=>by
 unfold eK at he;split at he<;>cases he;simp only[bL,bi,fh] at hr;obtain⟨_,⟨⟨_,i0⟩,_,rfl,⟨_,i1⟩,_,rfl,⟨_,i2⟩,_,rfl,⟨_,i3⟩,_,rfl,⟨_,i4⟩,_,rfl,⟨_,i5⟩,_,rfl,⟨_,i6⟩,_,rfl,rfl⟩,rfl⟩:=hr;exact bL.2 ⟨_,bi.2 ⟨⟨h1 i0,i0⟩,_,rfl,bi.2 ⟨⟨h2 _ (by simp) i1,i1⟩,_,rfl,bi.2 ⟨⟨h2 _ (by simp) i2,i2⟩,_,rfl,bi.2 ⟨⟨h2 _ (by simp) i3,i3⟩,_,rfl,bi.2 ⟨⟨h2 _ (by simp) i4,i4⟩,_,rfl,bi.2 ⟨⟨h2 _ (by simp) i5,i5⟩,_,rfl,bi.2 ⟨⟨h2 _ (by simp) i6,i6⟩,_,rfl,rfl⟩⟩⟩⟩⟩⟩⟩,rfl⟩
theorem ql{V W:World}{r:Nat->Nat}{k:Nat}{l:List It}{e:Ed}(he:eK l=some e):∀v,au V W r k ⟨true,l⟩ v->au V W r k (aO e lim lim) v :=
 BJ he (λh=>(aP h).1) (λz _ h=>(aP h).1)
theorem Oi{V W:World}{r:Nat->Nat}{k:Nat}{l:List It}{e:Ed}(he:eK l=some e)(h:e.right=true):∀v,au V W r k ⟨true,l⟩ v->au V W r k (aO e lim aC) v:=by
 simp only[Ed.right,Bool.and_eq_true,mi,Co] at h;refine BJ he (λh=>(aP h).1) (λz hz _=>?_);unfold aC;simp only[List.mem_cons,List.not_mem_nil,or_false] at hz;rcases hz with rfl|rfl|rfl|rfl|rfl|rfl<;>omega
theorem nu{V W:World}{r:Nat->Nat}{k:Nat}{l:List It}{e:Ed}(he:eK l=some e)(h:e.ok=true):∀v,au V W r k ⟨true,l⟩ v->au V W r k (aO e 3 aC) v:=by
 have hk:=nE h;have hr:e.right=true:=by simp only[Ed.ok,Bool.and_eq_true] at h;exact h.1
 simp only[Ed.right,Bool.and_eq_true,mi,Co] at hr;refine BJ he (λ_=>by omega) (λz hz _=>?_);unfold aC;simp only[List.mem_cons,List.not_mem_nil,or_false] at hz;rcases hz with rfl|rfl|rfl|rfl|rfl|rfl<;>omega
theorem KL(e:Ed)(K B:Nat):eK (aO e K B).l=some e:=rfl
def mF(k:Int):V1:=⟨true,[.v (jk k).c,.v (jk k).o,.v (jk k).r,.i (jk k).k lim]⟩
def KO:List ah:=[vf,WN]
theorem a2D(e:Ed)(hk:e.k=1):ae Tryz.prog 128 [aO e lim lim] (.tup [mF e.k,aN e.ok]):=by
 have k1:(e.k==1)=true:=by simp[hk]
 rw[show mF e.k=mF 1 by rw[hk]];cases hA:dP e.ax e.ay with|false =>
  rw[show e.ok=false by simp[Ed.ok,Ed.right,hA]];exact ad KO [true,false] [pT k1,pF hA] (by kernel_rfl)|true =>
  cases hB:dP e.bx e.by' with|false =>
   rw[show e.ok=false by simp[Ed.ok,Ed.right,hB]];exact ad KO [true,true,false] [pT k1,pT hA,pF hB] (by kernel_rfl)|true =>
   cases hC:dP e.cx e.cy with|false =>
    rw[show e.ok=false by simp[Ed.ok,Ed.right,hC]];exact ad KO [true,true,true,false] [pT k1,pT hA,pT hB,pF hC] (by kernel_rfl)|true =>
    rw[show e.ok=(e.cx==0&&e.cy==0) by simp[Ed.ok,Ed.right,Ed.lone,hA,hB,hC,hk]];exact ad KO [true,true,true,true] [pT k1,pT hA,pT hB,pT hC] (by kernel_rfl)
theorem a2E(e:Ed)(hk:e.k=2):ae Tryz.prog 128 [aO e lim lim] (.tup [mF e.k,aN e.ok]):=by
 have k1:(e.k==1)=false:=by simp[hk]
 have k2:(e.k==2)=true:=by simp[hk]
 rw[show mF e.k=mF 2 by rw[hk]];cases hA:dP e.ax e.ay with|false =>
  rw[show e.ok=false by simp[Ed.ok,Ed.right,hA]];exact ad KO [false,true,false] [pF k1,pT k2,pF hA] (by kernel_rfl)|true =>
  cases hB:dP e.bx e.by' with|false =>
   rw[show e.ok=false by simp[Ed.ok,Ed.right,hB]];exact ad KO [false,true,true,false] [pF k1,pT k2,pT hA,pF hB] (by kernel_rfl)|true =>
   cases hC:dP e.cx e.cy with|false =>
    rw[show e.ok=false by simp[Ed.ok,Ed.right,hC]];exact ad KO [false,true,true,true,false] [pF k1,pT k2,pT hA,pT hB,pF hC] (by kernel_rfl)|true =>
    refine ae.pre ?_ λW=>aU (Oi (KL e lim lim) (by simp[Ed.right,hA,hB,hC])) dY
    have E:e.ok=((!((e.ax-e.cx==0)==(e.ay-e.cy==0)))&&(e.bx-e.cx==0-(e.ay-e.cy)+0&&e.by'-e.cy==e.ax-e.cx+0)):=by
     rw[show 0-(e.ay-e.cy)+0=(fH 1 (e.ax-e.cx,e.ay-e.cy)).1 by simp[fH],show e.ax-e.cx+0=(fH 1 (e.ax-e.cx,e.ay-e.cy)).2 by simp[fH]];simp[Ed.ok,Ed.right,Ed.quarter,pz,hA,hB,hC,hk,bne]
    cases hq:(!((e.ax-e.cx==0)==(e.ay-e.cy==0))) with|false =>
     rw[E,hq,Bool.false_and];exact ad KO [false,true,true,true,true,false] [pF k1,pT k2,pT hA,pT hB,pT hC,pF hq] (by kernel_rfl)|true =>
     rw[E,hq,Bool.true_and];exact ad KO [false,true,true,true,true,true] [pF k1,pT k2,pT hA,pT hB,pT hC,pT hq] (by kernel_rfl)
theorem a2F(e:Ed)(hk:e.k=3):ae Tryz.prog 128 [aO e lim lim] (.tup [mF e.k,aN e.ok]):=by
 have k1:(e.k==1)=false:=by simp[hk]
 have k2:(e.k==2)=false:=by simp[hk]
 have k3:(e.k==3)=true:=by simp[hk]
 rw[show mF e.k=mF 3 by rw[hk]];cases hA:dP e.ax e.ay with|false =>
  rw[show e.ok=false by simp[Ed.ok,Ed.right,hA]];exact ad KO [false,false,true,false] [pF k1,pF k2,pT k3,pF hA] (by kernel_rfl)|true =>
  cases hB:dP e.bx e.by' with|false =>
   rw[show e.ok=false by simp[Ed.ok,Ed.right,hB]];exact ad KO [false,false,true,true,false] [pF k1,pF k2,pT k3,pT hA,pF hB] (by kernel_rfl)|true =>
   cases hC:dP e.cx e.cy with|false =>
    rw[show e.ok=false by simp[Ed.ok,Ed.right,hC]];exact ad KO [false,false,true,true,true,false] [pF k1,pF k2,pT k3,pT hA,pT hB,pF hC] (by kernel_rfl)|true =>
    refine ae.pre ?_ λW=>aU (Oi (KL e lim lim) (by simp[Ed.right,hA,hB,hC])) dY
    have E:e.ok=((!((e.ax-e.cx==0)==(e.ay-e.cy==0)))&&(e.bx-e.cx==0-(0-(e.ay-e.cy))+0&&e.by'-e.cy==0-(e.ax-e.cx)+0)):=by
     rw[show 0-(0-(e.ay-e.cy))+0=(fH 3 (e.ax-e.cx,e.ay-e.cy)).1 by simp[fH],show 0-(e.ax-e.cx)+0=(fH 3 (e.ax-e.cx,e.ay-e.cy)).2 by simp[fH]];simp[Ed.ok,Ed.right,Ed.quarter,pz,hA,hB,hC,hk,bne]
    cases hq:(!((e.ax-e.cx==0)==(e.ay-e.cy==0))) with|false =>
     rw[E,hq,Bool.false_and];exact ad KO [false,false,true,true,true,true,false] [pF k1,pF k2,pT k3,pT hA,pT hB,pT hC,pF hq] (by kernel_rfl)|true =>
     rw[E,hq,Bool.true_and];exact ad KO [false,false,true,true,true,true,true] [pF k1,pF k2,pT k3,pT hA,pT hB,pT hC,pT hq] (by kernel_rfl)
theorem a2C(e:Ed)(h1:¬e.k=1)(h2:¬e.k=2)(h3:¬e.k=3):ae Tryz.prog 128 [aO e lim lim] (.tup [mF e.k,aN e.ok]):=by
 have k1:(e.k==1)=false:=by simpa using h1
 have k2:(e.k==2)=false:=by simpa using h2
 have k3:(e.k==3)=false:=by simpa using h3
 rw[show e.ok=false by simp[Ed.ok,h1,h2,h3]];unfold mF;rw[a0J (k:=e.k) (by simp[nC,h1,h2,h3])];exact ad KO [false,false,false] [pF k1,pF k2,pF k3] (by kernel_rfl)
def bM:ah where
 f:=128
 g:=λ| [⟨true,l⟩]=>(eK l).map λe=>(.tup [mF e.k,aN e.ok],[])|_=>none
 ok:=by
  intro args res ps h hp
  split at h<;>try cases h
  rename_i l
  cases he:eK l with
  | none=>simp[he] at h
  | some e =>
   simp only[he,Option.map_some,Option.some.injEq,Prod.mk.injEq] at h
   obtain⟨rfl,rfl⟩:=h
   refine ae.pre ?_ λW=>aU (ql he) dY
   by_cases h1:e.k=1
   ·exact a2D e h1
   by_cases h2:e.k=2
   ·exact a2E e h2
   by_cases h3:e.k=3
   ·exact a2F e h3
   ·exact a2C e h1 h2 h3
theorem a4k{e:Ed}(h:e.ok=true):(az e).natAbs<=134217728/\I64 (az e):=by
 have h1:=a4l h;by_cases hk:e.k=1
 ·rw[Rr hk];exact⟨by decide,a0m⟩
 ·have := Jw h hk;exact⟨by omega,by unfold I64;omega⟩
theorem aD{e:Ed}(h:e.ok=true):(ei e != 0)=false:=by rw[Nk h];rfl
theorem yc{e:Ed}(h:e.ok=false):(ei e != 0)=true:=by have:=Xj h;simpa using this
theorem mH{a b:Int}(h:b<=a):decide (a >= b)=true:=by simpa using h
theorem gV{a b:Int}(h:¬b<=a):decide (a >= b)=false:=by simpa using h
theorem lL{b:Bool}(h:b=false):(!b)=true:=by rw[h];rfl
theorem ci{b:Bool}(h:b=true):(!b)=false:=by rw[h];rfl
theorem Xk(e:Ed):ae Tryz.prog 122 [aO e lim lim] (.one (aj (ei e) lim)):=by
 cases ho:e.ok with|true =>
  rw[Nk ho];exact ad [bM] [true] [pT ho] (by kernel_rfl)|false =>
  by_cases h1:1<=e.k;rotate_left
  ·rw [Xf ho h1];exact ad [bM] [false,false] [pF ho,pF (gV h1)] (by kernel_rfl)
  by_cases h3:e.k<=3;rotate_left
  ·rw [Xg ho h3];exact ad [bM] [false,true,false] [pF ho,pT (mH h1),pF (decide_eq_false h3)] (by kernel_rfl)
  have d3:=decide_eq_true h3;cases hA:dP e.ax e.ay with|false =>
   rw[FU ho h1 h3 (.inl hA)];exact ad [bM,vf] [false,true,true,false] [pF ho,pT (mH h1),pT d3,pF hA] (by kernel_rfl)|true =>
   cases hB:dP e.bx e.by' with|false =>
    rw[FU ho h1 h3 (.inr (.inl hB))];exact ad [bM,vf] [false,true,true,true,false] [pF ho,pT (mH h1),pT d3,pT hA,pF hB] (by kernel_rfl)|true =>
    cases hC:dP e.cx e.cy with|false =>
     rw[FU ho h1 h3 (.inr (.inr hC))];exact ad [bM,vf] [false,true,true,true,true,true] [pF ho,pT (mH h1),pT d3,pT hA,pT hB,pT (lL hC)] (by kernel_rfl)|true =>
     rw[Xh ho hA hB hC];exact ad [bM,vf] [false,true,true,true,true,false] [pF ho,pT (mH h1),pT d3,pT hA,pT hB,pF (ci hC)] (by kernel_rfl)
theorem ae.bd{f:FuncId}{args:List V1}{z:Int}{B:Nat}(h:ae Tryz.prog f args (.one (aj z lim)))(hB:z.natAbs<=B):ae Tryz.prog f args (.one (aj z B)) :=
 h.mono λ_ W x hx=>dL.2 ⟨⟨hB,(dL.1 hx).1.2⟩,(dL.1 hx).2⟩
def Be:ah where
 f:=122
 g:=λ| [⟨true,l⟩]=>(eK l).map λe=>(.one (aj (ei e) 11),[])|_=>none
 ok:=by
  intro args res ps h _
  split at h<;>try cases h
  rename_i l
  cases he:eK l with
  | none=>simp[he] at h
  | some e =>
   simp only[he,Option.map_some,Option.some.injEq,Prod.mk.injEq] at h
   obtain⟨rfl,rfl⟩:=h
   exact ((Xk e).bd (Xi e).1).pre λW=>aU (ql he) dY
theorem a4h{e:Ed}(h:e.ok=true)(hk:(e.k==1)=false):az e=max (max (e.ax-e.cx) (0-(e.ax-e.cx))) (max (e.ay-e.cy) (0-(e.ay-e.cy))):=by
 unfold az;rw[h,hk,Int.zero_sub,Int.zero_sub];rfl
theorem a4m(e:Ed)(ho:e.ok=true):ae Tryz.prog 199 [aO e 3 aC] (.one (aj (az e) lim)):=by
 cases hk:(e.k==1) with|true =>
  rw[Rr (by simpa using hk)];exact ad [bM] [false,true] [pF (ci ho),pT hk] (by kernel_rfl)|false =>
  rw[a4h ho hk];exact ad [bM] [false,false] [pF (ci ho),pF hk] (by kernel_rfl)
def Bg:ah where
 f:=199
 g:=λ| [⟨true,l⟩]=>(eK l).map λe=>(.one (aj (az e) 134217728),[e.ok=true])|_=>none
 ok:=by
  intro args res ps h hp
  split at h<;>try cases h
  rename_i l
  cases he:eK l with
  | none=>simp[he] at h
  | some e =>
   simp only[he,Option.map_some,Option.some.injEq,Prod.mk.injEq] at h
   obtain⟨rfl,rfl⟩:=h
   exact ((a4m e hp.1).bd (a4k hp.1).1).pre λW=>aU (nu he hp.1) dY
theorem a4I(e:Ed):ae Tryz.prog 257 [aO e 3 aC] (.one (aO (D3 e) lim lim)):=ad [bM] [] [] (by kernel_rfl)
def Bh:ah where
 f:=257
 g:=λ| [⟨true,l⟩]=>(eK l).map λe=>(.one (aO (D3 e) 3 aC),[e.ok=true])|_=>none
 ok:=by
  intro args res ps h hp
  split at h<;>try cases h
  rename_i l
  cases he:eK l with
  | none=>simp[he] at h
  | some e =>
   simp only[he,Option.map_some,Option.some.injEq,Prod.mk.injEq] at h
   obtain⟨rfl,rfl⟩:=h
   refine ((a4I e).mono λ_ W x hx=>?_).pre λW=>aU (nu he hp.1) dY
   obtain⟨⟨h1,h2⟩,⟨h3,h4⟩,h5,h6⟩:=sH hp.1
   refine BJ (KL (D3 e) lim lim) (λ_=>(ZK hp.1).1) (λz hz _=>?_) x hx
   have:=(kO h1).1;have:=(kO h2).1;have:=(kO h3).1;have:=(kO h4).1;have:=(kO h5).1;have:=(kO h6).1
   simp only[D3,List.mem_cons,List.not_mem_nil,or_false] at hz
   rcases hz with rfl|rfl|rfl|rfl|rfl|rfl<;>assumption
end
end Go.Proofs.YtghemgdfmldoeaaGreat
