import Derived.Test.YtghemgdfmldoeaaGreatS13
set_option linter.unusedVariables false
set_option linter.unusedSimpArgs false

namespace Go.Proofs.YtghemgdfmldoeaaGreat
open Go.RowKit

set_option maxHeartbeats 1000000
set_option maxRecDepth 100000
section
def RetN(w:World)(a:Nm)(e:Ending)(w':World):Prop :=
 ∃n p l c,e=.returned (.agg #[.bool n,.slice p l c])/\NR w' n p l c a/\New w p/\Ext w w'
theorem made_of(n:Int)(lo hi:Nat)(neg:Bool)(hn:neg=decide (n<0))(hv:lo+4294967296*hi=n.natAbs)(hs:n.natAbs<4294967296 ^ 64):madeP neg [lo,hi]=(ofZ n,true):=by
 rw[madeP_fit]
 have e:(if neg=true then -(val [lo,hi]:Int) else (val [lo,hi]:Int))=n:=by
  have:val [lo,hi]=n.natAbs:=by simp[val];omega
  rw[this,hn]
  simp only[decide_eq_true_eq]
  split<;>omega
 rw[e,fit,small,if_pos (by simpa using hs)]
theorem row_two(W:World)(x y:Int)(lo hi B:Nat)(T:TypeId)(hx:x=(lo:Int))(hy:y=(hi:Int))(h1:lo<4294967296)(h2:hi<4294967296)(hB:B=W.heap.size) :
  Row (W.alloc (.cells #[.int .u32 x,.int .u32 y] T)) (some ⟨B,0,none⟩) 2 [lo,hi]:=by
 subst hx hy hB
 refine⟨by simp,by omega,Dig.cons h1 (Dig.cons h2 Dig.nil),fun _=>⟨_,0,rfl,by simp,fun i hi'=>?_⟩⟩
 have h:=heap_alloc_new W (.cells #[.int .u32 (lo:Int),.int .u32 (hi:Int)] T)
 rw[cell_of_row _ _ (0+i) _ _ _ h]
 simp only[List.length_cons,List.length_nil] at hi'
 match i,hi' with
 | 0,_=>rfl
 | 1,_=>rfl
theorem num_Of(n:Int)(w:World)(h1 : -9223372036854775808<=n)(h2:n<=9223372036854775807) :
  Calls Tryz.prog 96 #[.int .i64 n] w (RetN w (ofZ n)):=by
 have hp:(18446744073709551616:Nat)<=4294967296 ^ 64:=Nat.le_trans (by decide) (Nat.pow_le_pow_right (n:=4294967296) (i:=2) (by decide) (by decide))
 have HS:Hid (n.natAbs<4294967296 ^ 64):=Nat.lt_of_lt_of_le (show n.natAbs<18446744073709551616 by omega) hp
 clear hp
 by_cases hn:n<0
 ·go_enter Tryz.func96, Tryz.ntmps96
  go_wp2_with fail
  have e0:IntKind.u64.wrap n=n+18446744073709551616:=u64_neg _ (by omega)
  have e1:IntKind.u64.wrap (-(n+18446744073709551616)) = -n:=by rw[u64_neg _ (by omega)];omega
  rw[e0,e1]
  clear e0 e1
  have M:=Lib.hid (made_of n (n.natAbs%4294967296) (n.natAbs/4294967296) true (by simp[hn]) (by omega) HS.out)
  refine (num_made true [n.natAbs%4294967296,n.natAbs/4294967296] _ _ _ _ (row_two _ _ _ _ _ _ _ (by omega) (by omega) (by omega) (by omega) (by simp)) rfl).mono ?_
  rintro e w1 ⟨n',p',l',c',rfl,hnr,hnew,hx⟩
  rw[M.out] at hnr ⊢
  have hx0:Ext w w1:=Ext.step bxx hx
  obtain⟨_,⟨_,_,_⟩,_,_,_⟩:=keepK2 hx w.heap.size
  go_wp2
  refine bodyPost_ret (v:=.agg #[.bool n',.slice p' l' c']) (by simp[results,Tryz.results96,go_sem, *]) rfl ?_
  exact⟨n',p',l',c',rfl,(by repeat (first|assumption|refine NR.set ?_ (by assumption) _ (by first|(simp;done)|(simp;omega)|omega) _|refine NR.alloc ?_ _)),hnew.mono (by simp;omega),bxx⟩
 ·go_enter Tryz.func96, Tryz.ntmps96
  go_wp2_with fail
  have M:=Lib.hid (made_of n (n.natAbs%4294967296) (n.natAbs/4294967296) false (by simp[hn]) (by omega) HS.out)
  refine (num_made false [n.natAbs%4294967296,n.natAbs/4294967296] _ _ _ _ (row_two _ _ _ _ _ _ _ (by omega) (by omega) (by omega) (by omega) (by simp)) rfl).mono ?_
  rintro e w1 ⟨n',p',l',c',rfl,hnr,hnew,hx⟩
  rw[M.out] at hnr ⊢
  have hx0:Ext w w1:=Ext.step bxx hx
  obtain⟨_,⟨_,_,_⟩,_,_,_⟩:=keepK2 hx w.heap.size
  go_wp2
  refine bodyPost_ret (v:=.agg #[.bool n',.slice p' l' c']) (by simp[results,Tryz.results96,go_sem, *]) rfl ?_
  exact⟨n',p',l',c',rfl,(by repeat (first|assumption|refine NR.set ?_ (by assumption) _ (by first|(simp;done)|(simp;omega)|omega) _|refine NR.alloc ?_ _)),hnew.mono (by simp;omega),bxx⟩
end

set_option maxRecDepth 100000
section
structure Con where
 f:FuncId
 g:List V1->Option (AV×List Prop)
 ok:∀args res ps,g args=some (res,ps)->All ps->Fok Tryz.prog f args res
def tab:List Con->FuncId->Option (List V1->Option (AV×List Prop))
 | [],_=>none
 | c::l,f=>if c.f=f then some c.g else tab l f
theorem tab_ok:∀l:List Con,KOk Tryz.prog (tab l)
 | [],_,_,_,_,_,h=>by cases h
 | c::l,f,g,args,res,ps,h=>by
  unfold tab at h
  split at h
  ·rename_i e
   cases h
   subst e
   exact c.ok args res ps
  ·exact tab_ok l f g args res ps h
theorem prog_nm (f : FuncId) (fn : Func) (h : Tryz.prog.funcs[f]? = some fn) : (fn.name == "runtime.NumGoroutine") = false := by
 have h0 : (Tryz.prog.funcs.toList.all fun fn => !(fn.name == "runtime.NumGoroutine")) = true := by kernel_rfl
 have:=List.all_eq_true.1 h0 fn (by rw[Array.mem_toList_iff];exact Array.mem_of_getElem? h)
 simpa using this
theorem sc_int{x:Sc}(h:x.kind=0):∃z,x=.i z:=by cases x<;>first|exact⟨_,rfl⟩|cases h
theorem sc_bool{x:Sc}(h:x.kind=1):∃z,x=.b z:=by cases x<;>first|exact⟨_,rfl⟩|cases h
theorem sc_cons{xs:List Sc}{b:Nat}{n:List Nat}(h:xs.map Sc.kind=b::n):∃x l,xs=x::l/\x.kind=b/\l.map Sc.kind=n:=by
 cases xs with
 | nil=>cases h
 | cons x l=>simp only[List.map_cons,List.cons.injEq] at h;exact⟨x,l,rfl,h.1,h.2⟩
theorem sc_nil{xs:List Sc}(h:xs.map Sc.kind=[]):xs=[]:=by simpa using h
theorem equal_of{t:TypeId}{u v:Value}{e:Bool}{w:World}(hb:binOp .eql t u v=(do pure (.bool (<- Op.equal t u v))))(h:(binOp .eql t u v).run Tryz.prog w=.ok (.bool e) w):(Op.equal t u v).run Tryz.prog w=.ok e w:=by
 rw[hb,Sem.run_bind] at h
 cases hr:(Op.equal t u v).run Tryz.prog w with
 | ok b w' =>
  rw[hr] at h
  simp only[Result.andThen_ok,Sem.run_pure,Result.ok.injEq,Value.bool.injEq] at h
  rw[h.1,h.2]
 | halt x w'=>rw[hr] at h;cases h
theorem eq_pt:EqOk Tryz.prog 24 [0,0]:=by
 refine⟨by kernel_rfl,fun xs ys hx hy w=>?_⟩
 obtain⟨_,_,rfl,h1,hx⟩:=sc_cons hx
 obtain⟨_,_,rfl,h2,hx⟩:=sc_cons hx
 obtain rfl:=sc_nil hx
 obtain⟨_,_,rfl,h3,hy⟩:=sc_cons hy
 obtain⟨_,_,rfl,h4,hy⟩:=sc_cons hy
 obtain rfl:=sc_nil hy
 obtain⟨a,rfl⟩:=sc_int h1
 obtain⟨b,rfl⟩:=sc_int h2
 obtain⟨c,rfl⟩:=sc_int h3
 obtain⟨d,rfl⟩:=sc_int h4
 exact equal_of rfl (eql_pt w a b c d)
theorem eq_b2:EqOk Tryz.prog 175 [1,1]:=by
 refine⟨by kernel_rfl,fun xs ys hx hy w=>?_⟩
 obtain⟨_,_,rfl,h1,hx⟩:=sc_cons hx
 obtain⟨_,_,rfl,h2,hx⟩:=sc_cons hx
 obtain rfl:=sc_nil hx
 obtain⟨_,_,rfl,h3,hy⟩:=sc_cons hy
 obtain⟨_,_,rfl,h4,hy⟩:=sc_cons hy
 obtain rfl:=sc_nil hy
 obtain⟨a,rfl⟩:=sc_bool h1
 obtain⟨b,rfl⟩:=sc_bool h2
 obtain⟨c,rfl⟩:=sc_bool h3
 obtain⟨d,rfl⟩:=sc_bool h4
 cases a<;>cases b<;>cases c<;>cases d<;>kernel_rfl
theorem eql_Spot(w:World)(a0 a1 a2 a3 a4 a5 a6 b0 b1 b2 b3 b4 b5 b6:Int):(binOp .eql 87 (.agg #[.int .i64 a0,.int .i64 a1,.int .i64 a2,.int .i64 a3,.int .i64 a4,.int .i64 a5,.int .i64 a6]) (.agg #[.int .i64 b0,.int .i64 b1,.int .i64 b2,.int .i64 b3,.int .i64 b4,.int .i64 b5,.int .i64 b6])).run Tryz.prog w=.ok (.bool (a0==b0&&(a1==b1&&(a2==b2&&(a3==b3&&(a4==b4&&(a5==b5&&a6==b6))))))) w:=by
 by_cases h0:a0=b0
 rotate_left
 ·have g0 : (a0 == b0) = false := by simpa using h0
  go_simp
 subst h0
 by_cases h1:a1=b1
 rotate_left
 ·have g1 : (a1 == b1) = false := by simpa using h1
  go_simp
 subst h1
 by_cases h2:a2=b2
 rotate_left
 ·have g2 : (a2 == b2) = false := by simpa using h2
  go_simp
 subst h2
 by_cases h3:a3=b3
 rotate_left
 ·have g3 : (a3 == b3) = false := by simpa using h3
  go_simp
 subst h3
 by_cases h4:a4=b4
 rotate_left
 ·have g4 : (a4 == b4) = false := by simpa using h4
  go_simp
 subst h4
 by_cases h5:a5=b5
 rotate_left
 ·have g5 : (a5 == b5) = false := by simpa using h5
  go_simp
 subst h5
 by_cases h6:a6=b6
 rotate_left
 ·have g6 : (a6 == b6) = false := by simpa using h6
  go_simp
 subst h6
 go_simp
theorem eq_Spot:EqOk Tryz.prog 87 [0,0,0,0,0,0,0]:=by
 refine⟨by kernel_rfl,fun xs ys hx hy w=>?_⟩
 obtain⟨_,_,rfl,h0,hx⟩:=sc_cons hx
 obtain⟨_,_,rfl,h1,hx⟩:=sc_cons hx
 obtain⟨_,_,rfl,h2,hx⟩:=sc_cons hx
 obtain⟨_,_,rfl,h3,hx⟩:=sc_cons hx
 obtain⟨_,_,rfl,h4,hx⟩:=sc_cons hx
 obtain⟨_,_,rfl,h5,hx⟩:=sc_cons hx
 obtain⟨_,_,rfl,h6,hx⟩:=sc_cons hx
 obtain rfl:=sc_nil hx
 obtain⟨_,_,rfl,k0,hy⟩:=sc_cons hy
 obtain⟨_,_,rfl,k1,hy⟩:=sc_cons hy
 obtain⟨_,_,rfl,k2,hy⟩:=sc_cons hy
 obtain⟨_,_,rfl,k3,hy⟩:=sc_cons hy
 obtain⟨_,_,rfl,k4,hy⟩:=sc_cons hy
 obtain⟨_,_,rfl,k5,hy⟩:=sc_cons hy
 obtain⟨_,_,rfl,k6,hy⟩:=sc_cons hy
 obtain rfl:=sc_nil hy
 obtain⟨_,rfl⟩:=sc_int h0
 obtain⟨_,rfl⟩:=sc_int k0
 obtain⟨_,rfl⟩:=sc_int h1
 obtain⟨_,rfl⟩:=sc_int k1
 obtain⟨_,rfl⟩:=sc_int h2
 obtain⟨_,rfl⟩:=sc_int k2
 obtain⟨_,rfl⟩:=sc_int h3
 obtain⟨_,rfl⟩:=sc_int k3
 obtain⟨_,rfl⟩:=sc_int h4
 obtain⟨_,rfl⟩:=sc_int k4
 obtain⟨_,rfl⟩:=sc_int h5
 obtain⟨_,rfl⟩:=sc_int k5
 obtain⟨_,rfl⟩:=sc_int h6
 obtain⟨_,rfl⟩:=sc_int k6
 exact equal_of rfl (eql_Spot w _ _ _ _ _ _ _ _ _ _ _ _ _ _)
theorem eql_Edge(w:World)(a0 a1 a2 a3 a4 a5 a6 b0 b1 b2 b3 b4 b5 b6:Int):(binOp .eql 108 (.agg #[.int .i64 a0,.int .i64 a1,.int .i64 a2,.int .i64 a3,.int .i64 a4,.int .i64 a5,.int .i64 a6]) (.agg #[.int .i64 b0,.int .i64 b1,.int .i64 b2,.int .i64 b3,.int .i64 b4,.int .i64 b5,.int .i64 b6])).run Tryz.prog w=.ok (.bool (a0==b0&&(a1==b1&&(a2==b2&&(a3==b3&&(a4==b4&&(a5==b5&&a6==b6))))))) w:=by
 by_cases h0:a0=b0
 rotate_left
 ·have g0 : (a0 == b0) = false := by simpa using h0
  go_simp
 subst h0
 by_cases h1:a1=b1
 rotate_left
 ·have g1 : (a1 == b1) = false := by simpa using h1
  go_simp
 subst h1
 by_cases h2:a2=b2
 rotate_left
 ·have g2 : (a2 == b2) = false := by simpa using h2
  go_simp
 subst h2
 by_cases h3:a3=b3
 rotate_left
 ·have g3 : (a3 == b3) = false := by simpa using h3
  go_simp
 subst h3
 by_cases h4:a4=b4
 rotate_left
 ·have g4 : (a4 == b4) = false := by simpa using h4
  go_simp
 subst h4
 by_cases h5:a5=b5
 rotate_left
 ·have g5 : (a5 == b5) = false := by simpa using h5
  go_simp
 subst h5
 by_cases h6:a6=b6
 rotate_left
 ·have g6 : (a6 == b6) = false := by simpa using h6
  go_simp
 subst h6
 go_simp
theorem eq_Edge:EqOk Tryz.prog 108 [0,0,0,0,0,0,0]:=by
 refine⟨by kernel_rfl,fun xs ys hx hy w=>?_⟩
 obtain⟨_,_,rfl,h0,hx⟩:=sc_cons hx
 obtain⟨_,_,rfl,h1,hx⟩:=sc_cons hx
 obtain⟨_,_,rfl,h2,hx⟩:=sc_cons hx
 obtain⟨_,_,rfl,h3,hx⟩:=sc_cons hx
 obtain⟨_,_,rfl,h4,hx⟩:=sc_cons hx
 obtain⟨_,_,rfl,h5,hx⟩:=sc_cons hx
 obtain⟨_,_,rfl,h6,hx⟩:=sc_cons hx
 obtain rfl:=sc_nil hx
 obtain⟨_,_,rfl,k0,hy⟩:=sc_cons hy
 obtain⟨_,_,rfl,k1,hy⟩:=sc_cons hy
 obtain⟨_,_,rfl,k2,hy⟩:=sc_cons hy
 obtain⟨_,_,rfl,k3,hy⟩:=sc_cons hy
 obtain⟨_,_,rfl,k4,hy⟩:=sc_cons hy
 obtain⟨_,_,rfl,k5,hy⟩:=sc_cons hy
 obtain⟨_,_,rfl,k6,hy⟩:=sc_cons hy
 obtain rfl:=sc_nil hy
 obtain⟨_,rfl⟩:=sc_int h0
 obtain⟨_,rfl⟩:=sc_int k0
 obtain⟨_,rfl⟩:=sc_int h1
 obtain⟨_,rfl⟩:=sc_int k1
 obtain⟨_,rfl⟩:=sc_int h2
 obtain⟨_,rfl⟩:=sc_int k2
 obtain⟨_,rfl⟩:=sc_int h3
 obtain⟨_,rfl⟩:=sc_int k3
 obtain⟨_,rfl⟩:=sc_int h4
 obtain⟨_,rfl⟩:=sc_int k4
 obtain⟨_,rfl⟩:=sc_int h5
 obtain⟨_,rfl⟩:=sc_int k5
 obtain⟨_,rfl⟩:=sc_int h6
 obtain⟨_,rfl⟩:=sc_int k6
 exact equal_of rfl (eql_Edge w _ _ _ _ _ _ _ _ _ _ _ _ _ _)
theorem eql_mot(w:World)(a0 a1 a2 b0 b1 b2:Int)(a3 b3:Bool):(binOp .eql 74 (.agg #[.int .i64 a0,.int .i64 a1,.int .i64 a2,.bool a3]) (.agg #[.int .i64 b0,.int .i64 b1,.int .i64 b2,.bool b3])).run Tryz.prog w=.ok (.bool (a0==b0&&(a1==b1&&(a2==b2&&a3==b3)))) w:=by
 by_cases h0:a0=b0
 rotate_left
 ·have g0 : (a0 == b0) = false := by simpa using h0
  go_simp
 subst h0
 by_cases h1:a1=b1
 rotate_left
 ·have g1 : (a1 == b1) = false := by simpa using h1
  go_simp
 subst h1
 by_cases h2:a2=b2
 rotate_left
 ·have g2 : (a2 == b2) = false := by simpa using h2
  go_simp
 subst h2
 go_simp
 cases a3<;>cases b3<;>rfl
theorem eq_mot:EqOk Tryz.prog 74 [0,0,0,1]:=by
 refine⟨by kernel_rfl,fun xs ys hx hy w=>?_⟩
 obtain⟨_,_,rfl,h0,hx⟩:=sc_cons hx
 obtain⟨_,_,rfl,h1,hx⟩:=sc_cons hx
 obtain⟨_,_,rfl,h2,hx⟩:=sc_cons hx
 obtain⟨_,_,rfl,h3,hx⟩:=sc_cons hx
 obtain rfl:=sc_nil hx
 obtain⟨_,_,rfl,k0,hy⟩:=sc_cons hy
 obtain⟨_,_,rfl,k1,hy⟩:=sc_cons hy
 obtain⟨_,_,rfl,k2,hy⟩:=sc_cons hy
 obtain⟨_,_,rfl,k3,hy⟩:=sc_cons hy
 obtain rfl:=sc_nil hy
 obtain⟨_,rfl⟩:=sc_int h0
 obtain⟨_,rfl⟩:=sc_int k0
 obtain⟨_,rfl⟩:=sc_int h1
 obtain⟨_,rfl⟩:=sc_int k1
 obtain⟨_,rfl⟩:=sc_int h2
 obtain⟨_,rfl⟩:=sc_int k2
 obtain⟨_,rfl⟩:=sc_bool h3
 obtain⟨_,rfl⟩:=sc_bool k3
 exact equal_of rfl (eql_mot w _ _ _ _ _ _ _ _)
theorem sc_str{x:Sc}(h:x.kind=2):∃z,x=.s z:=by cases x<;>first|exact⟨_,rfl⟩|cases h
theorem eql_prb(w:World)(a0 a3 a4 a5 b0 b3 b4 b5:Int)(a1 a2 b1 b2:ByteArray):(binOp .eql 64 (.agg #[.int .i64 a0,.string a1,.string a2,.int .i64 a3,.int .i64 a4,.int .i64 a5]) (.agg #[.int .i64 b0,.string b1,.string b2,.int .i64 b3,.int .i64 b4,.int .i64 b5])).run Tryz.prog w=.ok (.bool (a0==b0&&(a1==b1&&(a2==b2&&(a3==b3&&(a4==b4&&a5==b5)))))) w:=by
 by_cases h0:a0=b0
 rotate_left
 ·have g0 : (a0 == b0) = false := by simpa using h0
  go_simp
 subst h0
 have e1:=beq_toListBytes a1 b1
 have e2:=beq_toListBytes a2 b2
 by_cases h1:a1.toList=b1.toList
 rotate_left
 ·have g1 : (a1 == b1) = false := by rw [e1]; simpa using h1
  clear e1 e2
  go_simp
 by_cases h2:a2.toList=b2.toList
 rotate_left
 ·have g1 : (a1 == b1) = true := by rw [e1]; simpa using h1
  have g2:(a2==b2)=false:=by rw[e2];simpa using h2
  clear e1 e2
  go_simp
 have g1:(a1==b1)=true:=by rw[e1];simpa using h1
 have g2:(a2==b2)=true:=by rw[e2];simpa using h2
 clear e1 e2
 by_cases h3:a3=b3
 rotate_left
 ·have g3 : (a3 == b3) = false := by simpa using h3
  go_simp
 subst h3
 by_cases h4:a4=b4
 rotate_left
 ·have g4 : (a4 == b4) = false := by simpa using h4
  go_simp
 subst h4
 by_cases h5:a5=b5
 rotate_left
 ·have g5 : (a5 == b5) = false := by simpa using h5
  go_simp
 subst h5
 go_simp
theorem eq_prb:EqOk Tryz.prog 64 [0,2,2,0,0,0]:=by
 refine⟨by kernel_rfl,fun xs ys hx hy w=>?_⟩
 obtain⟨_,_,rfl,h0,hx⟩:=sc_cons hx
 obtain⟨_,_,rfl,h1,hx⟩:=sc_cons hx
 obtain⟨_,_,rfl,h2,hx⟩:=sc_cons hx
 obtain⟨_,_,rfl,h3,hx⟩:=sc_cons hx
 obtain⟨_,_,rfl,h4,hx⟩:=sc_cons hx
 obtain⟨_,_,rfl,h5,hx⟩:=sc_cons hx
 obtain rfl:=sc_nil hx
 obtain⟨_,_,rfl,k0,hy⟩:=sc_cons hy
 obtain⟨_,_,rfl,k1,hy⟩:=sc_cons hy
 obtain⟨_,_,rfl,k2,hy⟩:=sc_cons hy
 obtain⟨_,_,rfl,k3,hy⟩:=sc_cons hy
 obtain⟨_,_,rfl,k4,hy⟩:=sc_cons hy
 obtain⟨_,_,rfl,k5,hy⟩:=sc_cons hy
 obtain rfl:=sc_nil hy
 obtain⟨_,rfl⟩:=sc_int h0
 obtain⟨_,rfl⟩:=sc_int k0
 obtain⟨_,rfl⟩:=sc_str h1
 obtain⟨_,rfl⟩:=sc_str k1
 obtain⟨_,rfl⟩:=sc_str h2
 obtain⟨_,rfl⟩:=sc_str k2
 obtain⟨_,rfl⟩:=sc_int h3
 obtain⟨_,rfl⟩:=sc_int k3
 obtain⟨_,rfl⟩:=sc_int h4
 obtain⟨_,rfl⟩:=sc_int k4
 obtain⟨_,rfl⟩:=sc_int h5
 obtain⟨_,rfl⟩:=sc_int k5
 exact equal_of rfl (eql_prb w _ _ _ _ _ _ _ _ _ _ _ _)
theorem eql_pin(w:World)(a1 a2 b1 b2:ByteArray):(binOp .eql 62 (.agg #[.string a1,.string a2]) (.agg #[.string b1,.string b2])).run Tryz.prog w=.ok (.bool (a1==b1&&a2==b2)) w:=by
 have e1:=beq_toListBytes a1 b1
 have e2:=beq_toListBytes a2 b2
 by_cases h1:a1.toList=b1.toList
 rotate_left
 ·have g1 : (a1 == b1) = false := by rw [e1]; simpa using h1
  clear e1 e2
  go_simp
 by_cases h2:a2.toList=b2.toList
 rotate_left
 ·have g1 : (a1 == b1) = true := by rw [e1]; simpa using h1
  have g2:(a2==b2)=false:=by rw[e2];simpa using h2
  clear e1 e2
  go_simp
 have g1:(a1==b1)=true:=by rw[e1];simpa using h1
 have g2:(a2==b2)=true:=by rw[e2];simpa using h2
 clear e1 e2
 go_simp
theorem eq_pin:EqOk Tryz.prog 62 [2,2]:=by
 refine⟨by kernel_rfl,fun xs ys hx hy w=>?_⟩
 obtain⟨_,_,rfl,h1,hx⟩:=sc_cons hx
 obtain⟨_,_,rfl,h2,hx⟩:=sc_cons hx
 obtain rfl:=sc_nil hx
 obtain⟨_,_,rfl,k1,hy⟩:=sc_cons hy
 obtain⟨_,_,rfl,k2,hy⟩:=sc_cons hy
 obtain rfl:=sc_nil hy
 obtain⟨_,rfl⟩:=sc_str h1
 obtain⟨_,rfl⟩:=sc_str k1
 obtain⟨_,rfl⟩:=sc_str h2
 obtain⟨_,rfl⟩:=sc_str k2
 exact equal_of rfl (eql_pin w _ _ _ _)
def EQ:List (TypeId×List Nat):=[(24,[0,0]),(175,[1,1]),(87,[0,0,0,0,0,0,0]),(108,[0,0,0,0,0,0,0])
 , (74,[0,0,0,1]),(64,[0,2,2,0,0,0]),(62,[2,2])
 ]
theorem lookup_all{l:List (TypeId×List Nat)}(H:∀x∈l,EqOk Tryz.prog x.1 x.2){t:TypeId}{n:List Nat}(h:l.lookup t=some n):EqOk Tryz.prog t n:=by
 induction l with
 | nil=>cases h
 | cons x l ih =>
  obtain⟨u,m⟩:=x
  simp only[List.lookup] at h
  split at h
  ·rename_i e
   cases h
   rw[beq_iff_eq.1 e]
   exact H _ (List.mem_cons_self ..)
  ·exact ih (fun y hy=>H y (List.mem_cons_of_mem _ hy)) h
theorem EQ_ok(t:TypeId)(n:List Nat)(h:EQ.lookup t=some n):EqOk Tryz.prog t n:=by
 suffices H:∀x∈EQ,EqOk Tryz.prog x.1 x.2 by exact lookup_all (l:=EQ) (t:=t) (n:=n) H h
 clear h
 unfold EQ
 refine List.forall_mem_cons.2 ⟨eq_pt,List.forall_mem_cons.2 ⟨eq_b2,List.forall_mem_cons.2 ⟨eq_Spot,List.forall_mem_cons.2 ⟨eq_Edge,?_⟩⟩⟩⟩
 refine List.forall_mem_cons.2 ⟨eq_mot,List.forall_mem_cons.2 ⟨eq_prb,List.forall_mem_cons.2 ⟨eq_pin,?_⟩⟩⟩
 exact nofun
theorem fok0{f:FuncId}{args:List V1}{res:AV}(h:aFun Tryz.prog ⟨[],[],[],[],[]⟩ (fun _=>none) 40 f args []=some ((res,[]),[],[])):Fok Tryz.prog f args res :=
 FokB.toO ((aFun_ok prog_nm (E:=⟨[],[],[],[],[]⟩) (fun _ _ h=>by cases h) (fun _ _ h=>by cases h) (fun _ _ _ _ h=>by cases h) (fun _ h=>by cases h) (fun _ _ _ _ _ h=>by cases h) 40).ok f args [] (res,[]) _ [] h trivial)
theorem mt_of{T:TypeId}{name:String}{n:Int}{wd:Nat}{f:FuncId}{fn:Func}{cb:Code}(hm:∀v w,(method (Tryz.prog.types.size+Made.depth) T v name).run Tryz.prog w=Result.ok (f,v) w)(h1:Tryz.prog.funcs[f]? = some fn)(h2:fn.body=some cb)(hF:∀l,l.length=wd->Fok Tryz.prog f [⟨true,intsI l⟩] (.one ⟨false,[.k n]⟩))(hi:I64 n):MtOk Tryz.prog T name n wd:=by
 refine⟨hi,fun o c x l a w ho hc ha hx hwd=>?_⟩
 have hnm:=prog_nm f fn h1
 have hrun:(execOp a.eval o).run Tryz.prog w=.ok (.enter f #[.agg (l.map fun x:Int×Nat=>Value.int .i64 x.1).toArray]) w:=by
  have e0:c.args=#[]:=Array.eq_empty_of_size_eq_zero ha
  have h3 : fn.name ≠ "runtime.NumGoroutine" := by simpa using hnm
  have e1:∀v,(callMethod (.iface T v) name #[]).run Tryz.prog w=.ok (.enter f #[v]) w:=fun v=>by
   simp only[callMethod,Sem.run_bind,run_program,hm,Result.andThen_ok,callFunc,h1]
   simp[h3,h2]
  unfold execOp
  simp only[ho,resolve,hc,e0,hx.1,Sem.run_bind,Sem.run_pure,Result.andThen_ok,invoke]
  generalize (Value.agg (l.map fun x:Int×Nat=>Value.int .i64 x.1).toArray)=v
  rw[show #[Value.iface T v]++Array.map a.eval #[]=#[Value.iface T v] by simp]
  have e2:(#[Value.iface T v].extract 1)=#[]:=by simp
  simp only[List.getElem?_toArray,List.getElem?_cons_zero]
  rw[e2]
  exact e1 v
 refine gives_enter hrun ?_
 refine (hF l hwd w [_] ⟨_,_,rfl,⟨_,rl_map (fun x hx'=>⟨rfl,hx.2 x hx'⟩),rfl,nofun⟩,rfl⟩).mono fun e w' ⟨v,e1,h1,h2⟩=>⟨v,e1,?_,h2⟩
 simpa using h1.scal.1
theorem len_s{α:Type}{l:List α}{n:Nat}(h:l.length=n+1):∃x m,l=x::m/\m.length=n:=by
 cases l with
 | nil=>simp at h
 | cons x m=>exact⟨x,m,rfl,by simpa using h⟩
def MT : List ((TypeId × String) × Int × Nat) := [((223, "etchant/meet.kind"), 0, 2), ((225, "etchant/meet.kind"), 1, 4), ((228, "etchant/meet.kind"), 2, 7)]
theorem mt_point : MtOk Tryz.prog 223 "etchant/meet.kind" 0 2 := by
 refine mt_of (f:=318) (fun v w=>by kernel_rfl) Tryz.func318 rfl (fun l h0=>?_) (by unfold I64;omega)
 obtain⟨x0,l0,rfl,h1⟩:=len_s h0
 obtain⟨x1,l1,rfl,h2⟩:=len_s h1
 obtain rfl:=List.eq_nil_of_length_eq_zero h2
 exact fok0 (by kernel_rfl)
theorem mt_line : MtOk Tryz.prog 225 "etchant/meet.kind" 1 4 := by
 refine mt_of (f:=319) (fun v w=>by kernel_rfl) Tryz.func319 rfl (fun l h0=>?_) (by unfold I64;omega)
 obtain⟨x0,l0,rfl,h1⟩:=len_s h0
 obtain⟨x1,l1,rfl,h2⟩:=len_s h1
 obtain⟨x2,l2,rfl,h3⟩:=len_s h2
 obtain⟨x3,l3,rfl,h4⟩:=len_s h3
 obtain rfl:=List.eq_nil_of_length_eq_zero h4
 exact fok0 (by kernel_rfl)
theorem mt_arc : MtOk Tryz.prog 228 "etchant/meet.kind" 2 7 := by
 refine mt_of (f:=320) (fun v w=>by kernel_rfl) Tryz.func320 rfl (fun l h0=>?_) (by unfold I64;omega)
 obtain⟨x0,l0,rfl,h1⟩:=len_s h0
 obtain⟨x1,l1,rfl,h2⟩:=len_s h1
 obtain⟨x2,l2,rfl,h3⟩:=len_s h2
 obtain⟨x3,l3,rfl,h4⟩:=len_s h3
 obtain⟨x4,l4,rfl,h5⟩:=len_s h4
 obtain⟨x5,l5,rfl,h6⟩:=len_s h5
 obtain⟨x6,l6,rfl,h7⟩:=len_s h6
 obtain rfl:=List.eq_nil_of_length_eq_zero h7
 exact fok0 (by kernel_rfl)
theorem MT_ok(T:TypeId)(name:String)(n:Int)(wd:Nat)(h:MT.lookup (T,name)=some (n,wd)):MtOk Tryz.prog T name n wd:=by
 unfold MT at h
 simp only[List.lookup] at h
 split at h
 ·rename_i e
  cases h
  obtain⟨rfl,rfl⟩:=Prod.mk.inj (beq_iff_eq.1 e)
  exact mt_point
 ·split at h
  ·rename_i e
   cases h
   obtain⟨rfl,rfl⟩:=Prod.mk.inj (beq_iff_eq.1 e)
   exact mt_line
  ·split at h
   ·rename_i e
    cases h
    obtain⟨rfl,rfl⟩:=Prod.mk.inj (beq_iff_eq.1 e)
    exact mt_arc
   ·cases h
structure Eff where
 f:FuncId
 g:EffF
 ok:EffOk Tryz.prog f g
def WR:List FuncId:=[146]
theorem WR_ok(f:FuncId)(h:WR.contains f=true):WrapOk Tryz.prog f:=by
 obtain rfl:f=146:=by simpa[WR] using h
 exact guard_wrap
def LTS(X:List Eff):List TypeId :=
 if X.any (fun x=>x.f==10) then [108,72,78,64,74,30,24] else
 []
def env(X:List Eff):Env:=⟨EQ,X.map (fun x=>(x.f,x.g)),MT,WR,LTS X⟩
theorem env_ok(X:List Eff)(f:FuncId)(g:EffF)(h:(env X).eff.lookup f=some g):EffOk Tryz.prog f g:=by
 induction X with
 | nil=>cases h
 | cons x X ih =>
  simp only[env,List.map_cons,List.lookup] at h ih
  split at h
  ·rename_i e
   cases h
   rw[beq_iff_eq.1 e]
   exact x.ok
  ·exact ih h
theorem fokB{f:FuncId}{args:List V1}{res:AV}(K:List Con)(q:List Bool)(pf:List Pf)(X:List Eff)(h:aFun Tryz.prog (env X) (tab K) 40 f args q=some ((res,[]),pf.map Pf.p,[])):Fok Tryz.prog f args res :=
 FokB.toO ((aFun_ok prog_nm EQ_ok (env_ok X) MT_ok WR_ok (tab_ok K) 40).ok f args q (res,[]) _ [] h (all_pf pf))
theorem lax_i{V W:World}{r:Nat->Nat}{k:Nat}{i:It}{cs:List Value}(h1:RepI V W r k i cs):RepI V W r k (laxI i) cs:=by
 cases i with
 | i z B=>exact⟨h1.1,by have:=h1.2.2;unfold I64 at this;unfold lim;omega,h1.2.2⟩
 | b k=>exact⟨h1,rfl⟩
 | k n=>exact⟨h1.1,by have:=h1.2;unfold I64 at this;unfold lim;omega,h1.2⟩
 | _=>exact h1
theorem lax_l{V W:World}{r:Nat->Nat}{k:Nat}:∀ {l:List It} {cs:List Value},RepL V W r k l cs->RepL V W r k (laxL l) cs
 | [],_,e=>e
 | i::l,_,⟨c,d,e,h1,h2⟩=>by
  unfold laxL
  split
  ·obtain ⟨c2, d2, e2, h3, h4⟩ := h2
   subst e2 e
   cases h1
   rw[h3.1]
   exact⟨[_,_],d2,rfl,⟨_,_,_,_,rfl,⟨rfl,rfl,Row.nil _⟩⟩,lax_l h4⟩
  ·exact⟨c,d,e,lax_i h1,lax_l h2⟩
theorem lax_v{V W:World}{r:Nat->Nat}{k:Nat}{v:V1}{x:Value}:RepV V W r k v x->RepV V W r k (laxV v) x
 | ⟨cs,h1,h2,h3⟩=>⟨cs,lax_l h1,h2,h3⟩
theorem lax_vs{V W:World}{r:Nat->Nat}{k:Nat}:∀ {l:List V1} {xs:List Value},RepVs V W r k l xs->RepVs V W r k (l.map laxV) xs
 | [],_,e=>e
 | _::_,_,⟨x,ys,e,h1,h2⟩=>⟨x,ys,e,lax_v h1,lax_vs h2⟩
theorem lax_a{V W:World}{r:Nat->Nat}{k:Nat}:∀ {v:AV} {x:Value},RepA V W r k v x->RepA V W r k (laxA v) x
 | .und,_,e=>e
 | .any,_,e=>e
 | .one _,_,e=>lax_v e
 | .tup _,_,⟨xs,e,h⟩=>⟨xs,e,lax_vs h⟩
theorem Fok.mono{f:FuncId}{args:List V1}{res res':AV}(h:Fok Tryz.prog f args res)(hr:∀V W x,RepA V W (fun _=>0) 0 res x->RepA V W (fun _=>0) 0 res' x):Fok Tryz.prog f args res' :=
 fun W vals hv=>(h W vals hv).mono fun _ _ ⟨v,h1,h2,h3⟩=>⟨v,h1,hr _ _ _ h2,h3⟩
theorem fokX{f:FuncId}{args:List V1}{res:AV}(X:List Eff)(K:List Con)(q:List Bool)(pf:List Pf)(h:(aFun Tryz.prog (env X) (tab K) 40 f args q).map (fun z=>((laxA z.1.1,z.1.2),z.2))=some ((res,[]),pf.map Pf.p,[])):Fok Tryz.prog f args res:=by
 cases hz:aFun Tryz.prog (env X) (tab K) 40 f args q with
 | none=>rw[hz] at h;cases h
 | some z =>
  obtain⟨⟨z0,z1⟩,z2,z3⟩:=z
  rw[hz] at h
  simp only[Option.map_some,Option.some.injEq,Prod.mk.injEq] at h
  obtain⟨⟨rfl,rfl⟩,rfl,rfl⟩:=h
  exact (fokB K q pf X hz).mono fun _ _ _ h=>lax_a h
theorem fok{f:FuncId}{args:List V1}{res:AV}(K:List Con)(q:List Bool)(pf:List Pf)(h:(aFun Tryz.prog (env []) (tab K) 40 f args q).map (fun z=>((laxA z.1.1,z.1.2),z.2))=some ((res,[]),pf.map Pf.p,[])):Fok Tryz.prog f args res:=fokX [] K q pf h
section
variable {V W:World} {r:Nat->Nat} {k:Nat}
theorem rl_nil{cs:List Value}:RepL V W r k [] cs <-> cs=[]:=Iff.rfl
theorem rl_i{z:Int}{B:Nat}{l:List It}{cs:List Value}:RepL V W r k (.i z B::l) cs <-> (z.natAbs<=B/\I64 z)/\∃d,cs=.int .i64 z::d/\RepL V W r k l d :=
 ⟨fun ⟨c,d,e,⟨h1,h2⟩,h3⟩=>⟨h2,d,by rw[e,h1];rfl,h3⟩,fun ⟨h,d,e,h3⟩=>⟨[_],d,e,⟨rfl,h⟩,h3⟩⟩
theorem rl_v{x:Value}{l:List It}{cs:List Value}:RepL V W r k (.v x::l) cs <-> okV x=true/\∃d,cs=x::d/\RepL V W r k l d :=
 ⟨fun ⟨c,d,e,⟨h1,h2⟩,h3⟩=>⟨h2,d,by rw[e,h1];rfl,h3⟩,fun ⟨h,d,e,h3⟩=>⟨[_],d,e,⟨rfl,h⟩,h3⟩⟩
theorem rl_b{x:Bool}{l:List It}{cs:List Value}:RepL V W r k (.b x::l) cs <-> ∃d,cs=.bool x::d/\RepL V W r k l d :=
 ⟨fun ⟨c,d,e,h2,h3⟩=>⟨d,by rw[e,show c=[Value.bool x] from h2];rfl,h3⟩,fun ⟨d,e,h3⟩=>⟨[_],d,e,rfl,h3⟩⟩
theorem rl_num{x:Nm}{l:List It}{cs:List Value}:RepL V W r k (.d (.num x)::l) cs <-> ∃n p m c,NR W n p m c x/\∃d,cs=.bool n::.slice p m c::d/\RepL V W r k l d :=
 ⟨fun ⟨c,d,e,⟨n,p,m,c',h1,h2⟩,h3⟩=>⟨n,p,m,c',h2,d,by rw[e,h1];rfl,h3⟩,fun ⟨n,p,m,c',h,d,e,h3⟩=>⟨[_,_],d,e,⟨n,p,m,c',rfl,h⟩,h3⟩⟩
theorem rv_t{l:List It}{x:Value}:RepV V W r k ⟨true,l⟩ x <-> ∃cs,RepL V W r k l cs/\x=.agg cs.toArray :=
 ⟨fun ⟨cs,h1,h2,_⟩=>⟨cs,h1,h2⟩,fun ⟨cs,h1,h2⟩=>⟨cs,h1,h2,nofun⟩⟩
theorem rv_i{z:Int}{B:Nat}{x:Value}:RepV V W r k ⟨false,[.i z B]⟩ x <-> (z.natAbs<=B/\I64 z)/\x=.int .i64 z :=
 ⟨fun h=>⟨h.scal.2,by simpa using h.scal.1⟩,fun ⟨h,e⟩=>RepI.val ⟨by rw[e],h⟩⟩
theorem rv_v{v x:Value}:RepV V W r k ⟨false,[.v v]⟩ x <-> okV v=true/\x=v :=
 ⟨fun h=>⟨h.scal.2,by simpa using h.scal.1⟩,fun ⟨h,e⟩=>RepI.val ⟨by rw[e],h⟩⟩
theorem rvs_nil{xs:List Value}:RepVs V W r k [] xs <-> xs=[]:=Iff.rfl
theorem rvs_cons{v:V1}{l:List V1}{xs:List Value}:RepVs V W r k (v::l) xs <-> ∃x,RepV V W r k v x/\∃ys,xs=x::ys/\RepVs V W r k l ys :=
 ⟨fun ⟨x,ys,e,h1,h2⟩=>⟨x,h1,ys,e,h2⟩,fun ⟨x,h1,ys,e,h2⟩=>⟨x,ys,e,h1,h2⟩⟩
end
def nmV(x:Nm):V1:=⟨true,[.d (.num x)]⟩
def blV(b:Bool):V1:=⟨false,[.v (.bool b)]⟩
def inV(z:Int)(B:Nat):V1:=⟨false,[.i z B]⟩
def ptV(x y:Int)(B:Nat):V1:=⟨true,[.i x B,.i y B]⟩
abbrev Gv(res:AV)(w:World)(e:Ending)(w':World):Prop:=∃v,e=.returned v/\RepA w' w' (fun _=>0) 0 res v/\Ext w w'
theorem gv_nm{x:Nm}{w:World}{e:Ending}{w':World}(h:RetN w x e w'):Gv (.one (nmV x)) w e w':=by
 obtain⟨n,p,l,c,rfl,h1,_,h2⟩:=h
 exact⟨_,rfl,rv_t.2 ⟨_,rl_num.2 ⟨n,p,l,c,h1,[],rfl,rfl⟩,rfl⟩,h2⟩
theorem gv_nb{x:Nm×Bool}{w:World}{e:Ending}{w':World}(h:RetNum w x e w'):Gv (.tup [nmV x.1,blV x.2]) w e w':=by
 obtain⟨n,p,l,c,rfl,h1,_,h2⟩:=h
 exact⟨_,rfl,⟨[_,_],rfl,rvs_cons.2 ⟨_,rv_t.2 ⟨_,rl_num.2 ⟨n,p,l,c,h1,[],rfl,rfl⟩,rfl⟩,_,rfl,rvs_cons.2 ⟨_,rv_v.2 ⟨rfl,rfl⟩,_,rfl,rfl⟩⟩⟩,h2⟩
theorem gv_bl{b:Bool}{w:World}{e:Ending}{w':World}(h:e=.returned (.bool b)/\Ext w w'):Gv (.one (blV b)) w e w':=⟨_,h.1,rv_v.2 ⟨rfl,rfl⟩,h.2⟩
theorem gv_in{z:Int}{B:Nat}{w:World}{e:Ending}{w':World}(hB:z.natAbs<=B/\I64 z)(h:e=.returned (.int .i64 z)/\Ext w w'):Gv (.one (inV z B)) w e w':=⟨_,h.1,rv_i.2 ⟨hB,rfl⟩,h.2⟩
end

set_option maxRecDepth 100000
section
theorem lim64{z:Int}(h:I64 z):z.natAbs<=lim/\I64 z:=⟨by unfold I64 at h;unfold lim;omega,h⟩
def c26:Nat:=67108864
def edV(e:Ed)(K B:Nat):V1:=⟨true,[.i e.k K,.i e.ax B,.i e.ay B,.i e.bx B,.i e.by' B,.i e.cx B,.i e.cy B]⟩
def toEd:List It->Option Ed
 | [.i k _,.i ax _,.i ay _,.i bx _,.i by' _,.i cx _,.i cy _]=>some ⟨k,ax,ay,bx,by',cx,cy⟩
 | _=>none
theorem toEd_rep{l:List It}{e:Ed}{V W:World}{r:Nat->Nat}{k:Nat}{x:Value}(h:toEd l=some e)(hr:RepV V W r k ⟨true,l⟩ x) :
  x=.agg #[.int .i64 e.k,.int .i64 e.ax,.int .i64 e.ay,.int .i64 e.bx,.int .i64 e.by',.int .i64 e.cx,.int .i64 e.cy]:=by
 unfold toEd at h
 split at h<;>cases h
 simp only[rv_t,rl_i,rl_nil] at hr
 obtain⟨_,⟨_,_,rfl,_,_,rfl,_,_,rfl,_,_,rfl,_,_,rfl,_,_,rfl,_,_,rfl,rfl⟩,rfl⟩:=hr
 rfl
def cVRight:Con where
 f:=183
 g:=fun | [⟨true,[.i x _,.i y _]⟩]=>some (.one (blV (coordB x y)),[])|_=>none
 ok:=by
  intro args res ps h _
  split at h<;>cases h
  intro W vals hv
  simp only[rvs_cons,rvs_nil,rv_t,rl_i,rl_nil] at hv
  obtain⟨_,⟨_,⟨_,_,rfl,_,_,rfl,rfl⟩,rfl⟩,_,rfl,rfl⟩:=hv
  exact (vec_Right _ _ W).mono fun _ _ h=>gv_bl h
def cTurns:Con where
 f:=87
 g:=fun | [⟨true,[.i _ _,.i _ _,.i n _,.v (.bool _)]⟩]=>if 0<=n/\n<=3 then some (.one ⟨false,[.k n]⟩,[]) else none|_=>none
 ok:=by
  intro args res ps h hp
  split at h<;>try cases h
  split at h<;>cases h
  rename_i hn
  intro W vals hv
  simp only[rvs_cons,rvs_nil,rv_t,rl_i,rl_v,rl_nil] at hv
  obtain⟨_,⟨_,⟨_,_,rfl,_,_,rfl,_,_,rfl,_,_,rfl,rfl⟩,rfl⟩,_,rfl,rfl⟩:=hv
  exact (vec_turns _ _ _ _ W hn).mono fun _ _ h=>⟨_,h.1,RepI.val (i:=.k _) ⟨rfl,by unfold I64;omega⟩,h.2⟩
theorem i64_0:I64 0:=by unfold I64;omega
abbrev pT{b:Bool}(h:b=true):Pf:=⟨b=true,h⟩
abbrev pF{b:Bool}(h:b=false):Pf:=⟨b=false,h⟩
abbrev pP{p:Prop}(h:p):Pf:=⟨p,h⟩
theorem gt_T{a b:Int}(h:b<a):decide (a>b)=true:=by simpa using h
theorem gt_F{a b:Int}(h:¬b<a):decide (a>b)=false:=by simpa using h
theorem ne_T{a b:Int}(h:a≠b):(a != b)=true:=by simpa using h
theorem ne_F{a b:Int}(h:¬a≠b):(a != b)=false:=by simpa using h
theorem bq_T{a b:Int}(h:a=b):(a==b)=true:=by simpa using h
theorem bq_F{a b:Int}(h:¬a=b):(a==b)=false:=by simpa using h
theorem co_b{x:Int}(h:Co x):x.natAbs<=c26/\I64 x:=by unfold Co at h;unfold c26 I64;omega
theorem edV_rep{V W:World}{r:Nat->Nat}{k:Nat}{e:Ed}(h:e.ok=true):RepV V W r k (edV e 3 c26) (.agg #[.int .i64 e.k,.int .i64 e.ax,.int .i64 e.ay,.int .i64 e.bx,.int .i64 e.by',.int .i64 e.cx,.int .i64 e.cy]):=by
 obtain⟨⟨h1,h2⟩,⟨h3,h4⟩,h5,h6⟩:=ok_right h
 have hk:=kind_of h
 exact rv_t.2 ⟨_,rl_i.2 ⟨⟨by omega,by unfold I64;omega⟩,_,rfl,rl_i.2 ⟨co_b h1,_,rfl,rl_i.2 ⟨co_b h2,_,rfl,rl_i.2 ⟨co_b h3,_,rfl,rl_i.2 ⟨co_b h4,_,rfl,rl_i.2 ⟨co_b h5,_,rfl,rl_i.2 ⟨co_b h6,_,rfl,rfl⟩⟩⟩⟩⟩⟩⟩,rfl⟩
theorem famk_b{e:Ed}(h:e.ok=true):(fam e.k).k.natAbs<=3/\I64 (fam e.k).k:=by
 rcases kind_of h with h|h|h<;>rw[h]<;>exact⟨by decide,by unfold I64;decide⟩
theorem pt_low{V W:World}{r:Nat->Nat}{k:Nat}{x y:Int}{A B C:Nat}(h1:A<=C)(h2:B<=C):∀v,RepV V W r k ⟨true,[.i x A,.i y B]⟩ v->RepV V W r k (ptV x y C) v:=by
 intro v h
 simp only[rv_t,rl_i,rl_nil] at h
 obtain⟨_,⟨⟨a1,a2⟩,_,rfl,⟨b1,b2⟩,_,rfl,rfl⟩,rfl⟩:=h
 exact rv_t.2 ⟨_,rl_i.2 ⟨⟨Nat.le_trans a1 h1,a2⟩,_,rfl,rl_i.2 ⟨⟨Nat.le_trans b1 h2,b2⟩,_,rfl,rfl⟩⟩,rfl⟩
theorem pt_lim{V W:World}{r:Nat->Nat}{k:Nat}{x y:Int}{A B:Nat}:∀v,RepV V W r k ⟨true,[.i x A,.i y B]⟩ v->RepV V W r k (ptV x y lim) v:=by
 intro v h
 simp only[rv_t,rl_i,rl_nil] at h
 obtain⟨_,⟨⟨a1,a2⟩,_,rfl,⟨b1,b2⟩,_,rfl,rfl⟩,rfl⟩:=h
 exact rv_t.2 ⟨_,rl_i.2 ⟨lim64 a2,_,rfl,rl_i.2 ⟨lim64 b2,_,rfl,rfl⟩⟩,rfl⟩
theorem pt_co{V W:World}{r:Nat->Nat}{k:Nat}{x y:Int}{A B:Nat}(h:Co x/\Co y):∀v,RepV V W r k ⟨true,[.i x A,.i y B]⟩ v->RepV V W r k (ptV x y c26) v:=by
 intro v hv
 simp only[rv_t,rl_i,rl_nil] at hv
 obtain⟨_,⟨⟨a1,a2⟩,_,rfl,⟨b1,b2⟩,_,rfl,rfl⟩,rfl⟩:=hv
 exact rv_t.2 ⟨_,rl_i.2 ⟨co_b h.1,_,rfl,rl_i.2 ⟨co_b h.2,_,rfl,rfl⟩⟩,rfl⟩
theorem checkZ_64(e:Ed):(checkZ e).natAbs<=11/\I64 (checkZ e):=by
 unfold checkZ I64
 (repeat' split)<;>decide
theorem Fok.pre{f:FuncId}{args args':List V1}{res:AV}(h:Fok Tryz.prog f args' res)(hr:∀W vals,RepVs W W (fun _=>0) 0 args vals->RepVs W W (fun _=>0) 0 args' vals):Fok Tryz.prog f args res :=
 fun W vals hv=>h W vals (hr W vals hv)
theorem rvs_1{V W:World}{r:Nat->Nat}{k:Nat}{a b:V1}{l m:List V1}(h:∀x,RepV V W r k a x->RepV V W r k b x)(g:∀xs,RepVs V W r k l xs->RepVs V W r k m xs):∀xs,RepVs V W r k (a::l) xs->RepVs V W r k (b::m) xs :=
 fun _ ⟨x,ys,e,h1,h2⟩=>⟨x,ys,e,h x h1,g ys h2⟩
theorem rvs_0{V W:World}{r:Nat->Nat}{k:Nat}:∀xs,RepVs V W r k [] xs->RepVs V W r k [] xs:=fun _ h=>h
theorem ed_bd{V W:World}{r:Nat->Nat}{k:Nat}{l:List It}{e:Ed}{K B:Nat}(he:toEd l=some e)(h1:I64 e.k->e.k.natAbs<=K)(h2:∀z ∈ [e.ax,e.ay,e.bx,e.by',e.cx,e.cy],I64 z->z.natAbs<=B):∀v,RepV V W r k ⟨true,l⟩ v->RepV V W r k (edV e K B) v:=fun v hr=>by
 unfold toEd at he
 split at he<;>cases he
 simp only[rv_t,rl_i,rl_nil] at hr
 obtain⟨_,⟨⟨_,i0⟩,_,rfl,⟨_,i1⟩,_,rfl,⟨_,i2⟩,_,rfl,⟨_,i3⟩,_,rfl,⟨_,i4⟩,_,rfl,⟨_,i5⟩,_,rfl,⟨_,i6⟩,_,rfl,rfl⟩,rfl⟩:=hr
 exact rv_t.2 ⟨_,rl_i.2 ⟨⟨h1 i0,i0⟩,_,rfl,rl_i.2 ⟨⟨h2 _ (by simp) i1,i1⟩,_,rfl,rl_i.2 ⟨⟨h2 _ (by simp) i2,i2⟩,_,rfl,rl_i.2 ⟨⟨h2 _ (by simp) i3,i3⟩,_,rfl,rl_i.2 ⟨⟨h2 _ (by simp) i4,i4⟩,_,rfl,rl_i.2 ⟨⟨h2 _ (by simp) i5,i5⟩,_,rfl,rl_i.2 ⟨⟨h2 _ (by simp) i6,i6⟩,_,rfl,rfl⟩⟩⟩⟩⟩⟩⟩,rfl⟩
theorem ed_lim{V W:World}{r:Nat->Nat}{k:Nat}{l:List It}{e:Ed}(he:toEd l=some e):∀v,RepV V W r k ⟨true,l⟩ v->RepV V W r k (edV e lim lim) v :=
 ed_bd he (fun h=>(lim64 h).1) (fun z _ h=>(lim64 h).1)
theorem ed_rt{V W:World}{r:Nat->Nat}{k:Nat}{l:List It}{e:Ed}(he:toEd l=some e)(h:e.right=true):∀v,RepV V W r k ⟨true,l⟩ v->RepV V W r k (edV e lim c26) v:=by
 simp only[Ed.right,Bool.and_eq_true,coordB_iff,Co] at h
 refine ed_bd he (fun h=>(lim64 h).1) (fun z hz _=>?_)
 unfold c26
 simp only[List.mem_cons,List.not_mem_nil,or_false] at hz
 rcases hz with rfl|rfl|rfl|rfl|rfl|rfl<;>omega
theorem ed_ok{V W:World}{r:Nat->Nat}{k:Nat}{l:List It}{e:Ed}(he:toEd l=some e)(h:e.ok=true):∀v,RepV V W r k ⟨true,l⟩ v->RepV V W r k (edV e 3 c26) v:=by
 have hk:=kind_of h
 have hr:e.right=true:=by simp only[Ed.ok,Bool.and_eq_true] at h;exact h.1
 simp only[Ed.right,Bool.and_eq_true,coordB_iff,Co] at hr
 refine ed_bd he (fun _=>by omega) (fun z hz _=>?_)
 unfold c26
 simp only[List.mem_cons,List.not_mem_nil,or_false] at hz
 rcases hz with rfl|rfl|rfl|rfl|rfl|rfl<;>omega
theorem toEd_V(e:Ed)(K B:Nat):toEd (edV e K B).l=some e:=rfl
def famV(k:Int):V1:=⟨true,[.v (fam k).c,.v (fam k).o,.v (fam k).r,.i (fam k).k lim]⟩
def KO:List Con:=[cVRight,cTurns]
theorem of_1(e:Ed)(hk:e.k=1):Fok Tryz.prog 128 [edV e lim lim] (.tup [famV e.k,blV e.ok]):=by
 have k1:(e.k==1)=true:=by simp[hk]
 rw[show famV e.k=famV 1 by rw[hk]]
 cases hA:coordB e.ax e.ay with
 | false =>
  rw[show e.ok=false by simp[Ed.ok,Ed.right,hA]]
  exact fok KO [true,false] [pT k1,pF hA] (by kernel_rfl)
 | true =>
  cases hB:coordB e.bx e.by' with
  | false =>
   rw[show e.ok=false by simp[Ed.ok,Ed.right,hB]]
   exact fok KO [true,true,false] [pT k1,pT hA,pF hB] (by kernel_rfl)
  | true =>
   cases hC:coordB e.cx e.cy with
   | false =>
    rw[show e.ok=false by simp[Ed.ok,Ed.right,hC]]
    exact fok KO [true,true,true,false] [pT k1,pT hA,pT hB,pF hC] (by kernel_rfl)
   | true =>
    rw[show e.ok=(e.cx==0&&e.cy==0) by simp[Ed.ok,Ed.right,Ed.lone,hA,hB,hC,hk]]
    exact fok KO [true,true,true,true] [pT k1,pT hA,pT hB,pT hC] (by kernel_rfl)
theorem of_2(e:Ed)(hk:e.k=2):Fok Tryz.prog 128 [edV e lim lim] (.tup [famV e.k,blV e.ok]):=by
 have k1:(e.k==1)=false:=by simp[hk]
 have k2:(e.k==2)=true:=by simp[hk]
 rw[show famV e.k=famV 2 by rw[hk]]
 cases hA:coordB e.ax e.ay with
 | false =>
  rw[show e.ok=false by simp[Ed.ok,Ed.right,hA]]
  exact fok KO [false,true,false] [pF k1,pT k2,pF hA] (by kernel_rfl)
 | true =>
  cases hB:coordB e.bx e.by' with
  | false =>
   rw[show e.ok=false by simp[Ed.ok,Ed.right,hB]]
   exact fok KO [false,true,true,false] [pF k1,pT k2,pT hA,pF hB] (by kernel_rfl)
  | true =>
   cases hC:coordB e.cx e.cy with
   | false =>
    rw[show e.ok=false by simp[Ed.ok,Ed.right,hC]]
    exact fok KO [false,true,true,true,false] [pF k1,pT k2,pT hA,pT hB,pF hC] (by kernel_rfl)
   | true =>
    refine Fok.pre ?_ fun W=>rvs_1 (ed_rt (toEd_V e lim lim) (by simp[Ed.right,hA,hB,hC])) rvs_0
    have E:e.ok=((!((e.ax-e.cx==0)==(e.ay-e.cy==0)))&&(e.bx-e.cx==0-(e.ay-e.cy)+0&&e.by'-e.cy==e.ax-e.cx+0)):=by
     rw[show 0-(e.ay-e.cy)+0=(rot 1 (e.ax-e.cx,e.ay-e.cy)).1 by simp[rot],show e.ax-e.cx+0=(rot 1 (e.ax-e.cx,e.ay-e.cy)).2 by simp[rot]]
     simp[Ed.ok,Ed.right,Ed.quarter,quarterB,hA,hB,hC,hk,bne]
    cases hq:(!((e.ax-e.cx==0)==(e.ay-e.cy==0))) with
    | false =>
     rw[E,hq,Bool.false_and]
     exact fok KO [false,true,true,true,true,false] [pF k1,pT k2,pT hA,pT hB,pT hC,pF hq] (by kernel_rfl)
    | true =>
     rw[E,hq,Bool.true_and]
     exact fok KO [false,true,true,true,true,true] [pF k1,pT k2,pT hA,pT hB,pT hC,pT hq] (by kernel_rfl)
theorem of_3(e:Ed)(hk:e.k=3):Fok Tryz.prog 128 [edV e lim lim] (.tup [famV e.k,blV e.ok]):=by
 have k1:(e.k==1)=false:=by simp[hk]
 have k2:(e.k==2)=false:=by simp[hk]
 have k3:(e.k==3)=true:=by simp[hk]
 rw[show famV e.k=famV 3 by rw[hk]]
 cases hA:coordB e.ax e.ay with
 | false =>
  rw[show e.ok=false by simp[Ed.ok,Ed.right,hA]]
  exact fok KO [false,false,true,false] [pF k1,pF k2,pT k3,pF hA] (by kernel_rfl)
 | true =>
  cases hB:coordB e.bx e.by' with
  | false =>
   rw[show e.ok=false by simp[Ed.ok,Ed.right,hB]]
   exact fok KO [false,false,true,true,false] [pF k1,pF k2,pT k3,pT hA,pF hB] (by kernel_rfl)
  | true =>
   cases hC:coordB e.cx e.cy with
   | false =>
    rw[show e.ok=false by simp[Ed.ok,Ed.right,hC]]
    exact fok KO [false,false,true,true,true,false] [pF k1,pF k2,pT k3,pT hA,pT hB,pF hC] (by kernel_rfl)
   | true =>
    refine Fok.pre ?_ fun W=>rvs_1 (ed_rt (toEd_V e lim lim) (by simp[Ed.right,hA,hB,hC])) rvs_0
    have E:e.ok=((!((e.ax-e.cx==0)==(e.ay-e.cy==0)))&&(e.bx-e.cx==0-(0-(e.ay-e.cy))+0&&e.by'-e.cy==0-(e.ax-e.cx)+0)):=by
     rw[show 0-(0-(e.ay-e.cy))+0=(rot 3 (e.ax-e.cx,e.ay-e.cy)).1 by simp[rot],show 0-(e.ax-e.cx)+0=(rot 3 (e.ax-e.cx,e.ay-e.cy)).2 by simp[rot]]
     simp[Ed.ok,Ed.right,Ed.quarter,quarterB,hA,hB,hC,hk,bne]
    cases hq:(!((e.ax-e.cx==0)==(e.ay-e.cy==0))) with
    | false =>
     rw[E,hq,Bool.false_and]
     exact fok KO [false,false,true,true,true,true,false] [pF k1,pF k2,pT k3,pT hA,pT hB,pT hC,pF hq] (by kernel_rfl)
    | true =>
     rw[E,hq,Bool.true_and]
     exact fok KO [false,false,true,true,true,true,true] [pF k1,pF k2,pT k3,pT hA,pT hB,pT hC,pT hq] (by kernel_rfl)
theorem of_0(e:Ed)(h1:¬e.k=1)(h2:¬e.k=2)(h3:¬e.k=3):Fok Tryz.prog 128 [edV e lim lim] (.tup [famV e.k,blV e.ok]):=by
 have k1:(e.k==1)=false:=by simpa using h1
 have k2:(e.k==2)=false:=by simpa using h2
 have k3:(e.k==3)=false:=by simpa using h3
 rw[show e.ok=false by simp[Ed.ok,h1,h2,h3]]
 unfold famV
 rw[kindB_fam (k:=e.k) (by simp[kindB,h1,h2,h3])]
 exact fok KO [false,false,false] [pF k1,pF k2,pF k3] (by kernel_rfl)
def cOfE:Con where
 f:=128
 g:=fun | [⟨true,l⟩]=>(toEd l).map fun e=>(.tup [famV e.k,blV e.ok],[])|_=>none
 ok:=by
  intro args res ps h hp
  split at h<;>try cases h
  rename_i l
  cases he:toEd l with
  | none=>simp[he] at h
  | some e =>
   simp only[he,Option.map_some,Option.some.injEq,Prod.mk.injEq] at h
   obtain⟨rfl,rfl⟩:=h
   refine Fok.pre ?_ fun W=>rvs_1 (ed_lim he) rvs_0
   by_cases h1:e.k=1
   ·exact of_1 e h1
   by_cases h2:e.k=2
   ·exact of_2 e h2
   by_cases h3:e.k=3
   ·exact of_3 e h3
   ·exact of_0 e h1 h2 h3
theorem rad_b{e:Ed}(h:e.ok=true):(radZ e).natAbs<=134217728/\I64 (radZ e):=by
 have h1:=rad_le h
 by_cases hk:e.k=1
 ·rw[radZ_line hk];exact⟨by decide,i64_0⟩
 ·have := rad_pos h hk
  exact⟨by omega,by unfold I64;omega⟩
theorem chk_F{e:Ed}(h:e.ok=true):(checkZ e != 0)=false:=by rw[checkZ_z h];rfl
theorem chk_T{e:Ed}(h:e.ok=false):(checkZ e != 0)=true:=by have:=checkZ_nz h;simpa using this
theorem ge_T{a b:Int}(h:b<=a):decide (a >= b)=true:=by simpa using h
theorem ge_F{a b:Int}(h:¬b<=a):decide (a >= b)=false:=by simpa using h
theorem not_T{b:Bool}(h:b=false):(!b)=true:=by rw[h];rfl
theorem not_F{b:Bool}(h:b=true):(!b)=false:=by rw[h];rfl
theorem check_ok(e:Ed):Fok Tryz.prog 122 [edV e lim lim] (.one (inV (checkZ e) lim)):=by
 cases ho:e.ok with
 | true =>
  rw[checkZ_z ho]
  exact fok [cOfE] [true] [pT ho] (by kernel_rfl)
 | false =>
  by_cases h1:1<=e.k
  rotate_left
  ·rw [checkZ_11a ho h1]
   exact fok [cOfE] [false,false] [pF ho,pF (ge_F h1)] (by kernel_rfl)
  by_cases h3:e.k<=3
  rotate_left
  ·rw [checkZ_11b ho h3]
   exact fok [cOfE] [false,true,false] [pF ho,pT (ge_T h1),pF (decide_eq_false h3)] (by kernel_rfl)
  have d3:=decide_eq_true h3
  cases hA:coordB e.ax e.ay with
  | false =>
   rw[checkZ_10 ho h1 h3 (.inl hA)]
   exact fok [cOfE,cVRight] [false,true,true,false] [pF ho,pT (ge_T h1),pT d3,pF hA] (by kernel_rfl)
  | true =>
   cases hB:coordB e.bx e.by' with
   | false =>
    rw[checkZ_10 ho h1 h3 (.inr (.inl hB))]
    exact fok [cOfE,cVRight] [false,true,true,true,false] [pF ho,pT (ge_T h1),pT d3,pT hA,pF hB] (by kernel_rfl)
   | true =>
    cases hC:coordB e.cx e.cy with
    | false =>
     rw[checkZ_10 ho h1 h3 (.inr (.inr hC))]
     exact fok [cOfE,cVRight] [false,true,true,true,true,true] [pF ho,pT (ge_T h1),pT d3,pT hA,pT hB,pT (not_T hC)] (by kernel_rfl)
    | true =>
     rw[checkZ_11c ho hA hB hC]
     exact fok [cOfE,cVRight] [false,true,true,true,true,false] [pF ho,pT (ge_T h1),pT d3,pT hA,pT hB,pF (not_F hC)] (by kernel_rfl)
theorem Fok.bd{f:FuncId}{args:List V1}{z:Int}{B:Nat}(h:Fok Tryz.prog f args (.one (inV z lim)))(hB:z.natAbs<=B):Fok Tryz.prog f args (.one (inV z B)) :=
 h.mono fun _ W x hx=>rv_i.2 ⟨⟨hB,(rv_i.1 hx).1.2⟩,(rv_i.1 hx).2⟩
def cChk:Con where
 f:=122
 g:=fun | [⟨true,l⟩]=>(toEd l).map fun e=>(.one (inV (checkZ e) 11),[])|_=>none
 ok:=by
  intro args res ps h _
  split at h<;>try cases h
  rename_i l
  cases he:toEd l with
  | none=>simp[he] at h
  | some e =>
   simp only[he,Option.map_some,Option.some.injEq,Prod.mk.injEq] at h
   obtain⟨rfl,rfl⟩:=h
   exact ((check_ok e).bd (checkZ_64 e).1).pre fun W=>rvs_1 (ed_lim he) rvs_0
theorem radZ_arc{e:Ed}(h:e.ok=true)(hk:(e.k==1)=false):radZ e=max (max (e.ax-e.cx) (0-(e.ax-e.cx))) (max (e.ay-e.cy) (0-(e.ay-e.cy))):=by
 unfold radZ
 rw[h,hk,Int.zero_sub,Int.zero_sub]
 rfl
theorem radius_ok(e:Ed)(ho:e.ok=true):Fok Tryz.prog 199 [edV e 3 c26] (.one (inV (radZ e) lim)):=by
 cases hk:(e.k==1) with
 | true =>
  rw[radZ_line (by simpa using hk)]
  exact fok [cOfE] [false,true] [pF (not_F ho),pT hk] (by kernel_rfl)
 | false =>
  rw[radZ_arc ho hk]
  exact fok [cOfE] [false,false] [pF (not_F ho),pF hk] (by kernel_rfl)
def cRad:Con where
 f:=199
 g:=fun | [⟨true,l⟩]=>(toEd l).map fun e=>(.one (inV (radZ e) 134217728),[e.ok=true])|_=>none
 ok:=by
  intro args res ps h hp
  split at h<;>try cases h
  rename_i l
  cases he:toEd l with
  | none=>simp[he] at h
  | some e =>
   simp only[he,Option.map_some,Option.some.injEq,Prod.mk.injEq] at h
   obtain⟨rfl,rfl⟩:=h
   exact ((radius_ok e hp.1).bd (rad_b hp.1).1).pre fun W=>rvs_1 (ed_ok he hp.1) rvs_0
theorem reverse_ok(e:Ed):Fok Tryz.prog 257 [edV e 3 c26] (.one (edV (revE e) lim lim)):=fok [cOfE] [] [] (by kernel_rfl)
def cRev:Con where
 f:=257
 g:=fun | [⟨true,l⟩]=>(toEd l).map fun e=>(.one (edV (revE e) 3 c26),[e.ok=true])|_=>none
 ok:=by
  intro args res ps h hp
  split at h<;>try cases h
  rename_i l
  cases he:toEd l with
  | none=>simp[he] at h
  | some e =>
   simp only[he,Option.map_some,Option.some.injEq,Prod.mk.injEq] at h
   obtain⟨rfl,rfl⟩:=h
   refine ((reverse_ok e).mono fun _ W x hx=>?_).pre fun W=>rvs_1 (ed_ok he hp.1) rvs_0
   obtain⟨⟨h1,h2⟩,⟨h3,h4⟩,h5,h6⟩:=ok_right hp.1
   refine ed_bd (toEd_V (revE e) lim lim) (fun _=>(famk_b hp.1).1) (fun z hz _=>?_) x hx
   have:=(co_b h1).1;have:=(co_b h2).1;have:=(co_b h3).1;have:=(co_b h4).1;have:=(co_b h5).1;have:=(co_b h6).1
   simp only[revE,List.mem_cons,List.not_mem_nil,or_false] at hz
   rcases hz with rfl|rfl|rfl|rfl|rfl|rfl<;>assumption
end
end Go.Proofs.YtghemgdfmldoeaaGreat
