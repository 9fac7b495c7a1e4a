import Derived.Test.YtcfpcafnjgpfdaaGreatK12
set_option linter.unusedVariables false
set_option linter.unusedSimpArgs false

namespace Go.Proofs.YtcfpcafnjgpfdaaGreat
open Go.RowKit

set_option maxHeartbeats 1000000
set_option maxRecDepth 100000
section
theorem sumP_sub(a b:Nm):sumP a b (!b.neg)=subP a b:=by
 unfold sumP subP
 have e:(if (!b.neg)=true then -(val b.d:Int) else (val b.d:Int)) = -b.z:=by
  unfold Nm.z
  cases b.neg<;>simp
 rw[e]
 rfl
theorem sumP_add(a b:Nm):sumP a b b.neg=addP a b:=rfl
theorem NR.set{w w0:World}{n:Bool}{p:Option Addr}{l c:Nat}{a:Nm}(h:NR w n p l c a)(hn:New w0 p)(x:Addr)(hx:x.block<w0.heap.size)(v:Value):NR (w.setCell x v) n p l c a :=
 ⟨h.1,h.2.1,h.2.2.set hn x hx v⟩
theorem num_Sub(a b:Nm)(na nb:Bool)(pa pb:Option Addr)(la ca lb cb:Nat)(w:World)(ha:NR w na pa la ca a)(hb:NR w nb pb lb cb b) :
  Calls Tryz.prog 117 #[.agg #[.bool na,.slice pa la ca],.agg #[.bool nb,.slice pb lb cb]] w (RetNum w (subP a b)):=by
 have S:=Lib.hid (sumP_sub a b)
 have hn1:=hb.1
 subst hn1
 go_enter Tryz.func117,Tryz.ntmps117
 go_wp2_with fail
 refine (num_sum a b _ _ _ _ _ _ _ _ _ _ (ha.ext bxx) (hb.ext bxx)).mono ?_
 rintro e w1 ⟨n',p',l',c',rfl,hnr,hnew,hx⟩
 rw[S.out] at hnr ⊢
 have hx0:Ext w w1:=Ext.step bxx hx
 obtain⟨_,⟨_,_,_⟩,⟨_,_,_⟩,_,_,_⟩:=keepK3 hx w.heap.size
 go_wp2_with fail
 refine bodyPost_ret (v:=.tuple #[.agg #[.bool n',.slice p' l' c'],.bool (subP a b).2]) (by simp[results,Tryz.results117,go_sem, *]) rfl ?_
 exact⟨n',p',l',c',rfl,(hnr.set hnew _ (by simp) _).set hnew _ (by simp) _,hnew.mono (by simp;omega),bxx⟩
theorem num_Add(a b:Nm)(na nb:Bool)(pa pb:Option Addr)(la ca lb cb:Nat)(w:World)(ha:NR w na pa la ca a)(hb:NR w nb pb lb cb b) :
  Calls Tryz.prog 68 #[.agg #[.bool na,.slice pa la ca],.agg #[.bool nb,.slice pb lb cb]] w (RetNum w (addP a b)):=by
 have S:=Lib.hid (sumP_add a b)
 have hn1:=hb.1
 subst hn1
 go_enter Tryz.func68,Tryz.ntmps68
 go_wp2_with fail
 refine (num_sum a b _ _ _ _ _ _ _ _ _ _ (ha.ext bxx) (hb.ext bxx)).mono ?_
 rintro e w1 ⟨n',p',l',c',rfl,hnr,hnew,hx⟩
 rw[S.out] at hnr ⊢
 have hx0:Ext w w1:=Ext.step bxx hx
 obtain⟨_,⟨_,_,_⟩,⟨_,_,_⟩,_,_,_⟩:=keepK3 hx w.heap.size
 go_wp2_with fail
 refine bodyPost_ret (v:=.tuple #[.agg #[.bool n',.slice p' l' c'],.bool (addP a b).2]) (by simp[results,Tryz.results68,go_sem, *]) rfl ?_
 exact⟨n',p',l',c',rfl,(hnr.set hnew _ (by simp) _).set hnew _ (by simp) _,hnew.mono (by simp;omega),bxx⟩
theorem cmpP_none{a b:Nm}(h:a.right=false\/b.right=false):cmpP a b=0:=by
 unfold cmpP
 rcases h with h|h<;>simp[h]
theorem cmpP_negs{a b:Nm}(ra:a.right=true)(rb:b.right=true)(da:Dig a.d)(db:Dig b.d)(ha:a.neg=true)(hb:b.neg=true):cmpP a b=cmpL b.d a.d:=by
 rw[cmpL_tight db da (b.right_iff.1 rb).2.1 (a.right_iff.1 ra).2.1,cmpP,ra,rb,Nm.z,Nm.z,ha,hb]
 unfold cmpZ cmpN
 simp only[Bool.and_self,↓reduceIte]
 repeat' split
 all_goals omega
theorem val_pos_of_neg{a:Nm}(ra:a.right=true)(da:Dig a.d)(ha:a.neg=true):0<val a.d:=by
 rcases Nat.eq_zero_or_pos (val a.d) with h|h
 ·have hd := digs_val da (a.right_iff.1 ra).2.1
  rw[h,digs_zero] at hd
  have:=(a.right_iff.1 ra).2.2 hd.symm
  rw[ha] at this
  cases this
 ·exact h
theorem cmpP_less{a b:Nm}(ra:a.right=true)(rb:b.right=true)(da:Dig a.d)(ha:a.neg=true)(hb:b.neg=false):cmpP a b = -1:=by
 have h0:=val_pos_of_neg ra da ha
 rw[cmpP,ra,rb,Nm.z,Nm.z,ha,hb]
 unfold cmpZ
 simp only[Bool.and_self,↓reduceIte]
 rw[if_pos (by simp;omega)]
theorem cmpP_more{a b:Nm}(ra:a.right=true)(rb:b.right=true)(db:Dig b.d)(ha:a.neg=false)(hb:b.neg=true):cmpP a b=1:=by
 have h0:=val_pos_of_neg rb db hb
 rw[cmpP,ra,rb,Nm.z,Nm.z,ha,hb]
 unfold cmpZ
 simp only[Bool.and_self,↓reduceIte]
 rw[if_neg (by first|(simp;done)|(simp;omega)),if_neg (by first|(simp;done)|(simp;omega))]
theorem cmpP_pos{a b:Nm}(ra:a.right=true)(rb:b.right=true)(da:Dig a.d)(db:Dig b.d)(ha:a.neg=false)(hb:b.neg=false):cmpP a b=cmpL a.d b.d:=by
 rw[cmpL_tight da db (a.right_iff.1 ra).2.1 (b.right_iff.1 rb).2.1,cmpP,ra,rb,Nm.z,Nm.z,ha,hb]
 unfold cmpZ cmpN
 simp only[Bool.and_self,↓reduceIte,Bool.false_eq_true]
 repeat' split
 all_goals omega
theorem num_Cmp(a b:Nm)(na nb:Bool)(pa pb:Option Addr)(la ca lb cb:Nat)(w:World)(ha:NR w na pa la ca a)(hb:NR w nb pb lb cb b) :
  Calls Tryz.prog 49 #[.agg #[.bool na,.slice pa la ca],.agg #[.bool nb,.slice pb lb cb]] w fun e w'=>e=.returned (.int .i64 (cmpP a b))/\Ext w w':=by
 by_cases ra:a.right=true
 ·by_cases rb : b.right = true
  ·have n1 := ha.1
   have n2:=hb.1
   have da:=ha.2.2.dig
   have db:=hb.2.2.dig
   cases h1:a.neg<;>cases h2:b.neg<;>rw[h1] at n1<;>rw[h2] at n2<;>subst n1 n2
   ·have S := Lib.hid (cmpP_pos ra rb da db h1 h2)
    clear h1 h2
    go_enter Tryz.func49,Tryz.ntmps49
    go_wp2_with fail
    refine (num_Right a _ _ _ _ _ (ha.ext bxx)).mono ?_
    rintro e w1 ⟨rfl,hx⟩
    rw[ra]
    have hx0:Ext w w1:=Ext.step bxx hx
    obtain⟨_,⟨_,_,_⟩,_,_,_⟩:=keepK2 hx w.heap.size
    go_wp2_with fail
    refine (num_Right b _ _ _ _ _ (hb.ext bxx)).mono ?_
    rintro e w2 ⟨rfl,hx2⟩
    rw[rb]
    have hx1:Ext w w2:=Ext.step hx0 hx2
    obtain⟨_,⟨_,_,_⟩,_,_,_⟩:=keepK2 hx2 w.heap.size
    go_wp2_with fail
    refine (num_compare a.d b.d _ _ _ _ _ _ _ (ha.2.2.ext bxx) (hb.2.2.ext bxx) ha.2.1 hb.2.1).mono ?_
    rintro e w3 ⟨rfl,hx3⟩
    have hx4:Ext w w3:=Ext.step hx1 hx3
    go_wp2
    go_ret
    exact⟨by rw[S.out];rfl,hx4⟩
   ·have S := Lib.hid (cmpP_more ra rb db h1 h2)
    clear h1 h2
    go_enter Tryz.func49,Tryz.ntmps49
    go_wp2_with fail
    refine (num_Right a _ _ _ _ _ (ha.ext bxx)).mono ?_
    rintro e w1 ⟨rfl,hx⟩
    rw[ra]
    have hx0:Ext w w1:=Ext.step bxx hx
    obtain⟨_,⟨_,_,_⟩,_,_,_⟩:=keepK2 hx w.heap.size
    go_wp2_with fail
    refine (num_Right b _ _ _ _ _ (hb.ext bxx)).mono ?_
    rintro e w2 ⟨rfl,hx2⟩
    rw[rb]
    have hx1:Ext w w2:=Ext.step hx0 hx2
    obtain⟨_,⟨_,_,_⟩,_,_,_⟩:=keepK2 hx2 w.heap.size
    go_wp2
    go_ret
    exact⟨by rw[S.out];rfl,hx1⟩
   ·have S := Lib.hid (cmpP_less ra rb da h1 h2)
    clear h1 h2
    go_enter Tryz.func49,Tryz.ntmps49
    go_wp2_with fail
    refine (num_Right a _ _ _ _ _ (ha.ext bxx)).mono ?_
    rintro e w1 ⟨rfl,hx⟩
    rw[ra]
    have hx0:Ext w w1:=Ext.step bxx hx
    obtain⟨_,⟨_,_,_⟩,_,_,_⟩:=keepK2 hx w.heap.size
    go_wp2_with fail
    refine (num_Right b _ _ _ _ _ (hb.ext bxx)).mono ?_
    rintro e w2 ⟨rfl,hx2⟩
    rw[rb]
    have hx1:Ext w w2:=Ext.step hx0 hx2
    obtain⟨_,⟨_,_,_⟩,_,_,_⟩:=keepK2 hx2 w.heap.size
    go_wp2
    go_ret
    exact⟨by rw[S.out];rfl,hx1⟩
   ·have S := Lib.hid (cmpP_negs ra rb da db h1 h2)
    clear h1 h2
    go_enter Tryz.func49,Tryz.ntmps49
    go_wp2_with fail
    refine (num_Right a _ _ _ _ _ (ha.ext bxx)).mono ?_
    rintro e w1 ⟨rfl,hx⟩
    rw[ra]
    have hx0:Ext w w1:=Ext.step bxx hx
    obtain⟨_,⟨_,_,_⟩,_,_,_⟩:=keepK2 hx w.heap.size
    go_wp2_with fail
    refine (num_Right b _ _ _ _ _ (hb.ext bxx)).mono ?_
    rintro e w2 ⟨rfl,hx2⟩
    rw[rb]
    have hx1:Ext w w2:=Ext.step hx0 hx2
    obtain⟨_,⟨_,_,_⟩,_,_,_⟩:=keepK2 hx2 w.heap.size
    go_wp2_with fail
    refine (num_compare b.d a.d _ _ _ _ _ _ _ (hb.2.2.ext bxx) (ha.2.2.ext bxx) hb.2.1 ha.2.1).mono ?_
    rintro e w3 ⟨rfl,hx3⟩
    have hx4:Ext w w3:=Ext.step hx1 hx3
    go_wp2
    go_ret
    exact⟨by rw[S.out];rfl,hx4⟩
  ·have rb : b.right = false := by simpa using rb
   have S:=Lib.hid (cmpP_none (a:=a) (.inr rb))
   go_enter Tryz.func49,Tryz.ntmps49
   go_wp2_with fail
   refine (num_Right a _ _ _ _ _ (ha.ext bxx)).mono ?_
   rintro e w1 ⟨rfl,hx⟩
   rw[ra]
   have hx0:Ext w w1:=Ext.step bxx hx
   obtain⟨_,⟨_,_,_⟩,_,_,_⟩:=keepK2 hx w.heap.size
   go_wp2_with fail
   refine (num_Right b _ _ _ _ _ (hb.ext bxx)).mono ?_
   rintro e w2 ⟨rfl,hx2⟩
   rw[rb]
   have hx1:Ext w w2:=Ext.step hx0 hx2
   obtain⟨_,⟨_,_,_⟩,_,_,_⟩:=keepK2 hx2 w.heap.size
   go_wp2
   go_ret
   exact⟨by rw[S.out];rfl,hx1⟩
 ·have ra : a.right = false := by simpa using ra
  have S:=Lib.hid (cmpP_none (b:=b) (.inl ra))
  go_enter Tryz.func49,Tryz.ntmps49
  go_wp2_with fail
  refine (num_Right a _ _ _ _ _ (ha.ext bxx)).mono ?_
  rintro e w1 ⟨rfl,hx⟩
  rw[ra]
  have hx0:Ext w w1:=Ext.step bxx hx
  obtain⟨_,⟨_,_,_⟩,_,_,_⟩:=keepK2 hx w.heap.size
  go_wp2
  go_ret
  exact⟨by rw[S.out];rfl,hx0⟩
end

set_option maxHeartbeats 1000000
set_option maxRecDepth 100000
section
def RetN(w:World)(a:Nm)(e:Ending)(w':World):Prop :=
 ∃n p l c,e=.returned (.agg #[.bool n,.slice p l c])/\NR w' n p l c a/\New w p/\Ext w w'
theorem made_of(n:Int)(lo hi:Nat)(neg:Bool)(hn:neg=decide (n<0))(hv:lo+4294967296*hi=n.natAbs)(hs:n.natAbs<4294967296 ^ 64):madeP neg [lo,hi]=(ofZ n,true):=by
 rw[madeP_fit]
 have e:(if neg=true then -(val [lo,hi]:Int) else (val [lo,hi]:Int))=n:=by
  have:val [lo,hi]=n.natAbs:=by simp[val];omega
  rw[this,hn]
  simp only[decide_eq_true_eq]
  split<;>omega
 rw[e,fit,small,if_pos (by simpa using hs)]
theorem row_two(W:World)(x y:Int)(lo hi B:Nat)(T:TypeId)(hx:x=(lo:Int))(hy:y=(hi:Int))(h1:lo<4294967296)(h2:hi<4294967296)(hB:B=W.heap.size) :
  Row (W.alloc (.cells #[.int .u32 x,.int .u32 y] T)) (some ⟨B,0,none⟩) 2 [lo,hi]:=by
 subst hx hy hB
 refine⟨by simp,by omega,Dig.cons h1 (Dig.cons h2 Dig.nil),fun _=>⟨_,0,rfl,by simp,fun i hi'=>?_⟩⟩
 have h:=heap_alloc_new W (.cells #[.int .u32 (lo:Int),.int .u32 (hi:Int)] T)
 rw[cell_of_row _ _ (0+i) _ _ _ h]
 simp only[List.length_cons,List.length_nil] at hi'
 match i,hi' with
 | 0,_=>rfl
 | 1,_=>rfl
theorem num_Of(n:Int)(w:World)(h1 : -9223372036854775808<=n)(h2:n<=9223372036854775807) :
  Calls Tryz.prog 34 #[.int .i64 n] w (RetN w (ofZ n)):=by
 have hp:(18446744073709551616:Nat)<=4294967296 ^ 64:=Nat.le_trans (by decide) (Nat.pow_le_pow_right (n:=4294967296) (i:=2) (by decide) (by decide))
 have HS:Hid (n.natAbs<4294967296 ^ 64):=Nat.lt_of_lt_of_le (show n.natAbs<18446744073709551616 by omega) hp
 clear hp
 by_cases hn:n<0
 ·go_enter Tryz.func34, Tryz.ntmps34
  go_wp2_with fail
  have e0:IntKind.u64.wrap n=n+18446744073709551616:=u64_neg _ (by omega)
  have e1:IntKind.u64.wrap (-(n+18446744073709551616)) = -n:=by rw[u64_neg _ (by omega)];omega
  rw[e0,e1]
  clear e0 e1
  have M:=Lib.hid (made_of n (n.natAbs%4294967296) (n.natAbs/4294967296) true (by simp[hn]) (by omega) HS.out)
  refine (num_made true [n.natAbs%4294967296,n.natAbs/4294967296] _ _ _ _ (row_two _ _ _ _ _ _ _ (by omega) (by omega) (by omega) (by omega) (by simp)) rfl).mono ?_
  rintro e w1 ⟨n',p',l',c',rfl,hnr,hnew,hx⟩
  rw[M.out] at hnr ⊢
  have hx0:Ext w w1:=Ext.step bxx hx
  obtain⟨_,⟨_,_,_⟩,_,_,_⟩:=keepK2 hx w.heap.size
  go_wp2
  refine bodyPost_ret (v:=.agg #[.bool n',.slice p' l' c']) (by simp[results,Tryz.results34,go_sem, *]) rfl ?_
  exact⟨n',p',l',c',rfl,(by repeat (first|assumption|refine NR.set ?_ (by assumption) _ (by first|(simp;done)|(simp;omega)|omega) _|refine NR.alloc ?_ _)),hnew.mono (by simp;omega),bxx⟩
 ·go_enter Tryz.func34, Tryz.ntmps34
  go_wp2_with fail
  have M:=Lib.hid (made_of n (n.natAbs%4294967296) (n.natAbs/4294967296) false (by simp[hn]) (by omega) HS.out)
  refine (num_made false [n.natAbs%4294967296,n.natAbs/4294967296] _ _ _ _ (row_two _ _ _ _ _ _ _ (by omega) (by omega) (by omega) (by omega) (by simp)) rfl).mono ?_
  rintro e w1 ⟨n',p',l',c',rfl,hnr,hnew,hx⟩
  rw[M.out] at hnr ⊢
  have hx0:Ext w w1:=Ext.step bxx hx
  obtain⟨_,⟨_,_,_⟩,_,_,_⟩:=keepK2 hx w.heap.size
  go_wp2
  refine bodyPost_ret (v:=.agg #[.bool n',.slice p' l' c']) (by simp[results,Tryz.results34,go_sem, *]) rfl ?_
  exact⟨n',p',l',c',rfl,(by repeat (first|assumption|refine NR.set ?_ (by assumption) _ (by first|(simp;done)|(simp;omega)|omega) _|refine NR.alloc ?_ _)),hnew.mono (by simp;omega),bxx⟩
theorem r01_Of(n:Int)(w:World)(h1 : -9223372036854775808<=n)(h2:n<=9223372036854775807) :
  Calls Tryz.prog 47 #[.int .i64 n] w (RetN w (ofZ n)):=by
 have hp:(18446744073709551616:Nat)<=4294967296 ^ 64:=Nat.le_trans (by decide) (Nat.pow_le_pow_right (n:=4294967296) (i:=2) (by decide) (by decide))
 have HS:Hid (n.natAbs<4294967296 ^ 64):=Nat.lt_of_lt_of_le (show n.natAbs<18446744073709551616 by omega) hp
 clear hp
 by_cases hn:n<0
 ·go_enter Tryz.func47, Tryz.ntmps47
  go_wp2_with fail
  have e0:IntKind.u64.wrap n=n+18446744073709551616:=u64_neg _ (by omega)
  have e1:IntKind.u64.wrap (-(n+18446744073709551616)) = -n:=by rw[u64_neg _ (by omega)];omega
  rw[e0,e1]
  clear e0 e1
  have M:=Lib.hid (made_of n (n.natAbs%4294967296) (n.natAbs/4294967296) true (by simp[hn]) (by omega) HS.out)
  refine (r01_made true [n.natAbs%4294967296,n.natAbs/4294967296] _ _ _ _ (row_two _ _ _ _ _ _ _ (by omega) (by omega) (by omega) (by omega) (by simp)) rfl).mono ?_
  rintro e w1 ⟨n',p',l',c',rfl,hnr,hnew,hx⟩
  rw[M.out] at hnr ⊢
  have hx0:Ext w w1:=Ext.step bxx hx
  obtain⟨_,⟨_,_,_⟩,_,_,_⟩:=keepK2 hx w.heap.size
  go_wp2
  refine bodyPost_ret (v:=.agg #[.bool n',.slice p' l' c']) (by simp[results,Tryz.results47,go_sem, *]) rfl ?_
  exact⟨n',p',l',c',rfl,(by repeat (first|assumption|refine NR.set ?_ (by assumption) _ (by first|(simp;done)|(simp;omega)|omega) _|refine NR.alloc ?_ _)),hnew.mono (by simp;omega),bxx⟩
 ·go_enter Tryz.func47, Tryz.ntmps47
  go_wp2_with fail
  have M:=Lib.hid (made_of n (n.natAbs%4294967296) (n.natAbs/4294967296) false (by simp[hn]) (by omega) HS.out)
  refine (r01_made false [n.natAbs%4294967296,n.natAbs/4294967296] _ _ _ _ (row_two _ _ _ _ _ _ _ (by omega) (by omega) (by omega) (by omega) (by simp)) rfl).mono ?_
  rintro e w1 ⟨n',p',l',c',rfl,hnr,hnew,hx⟩
  rw[M.out] at hnr ⊢
  have hx0:Ext w w1:=Ext.step bxx hx
  obtain⟨_,⟨_,_,_⟩,_,_,_⟩:=keepK2 hx w.heap.size
  go_wp2
  refine bodyPost_ret (v:=.agg #[.bool n',.slice p' l' c']) (by simp[results,Tryz.results47,go_sem, *]) rfl ?_
  exact⟨n',p',l',c',rfl,(by repeat (first|assumption|refine NR.set ?_ (by assumption) _ (by first|(simp;done)|(simp;omega)|omega) _|refine NR.alloc ?_ _)),hnew.mono (by simp;omega),bxx⟩
end

section
structure Con where
 f:FuncId
 g:List V1->Option (AV×List Prop)
 ok:∀args res ps,g args=some (res,ps)->All ps->Fok Tryz.prog f args res
def tab:List Con->FuncId->Option (List V1->Option (AV×List Prop))
 | [],_=>none
 | c::l,f=>if c.f=f then some c.g else tab l f
theorem tab_ok:∀l:List Con,KOk Tryz.prog (tab l)
 | [],_,_,_,_,_,h=>by cases h
 | c::l,f,g,args,res,ps,h=>by
  unfold tab at h
  split at h
  ·rename_i e
   cases h
   subst e
   exact c.ok args res ps
  ·exact tab_ok l f g args res ps h
theorem prog_nm (f : FuncId) (fn : Func) (h : Tryz.prog.funcs[f]? = some fn) : (fn.name == "runtime.NumGoroutine") = false := by
 have h0 : (Tryz.prog.funcs.toList.all fun fn => !(fn.name == "runtime.NumGoroutine")) = true := by kernel_rfl
 have:=List.all_eq_true.1 h0 fn (by rw[Array.mem_toList_iff];exact Array.mem_of_getElem? h)
 simpa using this
theorem sc_int{x:Sc}(h:x.kind=false):∃z,x=.i z:=by cases x<;>first|exact⟨_,rfl⟩|cases h
theorem sc_bool{x:Sc}(h:x.kind=true):∃z,x=.b z:=by cases x<;>first|exact⟨_,rfl⟩|cases h
theorem sc_cons{xs:List Sc}{b:Bool}{n:List Bool}(h:xs.map Sc.kind=b::n):∃x l,xs=x::l/\x.kind=b/\l.map Sc.kind=n:=by
 cases xs with
 | nil=>cases h
 | cons x l=>simp only[List.map_cons,List.cons.injEq] at h;exact⟨x,l,rfl,h.1,h.2⟩
theorem sc_nil{xs:List Sc}(h:xs.map Sc.kind=[]):xs=[]:=by simpa using h
theorem equal_of{t:TypeId}{u v:Value}{e:Bool}{w:World}(hb:binOp .eql t u v=(do pure (.bool (<- Op.equal t u v))))(h:(binOp .eql t u v).run Tryz.prog w=.ok (.bool e) w):(Op.equal t u v).run Tryz.prog w=.ok e w:=by
 rw[hb,Sem.run_bind] at h
 cases hr:(Op.equal t u v).run Tryz.prog w with
 | ok b w' =>
  rw[hr] at h
  simp only[Result.andThen_ok,Sem.run_pure,Result.ok.injEq,Value.bool.injEq] at h
  rw[h.1,h.2]
 | halt x w'=>rw[hr] at h;cases h
theorem eq_pt:EqOk Tryz.prog 25 [false,false]:=by
 refine⟨by kernel_rfl,fun xs ys hx hy w=>?_⟩
 obtain⟨_,_,rfl,h1,hx⟩:=sc_cons hx
 obtain⟨_,_,rfl,h2,hx⟩:=sc_cons hx
 obtain rfl:=sc_nil hx
 obtain⟨_,_,rfl,h3,hy⟩:=sc_cons hy
 obtain⟨_,_,rfl,h4,hy⟩:=sc_cons hy
 obtain rfl:=sc_nil hy
 obtain⟨a,rfl⟩:=sc_int h1
 obtain⟨b,rfl⟩:=sc_int h2
 obtain⟨c,rfl⟩:=sc_int h3
 obtain⟨d,rfl⟩:=sc_int h4
 exact equal_of rfl (eql_pt w a b c d)
theorem eq_b2:EqOk Tryz.prog 84 [true,true]:=by
 refine⟨by kernel_rfl,fun xs ys hx hy w=>?_⟩
 obtain⟨_,_,rfl,h1,hx⟩:=sc_cons hx
 obtain⟨_,_,rfl,h2,hx⟩:=sc_cons hx
 obtain rfl:=sc_nil hx
 obtain⟨_,_,rfl,h3,hy⟩:=sc_cons hy
 obtain⟨_,_,rfl,h4,hy⟩:=sc_cons hy
 obtain rfl:=sc_nil hy
 obtain⟨a,rfl⟩:=sc_bool h1
 obtain⟨b,rfl⟩:=sc_bool h2
 obtain⟨c,rfl⟩:=sc_bool h3
 obtain⟨d,rfl⟩:=sc_bool h4
 cases a<;>cases b<;>cases c<;>cases d<;>kernel_rfl
theorem eql_spot(w:World)(a0 a1 a2 a3 a4 a5 a6 b0 b1 b2 b3 b4 b5 b6:Int):(binOp .eql 36 (.agg #[.int .i64 a0,.int .i64 a1,.int .i64 a2,.int .i64 a3,.int .i64 a4,.int .i64 a5,.int .i64 a6]) (.agg #[.int .i64 b0,.int .i64 b1,.int .i64 b2,.int .i64 b3,.int .i64 b4,.int .i64 b5,.int .i64 b6])).run Tryz.prog w=.ok (.bool (a0==b0&&(a1==b1&&(a2==b2&&(a3==b3&&(a4==b4&&(a5==b5&&a6==b6))))))) w:=by
 by_cases h0:a0=b0
 rotate_left
 ·have g0 : (a0 == b0) = false := by simpa using h0
  go_simp
 subst h0
 by_cases h1:a1=b1
 rotate_left
 ·have g1 : (a1 == b1) = false := by simpa using h1
  go_simp
 subst h1
 by_cases h2:a2=b2
 rotate_left
 ·have g2 : (a2 == b2) = false := by simpa using h2
  go_simp
 subst h2
 by_cases h3:a3=b3
 rotate_left
 ·have g3 : (a3 == b3) = false := by simpa using h3
  go_simp
 subst h3
 by_cases h4:a4=b4
 rotate_left
 ·have g4 : (a4 == b4) = false := by simpa using h4
  go_simp
 subst h4
 by_cases h5:a5=b5
 rotate_left
 ·have g5 : (a5 == b5) = false := by simpa using h5
  go_simp
 subst h5
 by_cases h6:a6=b6
 rotate_left
 ·have g6 : (a6 == b6) = false := by simpa using h6
  go_simp
 subst h6
 go_simp
theorem eq_spot:EqOk Tryz.prog 36 [false,false,false,false,false,false,false]:=by
 refine⟨by kernel_rfl,fun xs ys hx hy w=>?_⟩
 obtain⟨_,_,rfl,h0,hx⟩:=sc_cons hx
 obtain⟨_,_,rfl,h1,hx⟩:=sc_cons hx
 obtain⟨_,_,rfl,h2,hx⟩:=sc_cons hx
 obtain⟨_,_,rfl,h3,hx⟩:=sc_cons hx
 obtain⟨_,_,rfl,h4,hx⟩:=sc_cons hx
 obtain⟨_,_,rfl,h5,hx⟩:=sc_cons hx
 obtain⟨_,_,rfl,h6,hx⟩:=sc_cons hx
 obtain rfl:=sc_nil hx
 obtain⟨_,_,rfl,k0,hy⟩:=sc_cons hy
 obtain⟨_,_,rfl,k1,hy⟩:=sc_cons hy
 obtain⟨_,_,rfl,k2,hy⟩:=sc_cons hy
 obtain⟨_,_,rfl,k3,hy⟩:=sc_cons hy
 obtain⟨_,_,rfl,k4,hy⟩:=sc_cons hy
 obtain⟨_,_,rfl,k5,hy⟩:=sc_cons hy
 obtain⟨_,_,rfl,k6,hy⟩:=sc_cons hy
 obtain rfl:=sc_nil hy
 obtain⟨_,rfl⟩:=sc_int h0
 obtain⟨_,rfl⟩:=sc_int k0
 obtain⟨_,rfl⟩:=sc_int h1
 obtain⟨_,rfl⟩:=sc_int k1
 obtain⟨_,rfl⟩:=sc_int h2
 obtain⟨_,rfl⟩:=sc_int k2
 obtain⟨_,rfl⟩:=sc_int h3
 obtain⟨_,rfl⟩:=sc_int k3
 obtain⟨_,rfl⟩:=sc_int h4
 obtain⟨_,rfl⟩:=sc_int k4
 obtain⟨_,rfl⟩:=sc_int h5
 obtain⟨_,rfl⟩:=sc_int k5
 obtain⟨_,rfl⟩:=sc_int h6
 obtain⟨_,rfl⟩:=sc_int k6
 exact equal_of rfl (eql_spot w _ _ _ _ _ _ _ _ _ _ _ _ _ _)
def EQ:List (TypeId×List Bool):=[(25,[false,false]),(84,[true,true]),(36,[false,false,false,false,false,false,false])]
theorem EQ_ok(t:TypeId)(n:List Bool)(h:EQ.lookup t=some n):EqOk Tryz.prog t n:=by
 unfold EQ at h
 simp only[List.lookup] at h
 split at h
 ·rename_i e
  cases h
  rw[beq_iff_eq.1 e]
  exact eq_pt
 ·split at h
  ·rename_i e
   cases h
   rw[beq_iff_eq.1 e]
   exact eq_b2
  ·split at h
   ·rename_i e
    cases h
    rw[beq_iff_eq.1 e]
    exact eq_spot
   ·cases h
theorem fok0{f:FuncId}{args:List V1}{res:AV}(h:aFun Tryz.prog ⟨[],[],[],[]⟩ (fun _=>none) 40 f args []=some ((res,[]),[],[])):Fok Tryz.prog f args res :=
 FokB.toO ((aFun_ok prog_nm (E:=⟨[],[],[],[]⟩) (fun _ _ h=>by cases h) (fun _ _ h=>by cases h) (fun _ _ _ _ h=>by cases h) (fun _ h=>by cases h) (fun _ _ _ _ _ h=>by cases h) 40).ok f args [] (res,[]) _ [] h trivial)
theorem mt_of{T:TypeId}{name:String}{n:Int}{wd:Nat}{f:FuncId}{fn:Func}{cb:Code}(hm:∀v w,(method (Tryz.prog.types.size+Made.depth) T v name).run Tryz.prog w=Result.ok (f,v) w)(h1:Tryz.prog.funcs[f]? = some fn)(h2:fn.body=some cb)(hF:∀l,l.length=wd->Fok Tryz.prog f [⟨true,intsI l⟩] (.one ⟨false,[.k n]⟩))(hi:I64 n):MtOk Tryz.prog T name n wd:=by
 refine⟨hi,fun o c x l a w ho hc ha hx hwd=>?_⟩
 have hnm:=prog_nm f fn h1
 have hrun:(execOp a.eval o).run Tryz.prog w=.ok (.enter f #[.agg (l.map fun x:Int×Nat=>Value.int .i64 x.1).toArray]) w:=by
  have e0:c.args=#[]:=Array.eq_empty_of_size_eq_zero ha
  have h3 : fn.name ≠ "runtime.NumGoroutine" := by simpa using hnm
  have e1:∀v,(callMethod (.iface T v) name #[]).run Tryz.prog w=.ok (.enter f #[v]) w:=fun v=>by
   simp only[callMethod,Sem.run_bind,run_program,hm,Result.andThen_ok,callFunc,h1]
   simp[h3,h2]
  unfold execOp
  simp only[ho,resolve,hc,e0,hx.1,Sem.run_bind,Sem.run_pure,Result.andThen_ok,invoke]
  generalize (Value.agg (l.map fun x:Int×Nat=>Value.int .i64 x.1).toArray)=v
  rw[show #[Value.iface T v]++Array.map a.eval #[]=#[Value.iface T v] by simp]
  have e2:(#[Value.iface T v].extract 1)=#[]:=by simp
  simp only[List.getElem?_toArray,List.getElem?_cons_zero]
  rw[e2]
  exact e1 v
 refine gives_enter hrun ?_
 refine (hF l hwd w [_] ⟨_,_,rfl,⟨_,rl_map (fun x hx'=>⟨rfl,hx.2 x hx'⟩),rfl,nofun⟩,rfl⟩).mono fun e w' ⟨v,e1,h1,h2⟩=>⟨v,e1,?_,h2⟩
 simpa using h1.scal.1
theorem len_s{α:Type}{l:List α}{n:Nat}(h:l.length=n+1):∃x m,l=x::m/\m.length=n:=by
 cases l with
 | nil=>simp at h
 | cons x m=>exact⟨x,m,rfl,by simpa using h⟩
def MT : List ((TypeId × String) × Int × Nat) := [((122, "etchant/meet.kind"), 0, 2), ((124, "etchant/meet.kind"), 1, 4), ((128, "etchant/meet.kind"), 2, 7)]
theorem mt_point : MtOk Tryz.prog 122 "etchant/meet.kind" 0 2 := by
 refine mt_of (f:=154) (fun v w=>by kernel_rfl) Tryz.func154 rfl (fun l h0=>?_) (by unfold I64;omega)
 obtain⟨x0,l0,rfl,h1⟩:=len_s h0
 obtain⟨x1,l1,rfl,h2⟩:=len_s h1
 obtain rfl:=List.eq_nil_of_length_eq_zero h2
 exact fok0 (by kernel_rfl)
theorem mt_line : MtOk Tryz.prog 124 "etchant/meet.kind" 1 4 := by
 refine mt_of (f:=155) (fun v w=>by kernel_rfl) Tryz.func155 rfl (fun l h0=>?_) (by unfold I64;omega)
 obtain⟨x0,l0,rfl,h1⟩:=len_s h0
 obtain⟨x1,l1,rfl,h2⟩:=len_s h1
 obtain⟨x2,l2,rfl,h3⟩:=len_s h2
 obtain⟨x3,l3,rfl,h4⟩:=len_s h3
 obtain rfl:=List.eq_nil_of_length_eq_zero h4
 exact fok0 (by kernel_rfl)
theorem mt_arc : MtOk Tryz.prog 128 "etchant/meet.kind" 2 7 := by
 refine mt_of (f:=156) (fun v w=>by kernel_rfl) Tryz.func156 rfl (fun l h0=>?_) (by unfold I64;omega)
 obtain⟨x0,l0,rfl,h1⟩:=len_s h0
 obtain⟨x1,l1,rfl,h2⟩:=len_s h1
 obtain⟨x2,l2,rfl,h3⟩:=len_s h2
 obtain⟨x3,l3,rfl,h4⟩:=len_s h3
 obtain⟨x4,l4,rfl,h5⟩:=len_s h4
 obtain⟨x5,l5,rfl,h6⟩:=len_s h5
 obtain⟨x6,l6,rfl,h7⟩:=len_s h6
 obtain rfl:=List.eq_nil_of_length_eq_zero h7
 exact fok0 (by kernel_rfl)
theorem MT_ok(T:TypeId)(name:String)(n:Int)(wd:Nat)(h:MT.lookup (T,name)=some (n,wd)):MtOk Tryz.prog T name n wd:=by
 unfold MT at h
 simp only[List.lookup] at h
 split at h
 ·rename_i e
  cases h
  obtain⟨rfl,rfl⟩:=Prod.mk.inj (beq_iff_eq.1 e)
  exact mt_point
 ·split at h
  ·rename_i e
   cases h
   obtain⟨rfl,rfl⟩:=Prod.mk.inj (beq_iff_eq.1 e)
   exact mt_line
  ·split at h
   ·rename_i e
    cases h
    obtain⟨rfl,rfl⟩:=Prod.mk.inj (beq_iff_eq.1 e)
    exact mt_arc
   ·cases h
structure Eff where
 f:FuncId
 g:EffF
 ok:EffOk Tryz.prog f g
def WR:List FuncId:=[31]
theorem WR_ok(f:FuncId)(h:WR.contains f=true):WrapOk Tryz.prog f:=by
 obtain rfl:f=31:=by simpa[WR] using h
 exact guard_wrap
def env(X:List Eff):Env:=⟨EQ,X.map (fun x=>(x.f,x.g)),MT,WR⟩
theorem env_ok(X:List Eff)(f:FuncId)(g:EffF)(h:(env X).eff.lookup f=some g):EffOk Tryz.prog f g:=by
 induction X with
 | nil=>cases h
 | cons x X ih =>
  simp only[env,List.map_cons,List.lookup] at h ih
  split at h
  ·rename_i e
   cases h
   rw[beq_iff_eq.1 e]
   exact x.ok
  ·exact ih h
theorem fokB{f:FuncId}{args:List V1}{res:AV}(K:List Con)(q:List Bool)(pf:List Pf)(X:List Eff)(h:aFun Tryz.prog (env X) (tab K) 40 f args q=some ((res,[]),pf.map Pf.p,[])):Fok Tryz.prog f args res :=
 FokB.toO ((aFun_ok prog_nm EQ_ok (env_ok X) MT_ok WR_ok (tab_ok K) 40).ok f args q (res,[]) _ [] h (all_pf pf))
theorem lax_i{V W:World}{r:Nat->Nat}{k:Nat}{i:It}{cs:List Value}(h1:RepI V W r k i cs):RepI V W r k (laxI i) cs:=by
 cases i with
 | i z B=>exact⟨h1.1,by have:=h1.2.2;unfold I64 at this;unfold lim;omega,h1.2.2⟩
 | b k=>exact⟨h1,rfl⟩
 | k n=>exact⟨h1.1,by have:=h1.2;unfold I64 at this;unfold lim;omega,h1.2⟩
 | _=>exact h1
theorem lax_l{V W:World}{r:Nat->Nat}{k:Nat}:∀ {l:List It} {cs:List Value},RepL V W r k l cs->RepL V W r k (laxL l) cs
 | [],_,e=>e
 | i::l,_,⟨c,d,e,h1,h2⟩=>by
  unfold laxL
  split
  ·obtain ⟨c2, d2, e2, h3, h4⟩ := h2
   subst e2 e
   cases h1
   rw[h3.1]
   exact⟨[_,_],d2,rfl,⟨_,_,_,_,rfl,⟨rfl,rfl,Row.nil _⟩⟩,lax_l h4⟩
  ·exact⟨c,d,e,lax_i h1,lax_l h2⟩
theorem lax_v{V W:World}{r:Nat->Nat}{k:Nat}{v:V1}{x:Value}:RepV V W r k v x->RepV V W r k (laxV v) x
 | ⟨cs,h1,h2,h3⟩=>⟨cs,lax_l h1,h2,h3⟩
theorem lax_vs{V W:World}{r:Nat->Nat}{k:Nat}:∀ {l:List V1} {xs:List Value},RepVs V W r k l xs->RepVs V W r k (l.map laxV) xs
 | [],_,e=>e
 | _::_,_,⟨x,ys,e,h1,h2⟩=>⟨x,ys,e,lax_v h1,lax_vs h2⟩
theorem lax_a{V W:World}{r:Nat->Nat}{k:Nat}:∀ {v:AV} {x:Value},RepA V W r k v x->RepA V W r k (laxA v) x
 | .und,_,e=>e
 | .any,_,e=>e
 | .one _,_,e=>lax_v e
 | .tup _,_,⟨xs,e,h⟩=>⟨xs,e,lax_vs h⟩
theorem Fok.mono{f:FuncId}{args:List V1}{res res':AV}(h:Fok Tryz.prog f args res)(hr:∀W x,RepA W W (fun _=>0) 0 res x->RepA W W (fun _=>0) 0 res' x):Fok Tryz.prog f args res' :=
 fun W vals hv=>(h W vals hv).mono fun _ _ ⟨v,h1,h2,h3⟩=>⟨v,h1,hr _ _ h2,h3⟩
theorem fokX{f:FuncId}{args:List V1}{res:AV}(X:List Eff)(K:List Con)(q:List Bool)(pf:List Pf)(h:(aFun Tryz.prog (env X) (tab K) 40 f args q).map (fun z=>((laxA z.1.1,z.1.2),z.2))=some ((res,[]),pf.map Pf.p,[])):Fok Tryz.prog f args res:=by
 cases hz:aFun Tryz.prog (env X) (tab K) 40 f args q with
 | none=>rw[hz] at h;cases h
 | some z =>
  obtain⟨⟨z0,z1⟩,z2,z3⟩:=z
  rw[hz] at h
  simp only[Option.map_some,Option.some.injEq,Prod.mk.injEq] at h
  obtain⟨⟨rfl,rfl⟩,rfl,rfl⟩:=h
  exact (fokB K q pf X hz).mono fun _ _ h=>lax_a h
theorem fok{f:FuncId}{args:List V1}{res:AV}(K:List Con)(q:List Bool)(pf:List Pf)(h:(aFun Tryz.prog (env []) (tab K) 40 f args q).map (fun z=>((laxA z.1.1,z.1.2),z.2))=some ((res,[]),pf.map Pf.p,[])):Fok Tryz.prog f args res:=fokX [] K q pf h
section
variable {V W:World} {r:Nat->Nat} {k:Nat}
theorem rl_nil{cs:List Value}:RepL V W r k [] cs <-> cs=[]:=Iff.rfl
theorem rl_i{z:Int}{B:Nat}{l:List It}{cs:List Value}:RepL V W r k (.i z B::l) cs <-> (z.natAbs<=B/\I64 z)/\∃d,cs=.int .i64 z::d/\RepL V W r k l d :=
 ⟨fun ⟨c,d,e,⟨h1,h2⟩,h3⟩=>⟨h2,d,by rw[e,h1];rfl,h3⟩,fun ⟨h,d,e,h3⟩=>⟨[_],d,e,⟨rfl,h⟩,h3⟩⟩
theorem rl_v{x:Value}{l:List It}{cs:List Value}:RepL V W r k (.v x::l) cs <-> okV x=true/\∃d,cs=x::d/\RepL V W r k l d :=
 ⟨fun ⟨c,d,e,⟨h1,h2⟩,h3⟩=>⟨h2,d,by rw[e,h1];rfl,h3⟩,fun ⟨h,d,e,h3⟩=>⟨[_],d,e,⟨rfl,h⟩,h3⟩⟩
theorem rl_num{x:Nm}{l:List It}{cs:List Value}:RepL V W r k (.d (.num x)::l) cs <-> ∃n p m c,NR W n p m c x/\∃d,cs=.bool n::.slice p m c::d/\RepL V W r k l d :=
 ⟨fun ⟨c,d,e,⟨n,p,m,c',h1,h2⟩,h3⟩=>⟨n,p,m,c',h2,d,by rw[e,h1];rfl,h3⟩,fun ⟨n,p,m,c',h,d,e,h3⟩=>⟨[_,_],d,e,⟨n,p,m,c',rfl,h⟩,h3⟩⟩
theorem rv_t{l:List It}{x:Value}:RepV V W r k ⟨true,l⟩ x <-> ∃cs,RepL V W r k l cs/\x=.agg cs.toArray :=
 ⟨fun ⟨cs,h1,h2,_⟩=>⟨cs,h1,h2⟩,fun ⟨cs,h1,h2⟩=>⟨cs,h1,h2,nofun⟩⟩
theorem rv_i{z:Int}{B:Nat}{x:Value}:RepV V W r k ⟨false,[.i z B]⟩ x <-> (z.natAbs<=B/\I64 z)/\x=.int .i64 z :=
 ⟨fun h=>⟨h.scal.2,by simpa using h.scal.1⟩,fun ⟨h,e⟩=>RepI.val ⟨by rw[e],h⟩⟩
theorem rv_v{v x:Value}:RepV V W r k ⟨false,[.v v]⟩ x <-> okV v=true/\x=v :=
 ⟨fun h=>⟨h.scal.2,by simpa using h.scal.1⟩,fun ⟨h,e⟩=>RepI.val ⟨by rw[e],h⟩⟩
theorem rvs_nil{xs:List Value}:RepVs V W r k [] xs <-> xs=[]:=Iff.rfl
theorem rvs_cons{v:V1}{l:List V1}{xs:List Value}:RepVs V W r k (v::l) xs <-> ∃x,RepV V W r k v x/\∃ys,xs=x::ys/\RepVs V W r k l ys :=
 ⟨fun ⟨x,ys,e,h1,h2⟩=>⟨x,h1,ys,e,h2⟩,fun ⟨x,h1,ys,e,h2⟩=>⟨x,ys,e,h1,h2⟩⟩
end
def nmV(x:Nm):V1:=⟨true,[.d (.num x)]⟩
def blV(b:Bool):V1:=⟨false,[.v (.bool b)]⟩
def inV(z:Int)(B:Nat):V1:=⟨false,[.i z B]⟩
def ptV(x y:Int)(B:Nat):V1:=⟨true,[.i x B,.i y B]⟩
abbrev Gv(res:AV)(w:World)(e:Ending)(w':World):Prop:=∃v,e=.returned v/\RepA w' w' (fun _=>0) 0 res v/\Ext w w'
theorem gv_nm{x:Nm}{w:World}{e:Ending}{w':World}(h:RetN w x e w'):Gv (.one (nmV x)) w e w':=by
 obtain⟨n,p,l,c,rfl,h1,_,h2⟩:=h
 exact⟨_,rfl,rv_t.2 ⟨_,rl_num.2 ⟨n,p,l,c,h1,[],rfl,rfl⟩,rfl⟩,h2⟩
theorem gv_nb{x:Nm×Bool}{w:World}{e:Ending}{w':World}(h:RetNum w x e w'):Gv (.tup [nmV x.1,blV x.2]) w e w':=by
 obtain⟨n,p,l,c,rfl,h1,_,h2⟩:=h
 exact⟨_,rfl,⟨[_,_],rfl,rvs_cons.2 ⟨_,rv_t.2 ⟨_,rl_num.2 ⟨n,p,l,c,h1,[],rfl,rfl⟩,rfl⟩,_,rfl,rvs_cons.2 ⟨_,rv_v.2 ⟨rfl,rfl⟩,_,rfl,rfl⟩⟩⟩,h2⟩
theorem gv_bl{b:Bool}{w:World}{e:Ending}{w':World}(h:e=.returned (.bool b)/\Ext w w'):Gv (.one (blV b)) w e w':=⟨_,h.1,rv_v.2 ⟨rfl,rfl⟩,h.2⟩
theorem gv_in{z:Int}{B:Nat}{w:World}{e:Ending}{w':World}(hB:z.natAbs<=B/\I64 z)(h:e=.returned (.int .i64 z)/\Ext w w'):Gv (.one (inV z B)) w e w':=⟨_,h.1,rv_i.2 ⟨hB,rfl⟩,h.2⟩
end
theorem law_true{f:FuncId}{args:List V1}(h:Fok Tryz.prog f args (.one (blV true))){W:World}{vals:List Value}(hv:RepVs W W (fun _=>0) 0 args vals):Calls Tryz.prog f vals.toArray W fun e w'=>e=.returned (.bool true)/\Below W.heap.size W w' :=
 (h W vals hv).mono fun e w' ⟨v,e1,h1,h2⟩=>⟨by rw[e1,(rv_v.1 h1).2],h2⟩
end Go.Proofs.YtcfpcafnjgpfdaaGreat
