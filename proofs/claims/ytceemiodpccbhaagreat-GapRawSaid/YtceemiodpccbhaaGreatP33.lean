import Derived.Test.YtceemiodpccbhaaGreatP32
import Derived.Deep.Slices
set_option linter.unusedVariables false
set_option linter.unusedSimpArgs false


set_option maxRecDepth 100000
namespace Go.Proofs.YtceemiodpccbhaaGreat.fin
open Go.ChangeShapes Go.WideShapes Go.ChangeAt Go.RowKit Go.Joins
set_option linter.unusedVariables false
section
variable {H:Type} {enc:TypeId×Value->H} {W:World}
theorem int_tr{m:Nat}{l:List Value}{x:DataW H×List MemPlace}(h:DataW.trod enc Tryz.prog W 0 (fun _=>true) true m 3 l=some x):∃z,l=[.int .i64 z]/\In64 z:=by
 obtain⟨n,h1,_,h2⟩:=DataW.trod_int Tryz.underlying3 h
 simp[Lit.wf,IntKind.has,IntKind.min,IntKind.max,IntKind.signed,IntKind.bits] at h2
 exact⟨n,h1,h2⟩
theorem c_int:Tryz.prog.cellsOf 3=1:=by kernel_rfl
theorem c_pt:Tryz.prog.cellsOf 32=2:=by kernel_rfl
theorem c_ed:Tryz.prog.cellsOf 70=7:=by kernel_rfl
theorem c_sl:Tryz.prog.cellsOf 22=1:=by kernel_rfl
theorem pt_tr{m:Nat}{c0 c1:Value}{x:DataW H×List MemPlace}(h:DataW.trod enc Tryz.prog W 0 (fun _=>true) true m 32 [c0,c1]=some x):∃y z,c0=.int .i64 y/\c1=.int .i64 z/\In64 y/\In64 z:=by
 obtain⟨xs,k,_,_,_,hx,hi⟩:=DataW.trod_struct Tryz.underlying32 h
 have hx2:xs.length=2:=hx
 obtain⟨x0,M0,rfl,m0⟩:=list_cons hx2
 obtain⟨x1,M1,rfl,m1⟩:=list_cons m0
 have g0:DataW.trod enc Tryz.prog W 0 (fun _=>true) true k 3 (List.take (Tryz.prog.cellsOf 3) (List.drop 0 [c0,c1]))=some x0:=hi 0 _ rfl
 have g1:DataW.trod enc Tryz.prog W 0 (fun _=>true) true k 3 (List.take (Tryz.prog.cellsOf 3) (List.drop 1 [c0,c1]))=some x1:=hi 1 _ rfl
 rw[c_int] at g0 g1
 simp only[List.drop_zero,List.take_succ_cons,List.take_zero,List.drop_succ_cons] at g0 g1
 obtain⟨y,e0,i0⟩:=int_tr g0
 obtain⟨z,e1,i1⟩:=int_tr g1
 simp at e0 e1
 exact⟨y,z,e0,e1,i0,i1⟩
theorem edge_tr{m:Nat}{cs:List Value}{x:DataW H×List MemPlace}(h:DataW.trod enc Tryz.prog W 0 (fun _=>true) true m 70 cs=some x):∃e:Ed,cs.length=7/\RepF W (edI e) cs:=by
 obtain⟨xs,k,_,_,hl,hx,hi⟩:=DataW.trod_struct Tryz.underlying70 h
 rw[c_ed] at hl
 have hl0:=hl
 obtain⟨c0,N0,rfl,n0⟩:=list_cons hl
 obtain⟨c1,N1,rfl,n1⟩:=list_cons n0
 obtain⟨c2,N2,rfl,n2⟩:=list_cons n1
 obtain⟨c3,N3,rfl,n3⟩:=list_cons n2
 obtain⟨c4,N4,rfl,n4⟩:=list_cons n3
 obtain⟨c5,N5,rfl,n5⟩:=list_cons n4
 obtain⟨c6,N6,rfl,n6⟩:=list_cons n5
 obtain rfl:=List.eq_nil_of_length_eq_zero n6
 have hx2:xs.length=4:=hx
 obtain⟨x0,M0,rfl,m0⟩:=list_cons hx2
 obtain⟨x1,M1,rfl,m1⟩:=list_cons m0
 obtain⟨x2,M2,rfl,m2⟩:=list_cons m1
 obtain⟨x3,M3,rfl,m3⟩:=list_cons m2
 have g0:DataW.trod enc Tryz.prog W 0 (fun _=>true) true k 3 (List.take (Tryz.prog.cellsOf 3) (List.drop 0 [c0,c1,c2,c3,c4,c5,c6]))=some x0:=hi 0 _ rfl
 have g1:DataW.trod enc Tryz.prog W 0 (fun _=>true) true k 32 (List.take (Tryz.prog.cellsOf 32) (List.drop 1 [c0,c1,c2,c3,c4,c5,c6]))=some x1:=hi 1 _ rfl
 have g2:DataW.trod enc Tryz.prog W 0 (fun _=>true) true k 32 (List.take (Tryz.prog.cellsOf 32) (List.drop 3 [c0,c1,c2,c3,c4,c5,c6]))=some x2:=hi 2 _ rfl
 have g3:DataW.trod enc Tryz.prog W 0 (fun _=>true) true k 32 (List.take (Tryz.prog.cellsOf 32) (List.drop 5 [c0,c1,c2,c3,c4,c5,c6]))=some x3:=hi 3 _ rfl
 rw[c_int] at g0
 rw[c_pt] at g1 g2 g3
 simp only[List.drop_zero,List.take_succ_cons,List.take_zero,List.drop_succ_cons] at g0 g1 g2 g3
 obtain⟨z0,e0,i0⟩:=int_tr g0
 simp at e0
 subst e0
 obtain⟨z1,z2,rfl,rfl,i1,i2⟩:=pt_tr g1
 obtain⟨z3,z4,rfl,rfl,i3,i4⟩:=pt_tr g2
 obtain⟨z5,z6,rfl,rfl,i5,i6⟩:=pt_tr g3
 exact⟨⟨z0,z1,z2,z3,z4,z5,z6⟩,rfl,[_],_,rfl,⟨rfl,lim64 i0⟩,[_],_,rfl,⟨rfl,lim64 i1⟩,[_],_,rfl,⟨rfl,lim64 i2⟩,[_],_,rfl,⟨rfl,lim64 i3⟩,[_],_,rfl,⟨rfl,lim64 i4⟩,[_],_,rfl,⟨rfl,lim64 i5⟩,[_],_,rfl,⟨rfl,lim64 i6⟩,rfl⟩
theorem cell_heap{a:Addr}{v:Value}(h:W.cell? a=some v):∃xs T fr,W.heap[a.block]? = some (.cells xs T fr)/\a.spot=none/\xs[a.off]? = some v:=by
 unfold World.cell? at h
 split at h
 ·rename_i c T fr hb
  split at h
  ·cases h
  ·rename_i hs
   exact⟨c,T,fr,hb,by simpa using hs,h⟩
 ·cases h
theorem shape_open{base:Nat}{v:Value}{d:DataW H}{p:List MemPlace}(hv:Value.okWide Tryz.prog W .any base 24 v)(h:DataW.Trod enc Tryz.prog W 0 (fun _=>true) true 24 v d p) :
  ∃s a c,v=.agg #[.int .i64 (Sh.k s),.slice a s.n c,.int .i64 s.r]/\ShAt W s a c:=by
 unfold Value.okWide at hv
 rw[Tryz.underlying24] at hv
 obtain⟨cs,rfl,hsz,ts,hts,_,hc⟩:=hv
 have hC:Tryz.prog.cellsOf 24=3:=by kernel_rfl
 have hT:Tryz.prog.cellTypes Tryz.prog.depth 24=some [3,22,3]:=by kernel_rfl
 rw[hC] at hsz
 obtain rfl:=Option.some.inj (hT.symm.trans hts)
 obtain⟨c0,c1,c2,rfl⟩:∃c0 c1 c2,cs=#[c0,c1,c2]:=by
  obtain⟨l⟩:=cs
  match l,hsz with
  | [c0,c1,c2],_=>exact⟨c0,c1,c2,rfl⟩
 obtain⟨u,hu1,hu2⟩:=hc 0 c0 rfl
 cases hu1
 obtain⟨k,rfl,ik⟩:=int_of hu2
 obtain⟨u,hu1,hu2⟩:=hc 2 c2 rfl
 cases hu1
 obtain⟨r,rfl,ir⟩:=int_of hu2
 obtain⟨fuel,hf⟩:=h
 obtain⟨xs,m,_,_,_,hx,hi⟩:=DataW.trod_struct Tryz.underlying24 hf
 have hx2:xs.length=3:=hx
 obtain⟨x0,M0,rfl,m0⟩:=list_cons hx2
 obtain⟨x1,M1,rfl,m1⟩:=list_cons m0
 have g1:DataW.trod enc Tryz.prog W 0 (fun _=>true) true m 22 (List.take (Tryz.prog.cellsOf 22) (List.drop 1 [.int .i64 k,c1,.int .i64 r]))=some x1:=hi 1 _ rfl
 rw[c_sl] at g1
 simp only[List.drop_zero,List.take_succ_cons,List.take_zero,List.drop_succ_cons] at g1
 rcases Go.Deep.open_slice Tryz.underlying22 g1 with⟨hcs,_⟩|⟨a,len,cap,mm,n,D,Pl,hcs,_,hl,hm,hmm,_,hE⟩
 ·simp at hcs
  subst hcs
  exact⟨⟨k,0,fun _=>⟨0,0,0,0,0,0,0⟩,r⟩,none,0,rfl,(lim64 ik).2,(lim64 ir).2,Nat.le_refl _,Nat.zero_le _,none,0,rfl,Nat.le_refl _,Nat.zero_le _,fun i hi=>absurd hi (Nat.not_lt_zero _)⟩
 ·simp at hcs
  subst hcs
  have hmm':mm=cap:=by simpa using hmm
  rw[c_ed] at hE
  have key:∀i,∃e:Ed,i<len->∃cs,W.cells? 0 (a.add (i*7)) 7=some cs/\cs.length=7/\RepF W (edI e) cs:=fun i=>by
   by_cases hi:i<len
   ·obtain ⟨cs, h1, h2⟩ := hE i (by omega)
    obtain⟨e,h3,h4⟩:=edge_tr h2
    exact⟨e,fun _=>⟨cs,h1,h3,h4⟩⟩
   ·exact⟨⟨0,0,0,0,0,0,0⟩,fun h=>absurd h hi⟩
  obtain⟨e,he⟩:=Classical.skolem.1 key
  refine⟨⟨k,len,e,r⟩,some a,cap,rfl,(lim64 ik).2,(lim64 ir).2,hl,hm,some a,cap,rfl,hl,hm,fun i hi=>?_⟩
  obtain⟨cs,h1,h2,h3⟩:=he i hi
  obtain⟨cs0,y1,y2,_⟩:=he 0 (Nat.lt_of_le_of_lt (Nat.zero_le _) hi)
  obtain⟨_,_,y3⟩:=World.cells?_some y1
  have y4:=y3 0 (by omega)
  rw[List.getElem?_eq_getElem (by omega)] at y4
  obtain⟨ys,T,fr,z1,z2,z3⟩:=cell_heap y4
  obtain⟨b,o,spot⟩:=a
  simp[Addr.add] at z1 z2
  subst z2
  obtain⟨_,_,w1⟩:=World.cells?_some h1
  have w2:∀j,j<7->ys[o+i*7+j]? = cs[j]? := fun j hj=>by
   have:=w1 j hj
   rw[add_none,add_none,cell_of_row _ _ _ _ _ _ z1] at this
   exact this
  have w3:o+i*7+6<ys.size:=by
   have:=w2 6 (by omega)
   rw[List.getElem?_eq_getElem (by omega)] at this
   exact (Array.getElem?_eq_some_iff.1 this).1
  refine⟨b,o,ys,(T,fr),rfl,z1,by omega,cs,ys.toList.drop (o+i*7+7),?_,h3⟩
  have t1:(ys.toList.drop (o+i*7)).take 7=cs:=by
   apply List.ext_getElem?
   intro j
   by_cases hj:j<7
   ·rw [List.getElem?_take_of_lt hj, List.getElem?_drop, <- w2 j hj]
    simp
   ·rw[List.getElem?_eq_none (by simp;omega),List.getElem?_eq_none (by omega)]
  have t2:(ys.toList.drop (o+i*7)).drop 7=ys.toList.drop (o+i*7+7):=List.drop_drop ..
  rw[<- t1,<- t2,List.take_append_drop]
end
end Go.Proofs.YtceemiodpccbhaaGreat.fin
namespace Go.Proofs.YtceemiodpccbhaaGreat
open Go.RowKit

set_option maxHeartbeats 4000000
set_option maxRecDepth 100000
section
attribute [local go_sem] Gives givesU
theorem r01_Int(a:Nm)(na:Bool)(pa:Option Addr)(la ca:Nat)(w:World)(ha:NR w na pa la ca a) :
  Calls Tryz.prog 140 #[.agg #[.bool na,.slice pa la ca]] w (RetInt w (intP a)):=by
 have RA:=Lib.hid (fun w' (hx:Ext w w')=>r01_Right a na pa la ca w' (ha.ext hx))
 cases ra:a.right with
 | false =>
  rw[ra] at RA
  have hP:intP a=(0,false):=by unfold intP;rw[ra];rfl
  rw[hP]
  go_enter Tryz.func140,Tryz.ntmps140
  go_wp2_with fail
  refine (RA.out _ bxx).mono ?_
  rintro e w1 ⟨rfl,hx⟩
  have hx0:Ext w w1:=Ext.step bxx hx
  go_wp2
  go_ret2
  exact⟨rfl,hx0⟩
 | true =>
  rw[ra] at RA
  by_cases hl:2<la
  ·have hP:intP a=(0,false):=by
    have:=ha.2.1
    unfold intP;rw[if_neg];simp;intros;omega
   rw[hP]
   go_enter Tryz.func140,Tryz.ntmps140
   go_wp2_with fail
   refine (RA.out _ bxx).mono ?_
   rintro e w1 ⟨rfl,hx⟩
   have hx0:Ext w w1:=Ext.step bxx hx
   obtain⟨_,_,hk_w1_0,hf_w1_0⟩:=keepK1 hx w.heap.size
   go_wp2
   go_ret2
   exact⟨rfl,hx0⟩
  ·have dl : decide (2 < (la : Int)) = false := by rw [decide_eq_false_iff_not]; omega
   obtain rfl:la=a.d.length:=ha.2.1
   have hlen:a.d.length<=2:=by omega
   have hcap:=ha.2.2.le
   have hmax:=ha.2.2.max
   have HLEN:=Lib.hid hlen
   clear hl
   have hdig:=ha.2.2.dig
   have hsgn:na=a.neg:=ha.1
   have hM64:val a.d<18446744073709551616:=by
    have:=val_lt hdig
    exact Nat.lt_of_lt_of_le this (Nat.pow_le_pow_right (n:=4294967296) (i:=a.d.length) (j:=2) (by omega) hlen)
   have hzv:a.z=if na then -(val a.d:Int) else val a.d:=by unfold Nm.z;rw[hsgn]
   have hpos:na=true->0<val a.d:=by
    intro h
    refine tight_posD (a.right_iff.1 ra).2.1 ?_
    rcases Nat.eq_zero_or_pos a.d.length with g|g
    ·have := (a.right_iff.1 ra).2.2 (List.eq_nil_of_length_eq_zero g)
     rw[hsgn,this] at h;cases h
    ·exact g
   have hP:intP a=if decide (-9223372036854775808<=a.z)&&decide (a.z<=9223372036854775807) then (a.z,true) else (0,false):=by
    unfold intP
    rw[ra,show decide (a.d.length<=2)=true by simpa using hlen]
    rfl
   rw[hzv] at hP
   have HA:=Lib.hid ha
   have HP:=Lib.hid hP
   have HPOS:=Lib.hid hpos
   have HM:=Lib.hid hM64
   have HD:=Lib.hid hdig
   clear hP hzv hsgn hpos hM64 ha ra hdig
   go_enter Tryz.func140,Tryz.ntmps140
   go_wp2_with fail
   refine (RA.out _ bxx).mono ?_
   rintro e w1 ⟨rfl,hx⟩
   have hx0:Ext w w1:=Ext.step bxx hx
   obtain⟨_,_,hk_w1_0,hf_w1_0⟩:=keepK1 hx w.heap.size
   have g0:w1.cell? ⟨w.heap.size,0,none⟩=some (.bool na):=by go_simp
   have g1:w1.cell? ⟨w.heap.size,1,none⟩=some (.slice pa a.d.length ca):=by go_simp
   have HROW:=Lib.hid (HA.out.ext hx0).2.2
   have hl1:w.heap.size<w1.heap.size:=by omega
   clear hk_w1_0 hf_w1_0 hx
   clear RA
   go_wp2_with fail
   go_loopw [4,5] (fun m i wr=>∃k:Nat,k<=a.d.length/\i=.int .i64 (k:Int)/\m=.int .u64 ((val (a.d.take k):Nat):Int)/\wr=w1) (fun _ i _=>a.d.length-(intOf i).toNat)
   case atStart=>exact⟨0,Nat.zero_le _,rfl,rfl,rfl⟩
   case round =>
    obtain⟨k,hk,rfl,rfl,rfl⟩:=hrel
    by_cases hlt:k<a.d.length
    ·obtain ⟨b, o, rfl, hb, hc⟩ := HROW.out.at (by omega)
     have hck:=hc k hlt
     have hd0:=HD.out.getD k
     rw[List.getD_eq_getElem?_getD] at hd0
     have TK:Hid (val (a.d.take (k+1))=val (a.d.take k)+4294967296 ^ k*(a.d[k]?.getD 0)):=Lib.hid (by
      rw[List.take_succ_eq_append_getElem hlt,val_append,List.length_take,Nat.min_eq_left (by omega),List.getElem?_eq_getElem hlt]
      simp[val])
     obtain⟨x,X⟩:∃x,Hid (a.d[k]?.getD 0=x):=⟨_,Lib.hid rfl⟩
     rw[X.out] at hck hd0 TK
     clear hc
     have NX:Hid (val (a.d.take (k+1))=val (a.d.take k)+4294967296 ^ k*x):=TK
     obtain⟨m,M⟩:∃m,Hid (val (a.d.take k)=m):=⟨_,Lib.hid rfl⟩
     have hm:m<4294967296 ^ k:=by
      have:=val_lt (d:=a.d.take k) (fun y hy=>HD.out y (List.mem_of_mem_take hy))
      rwa [List.length_take,Nat.min_eq_left (by omega),M.out] at this
     rw[M.out] at NX ⊢
     rcases (show k=0\/k=1 by omega) with rfl|rfl
     ·have hm0 : m = 0 := by simpa using hm
      subst hm0
      have T1:Hid (val (a.d.take (0+1))=x):=Lib.hid (by rw[NX.out];simp)
      rw[Nat.add_zero] at hck
      clear TK NX hm M
      go_wp2_with fail
      exact⟨⟨1,by omega,rfl,by rw[show val (a.d.take 1)=x from T1.out],trivial⟩,by simp[intOf];omega⟩
     ·have T1 : Hid (val (a.d.take (1 + 1)) = m + 4294967296 * x) := Lib.hid (by rw [NX.out, Nat.pow_one])
      rw[Nat.pow_one] at hm
      clear TK NX
      go_wp2_with fail
      exact⟨⟨2,by omega,rfl,by rw[show val (a.d.take 2)=_ from T1.out];congr 1;omega,trivial⟩,by simp[intOf];omega⟩
    ·obtain rfl : k = a.d.length := by omega
     rw[List.take_of_length_le (Nat.le_refl _)]
     obtain⟨M,HV⟩:∃M,Hid (val a.d=M):=⟨_,rfl⟩
     have hM64:=HM.out
     have hpos:=HPOS.out
     have HP2:=HP.out
     rw[HV.out] at hM64 hpos HP2 ⊢
     have HPM:=Lib.hid HP2
     clear HP2 HP HPOS HM HROW
     cases na
     ·by_cases h63 : M < 9223372036854775808
      ·have d1 : decide (9223372036854775808 <= (M : Int)) = false := by rw [decide_eq_false_iff_not]; omega
       have d2:¬9223372036854775808<=(M:Int):=by omega
       have w0:wrap64 (M:Int)=(M:Int):=IntWalk.wrap64_in _ ⟨by omega,by omega⟩
       have RES:Hid (intP a=((M:Int),true)):=Lib.hid (HPM.out.trans (by rw[if_pos];rfl;simp;omega))
       clear hpos HPM hM64
       go_wp2
       go_ret2
       exact⟨by rw[RES.out];first|rfl|simp[w0],hx0⟩
      ·have d1 : decide (9223372036854775808 <= (M : Int)) = true := by rw [decide_eq_true_eq]; omega
       have d2:9223372036854775808<=(M:Int):=by omega
       have RES:Hid (intP a=(0,false)):=Lib.hid (HPM.out.trans (by rw[if_neg];simp;omega))
       clear hpos HPM hM64
       go_wp2
       go_ret2
       exact⟨by rw[RES.out];rfl,hx0⟩
     ·by_cases h63 : M <= 9223372036854775808
      ·have d1 : decide (9223372036854775808 < (M : Int)) = false := by rw [decide_eq_false_iff_not]; omega
       have d2:¬9223372036854775808<(M:Int):=by omega
       have hp:=hpos rfl
       have w1':IntKind.u64.wrap (-(M:Int))=18446744073709551616-(M:Int):=by rw[u64_neg _ (by omega)];omega
       have w2':wrap64 (18446744073709551616-(M:Int)) = -(M:Int):=by
        unfold wrap64
        omega
       have RES:Hid (intP a=(-(M:Int),true)):=Lib.hid (HPM.out.trans (by rw[if_pos];rfl;simp;omega))
       have HW:=Lib.hid w1'
       have HW2:=Lib.hid w2'
       clear hpos HPM hM64 w1' w2' hp
       go_wp2
       go_ret2
       have e:wrap64 (IntKind.u64.wrap (-(M:Int))) = -(M:Int):=by rw[HW.out,HW2.out]
       exact⟨by rw[RES.out];exact congrArg (fun z=>Ending.returned (.tuple #[.int .i64 z,.bool true])) e,hx0⟩
      ·have d1 : decide (9223372036854775808 < (M : Int)) = true := by rw [decide_eq_true_eq]; omega
       have d2:9223372036854775808<(M:Int):=by omega
       have RES:Hid (intP a=(0,false)):=Lib.hid (HPM.out.trans (by rw[if_neg];simp;omega))
       clear hpos HPM hM64
       go_wp2
       go_ret2
       exact⟨by rw[RES.out];rfl,hx0⟩
end

set_option maxRecDepth 100000
section
structure ButX (X:List Nat) (W W':World):Prop where
 os:W'.os=W.os
 tape:W'.tape=W.tape
 output:W'.output=W.output
 size:W.heap.size<=W'.heap.size
 block:∀k,k<W.heap.size->k∉X->W'.heap[k]? = W.heap[k]?
theorem ButX.ext{X:List Nat}{W W':World}(h:Ext W W'):ButX X W W':=⟨h.os,h.tape,h.output,h.size,fun k hk _=>h.block k hk⟩
theorem ButX.only{X:List Nat}{g:Nat}{W W':World}(h:OnlyB g W W')(hg:g∈X):ButX X W W':=⟨h.os,h.tape,h.output,by rw[h.size];exact Nat.le_refl _,fun k _ hx=>h.block k fun e=>hx (e ▸ hg)⟩
theorem ButX.two{X:List Nat}{a b:Nat}{W W':World}(h:But2 a b W W')(ha:a∈X)(hb:b∈X):ButX X W W':=⟨h.os,h.tape,h.output,h.size,fun k hk hx=>h.block k hk (fun e=>hx (e ▸ ha)) fun e=>hx (e ▸ hb)⟩
theorem ButX.trans{X:List Nat}{A B C:World}(h:ButX X A B)(k:ButX X B C):ButX X A C:=⟨k.os.trans h.os,k.tape.trans h.tape,k.output.trans h.output,Nat.le_trans h.size k.size,fun i hi hx=>(k.block i (Nat.lt_of_lt_of_le hi h.size) hx).trans (h.block i hi hx)⟩
theorem ButX.below{X:List Nat}{W W':World}{v:Nat}(h:ButX X W W')(hv:v<=W.heap.size)(hX:∀x∈X,v<=x):Below v W W':=⟨h.os,h.tape,h.output,h.size,fun k hk=>h.block k (by omega) fun hx=>by have:=hX k hx;omega⟩
theorem ButX.kp{X:List Nat}{W W':World}(h:ButX X W W'):KpP X W W':=⟨h.size,fun k o hk _ hx=>(h.block k (Array.getElem?_eq_some_iff.1 hk).1 hx).trans hk⟩
theorem ButX.at{X:List Nat}{W W':World}(h:ButX X W W'){k:Nat}{o:Obj}(hk:W.heap[k]? = some o)(hx:k∉X):W'.heap[k]? = some o:=(h.block k (Array.getElem?_eq_some_iff.1 hk).1 hx).trans hk
theorem ButX.keeps{X:List Nat}{W W':World}(h:ButX X W W')(B:Nat)(hX:∀x∈X,∃o,W.heap[x]? = some o/\o.isCells=true):KeepsFrom B W W':=(show KeepsOthers W W' from⟨h.size,fun k o hk ho=>by
 refine h.at hk fun hx=>?_
 obtain⟨o',h1,h2⟩:=hX k hx
 rw[hk] at h1
 cases h1
 rw[ho] at h2
 cases h2⟩).from B
theorem GpAt.but{X:List Nat}{W W':World}{B:Nat}{g:Gp}(h:GpAt W B g)(hk:ButX X W W')(hB:B∉X)(hX:∀x∈X,∃xs T,W.heap[x]? = some (.cells xs T)/\∀v∈xs.toList,nd v):GpAt W' B g:=by
 obtain⟨cs,h1,h2⟩:=h
 exact⟨cs,hk.at h1 hB,h2.kp hX hk.kp⟩
theorem nd_bool{b:Bool}:∀v∈(#[Value.bool b]:Array Value).toList,nd v:=fun v hv=>by rw[List.mem_singleton.1 hv];exact fun z h=>nomatch h
def rfOf:Code->Option Code
 | .seq a b=>match rfOf a with|some c=>some c|none=>rfOf b
 | .block _ c=>rfOf c
 | .scope c=>rfOf c
 | .rangeFunc _ _ _ c=>some c
 | _=>none
noncomputable def rfBody:Code:=(rfOf (bodyF Tryz.prog 14)).getD .skip
theorem rf_eq:rfBody=.block 1 (.seq (.seq (.region 8 (gR 8).toArray false) (.seq (.region 9 (gR 9).toArray false) (.cond (.tmp 49) (.exit 0) .skip))) (.seq (.region 10 (gR 10).toArray false) (.region 11 (gR 11).toArray false))):=by kernel_rfl
theorem inR{id r m:Nat}{l:List Oper}{Q:Exit->Act->World->Prop}{a:Act}{w:World}(hd:(l.all fun o=>match o.op with | .defer _=>false|_=>true)=true)(h:WpS Tryz.prog l.toArray (fun a w=>Q .normal a w) l a w):(Code.region id l.toArray false).wpIn (Fence.wide.inRound r) m Tryz.prog Q a w:=wpIn_region_lit (h.wpIn hd)
theorem body_ok(l m:Nat)(a:Act)(W:World)(x y:Ed)(met sm:Bool)(h:Gp)(B6 B7 Bs Bl P9 P10:Nat)(Q:Exit->Act->World->Prop)(hsz:a.tmps.size=94)(h6:a.tmps.getD 6 undef=ptrA B6)(h7:a.tmps.getD 7 undef=ptrA B7)(h9:a.tmps.getD 9 undef=ptrA P9)(h10:a.tmps.getD 10 undef=ptrA P10)
  (g6:W.heap[B6]? = some (.cells #[.bool met] 4)) (g7:W.heap[B7]? = some (.cells #[kpF Bs Bl] 85)) (g9:W.heap[P9]? = some (.cells (edL x).toArray 70)) (g10:W.heap[P10]? = some (.cells (edL y).toArray 70)) (hx:EdI x) (hy:EdI y)
  (hs:W.heap[Bs]? = some (.cells #[.bool sm] 4)) (hl:GpAt W Bl h) (n1:B6≠B7) (n2:B6≠Bs) (n3:B6≠Bl) (n4:Bs≠Bl) (n5:B6≠P9) (n6:B6≠P10)
  (Qx:∀a' W',ButX [B6,Bs,Bl] W W'->W'.heap[B6]? = some (.cells #[.bool true] 4)->(met || !(countE x y==0))=true->Q (.exit 0) a' W')
  (Qn:∀a' W',ButX [B6,Bs,Bl] W W'->W'.heap[B6]? = some (.cells #[.bool false] 4)->W'.heap[Bs]? = some (.cells #[.bool true] 4)->GpAt W' Bl (if (!sm||decide (cmpRt (edgesR x y).d h.d<0))=true then (edgesR x y).gp else h)->(met || !(countE x y==0))=false->Q .normal a' W'):rfBody.wpIn (Fence.wide.inRound l) m Tryz.prog Q a W:=by
 rw[rf_eq]
 refine wpIn_block (wpIn_seq (wpIn_seq (inR (by kernel_rfl) (r8 a W met x y B6 P9 P10 _ hsz h6 h9 h10 g6 g9 g10 hx hy fun a1 W1 W2 s1 df1 of1 x1 o1 b1=>?_))))
 have bx:ButX [B6,Bs,Bl] W W2:=(ButX.ext x1).trans (.only o1 (by simp))
 obtain⟨t,ht⟩:∃t,(met || !(countE x y==0))=t:=⟨_,rfl⟩
 rw[ht] at b1 Qx Qn
 have d9:gR 9=[gO 9 0]:=by kernel_rfl
 have e9:(gO 9 0).dst=some 49:=by kernel_rfl
 refine wpIn_seq (inR (by kernel_rfl) ?_)
 have r9':∀Q':Act->World->Prop,Q' (a1.put (some 49) (.bool t)) W2->WpS Tryz.prog (gR 9).toArray Q' (gR 9) a1 W2:=fun Q' hq=>by
  rw[show WpS Tryz.prog (gR 9).toArray Q' (gR 9) a1 W2=WpS Tryz.prog (gR 9).toArray Q' [gO 9 0] a1 W2 by rw[<- d9]]
  refine wpS_val (x:=.bool t) (W:=W2) (by kernel_rfl) ?_ ?_
  ·have := ex_load (P := Tryz.prog) (o := gO 9 0) (a := a1) (w := W2) (t := 4) (x := .tmp 6) (j := 0) (n := 1) (b := false) (cs := [.bool t]) (by kernel_rfl) (show a1.tmps.getD 6 undef = _ by rw [of1 6 (by kernel_rfl)]; exact h6) b1 (by kernel_rfl) (by kernel_rfl) (by simp) (fun _ => rfl)
   exact this
  ·rw[e9];exact hq
 refine r9' _ ?_
 have e49:(a1.put (some 49) (.bool t)).eval (.tmp 49)=.bool t:=put_lt (by rw[s1];decide)
 cases t with
 | true=>exact wpIn_cond_true e49 (wpIn_exit (Qx _ _ bx b1 rfl))
 | false =>
  refine wpIn_cond_false e49 (wpIn_skip ?_)
  have hX:∀k ∈ [B6],∃xs T,W1.heap[k]? = some (.cells xs T)/\∀v∈xs.toList,nd v:=fun k hk=>by
   rw[List.mem_singleton.1 hk];exact⟨_,_,heap_ext g6 x1,nd_bool⟩
  have bo:ButX [B6] W1 W2:=.only o1 (by simp)
  have f9:FpAt W2 P9 (edI x):=.of (bo.at (heap_ext g9 x1) (by simpa using Ne.symm n5)) (hx.rep W2)
  have f10:FpAt W2 P10 (edI y):=.of (bo.at (heap_ext g10 x1) (by simpa using Ne.symm n6)) (hy.rep W2)
  refine wpIn_seq (inR (by kernel_rfl) (r10 (a1.put (some 49) (.bool false)) W2 x y P9 P10 _ (by simp[Act.put,s1]) (by rw[put_ne (by decide),of1 9 (by kernel_rfl)];exact h9) (by rw[put_ne (by decide),of1 10 (by kernel_rfl)];exact h10) f9 f10 fun a2 W3 s2 df2 of2 x2 hp=>?_))
  obtain⟨p,q,r,p1,p2,p3,p4,p5,p6⟩:=hp
  have g7':W3.heap[B7]? = some (.cells #[kpF Bs Bl] 85):=heap_ext (bo.at (heap_ext g7 x1) (by simpa using Ne.symm n1)) x2
  have hs':W3.heap[Bs]? = some (.cells #[.bool sm] 4):=heap_ext (bo.at (heap_ext hs x1) (by simpa using Ne.symm n2)) x2
  have hl':GpAt W3 Bl h:=(((hl.ext x1).but bo (by simpa using Ne.symm n3) hX).ext x2)
  refine inR (by kernel_rfl) (r11 a2 W3 (edgesR x y) h sm B7 Bs Bl p q r _ s2 (by rw[of2 7 (by kernel_rfl),put_ne (by decide),of1 7 (by kernel_rfl)];exact h7) p1 p2 p3 g7' p4 p5 p6 hs' hl' n4 fun a3 W4 W5 df3 x3 b3 k1 k2=>?_)
  have b2:ButX [B6,Bs,Bl] W2 W4:=.ext (x2.trans (x3.mono x2.size))
  refine Qn _ _ (bx.trans (b2.trans (.two b3 (by simp) (by simp)))) ?_ k1 k2 rfl
  rw[b3.block B6 (Nat.lt_of_lt_of_le (Array.getElem?_eq_some_iff.1 b1).1 b2.size) n2 n3]
  exact heap_ext b1 (Ext.step x2 x3)
end
def shC3(s:Sh)(p:Option Addr)(c:Nat):Array Value:=#[.int .i64 s.k,.slice p s.n c,.int .i64 s.r]
structure PS (w W:World) (a b:Sh) (p q:Option Addr) (c d:Nat):Prop where
 ex:Ext w W
 b2:W.heap[w.heap.size]? = some (.cells (shC3 a p c) 24)
 b3:W.heap[w.heap.size+1]? = some (.cells (shC3 b q d) 24)
 b4:W.heap[w.heap.size+1+1]? = some (.cells zGp.toArray 42)
theorem PS.step{w W W':World}{a b:Sh}{p q:Option Addr}{c d:Nat}(h:PS w W a b p q c d)(hx:Ext W W'):PS w W' a b p q c d:=⟨Ext.step h.ex hx,heap_ext h.b2 hx,heap_ext h.b3 hx,heap_ext h.b4 hx⟩
theorem PS.sz{w W:World}{a b:Sh}{p q:Option Addr}{c d:Nat}(h:PS w W a b p q c d):w.heap.size+1+1<W.heap.size:=(Array.getElem?_eq_some_iff.1 h.b4).1
theorem PS.cells{w W:World}{a b:Sh}{p q:Option Addr}{c d:Nat}(h:PS w W a b p q c d):(W.cell? ⟨w.heap.size,0,none⟩=some (.int .i64 a.k)/\W.cell? ⟨w.heap.size,1,none⟩=some (.slice p a.n c)/\W.cell? ⟨w.heap.size,2,none⟩=some (.int .i64 a.r))/\W.cell? ⟨w.heap.size+1,0,none⟩=some (.int .i64 b.k)/\W.cell? ⟨w.heap.size+1,1,none⟩=some (.slice q b.n d)/\W.cell? ⟨w.heap.size+1,2,none⟩=some (.int .i64 b.r):=by
 have e2:=h.b2
 have e3:=h.b3
 have c2:∀i,W.cell? ⟨w.heap.size,i,none⟩=(shC3 a p c)[i]? := fun i=>by rw[cell_of_row _ _ _ _ _ _ e2]
 have c3:∀i,W.cell? ⟨w.heap.size+1,i,none⟩=(shC3 b q d)[i]? := fun i=>by rw[cell_of_row _ _ _ _ _ _ e3]
 exact⟨⟨(c2 0).trans rfl,(c2 1).trans rfl,(c2 2).trans rfl⟩,(c3 0).trans rfl,(c3 1).trans rfl,(c3 2).trans rfl⟩

set_option maxRecDepth 100000
section
def scOf:Code->Code
 | .seq _ (.scope c)=>c
 | c=>c
def sndS:Code->Code
 | .seq _ b=>b
 | c=>c
noncomputable def rest4:Code:=sndS (sndS (scOf (bodyF Tryz.prog 14)))
noncomputable def rest12:Code:=sndS (sndS (sndS rest4))
theorem rest12_eq:rest12=.seq (.seq (.region 12 (gR 12).toArray false) (.cond (.tmp 63) (.seq (.region 13 (gR 13).toArray true) (.seq (.region 14 (gR 14).toArray false) .ret)) .skip)) (.seq (.region 15 (gR 15).toArray false) (.seq (.region 16 (gR 16).toArray false) (.seq (.region 17 (gR 17).toArray false) .ret))):=by kernel_rfl
theorem kp_put{W:World}{D:Nat}{o o':Obj}(h:W.heap[D]? = some o)(ho:o.isCells=false):KpP [] W (W.putObj D o'):=⟨(grownBy_putObj' W D o').size,fun k u hk hu _=>by
 have hne:k≠D:=fun e=>by subst e;rw[h] at hk;cases hk;rw[ho] at hu;cases hu
 exact (World.putObj_heap_other (by omega)).trans hk⟩
theorem ret12{w W':World}{a':Act}{g:Gp}{b:Bool}{vs:List Value}{D B4:Nat}(hd:a'.defers=[{ target:=.collected D,args:=#[] }])(h4:a'.tmps.getD 4 undef=ptrA B4)(h5:a'.tmps.getD 5 undef=.bool b)(hg:W'.heap[B4]? = some (.cells vs.toArray 42))(hc:GpC W' g vs)(hx:Ext w W')(hD:W'.heap[D]? = some (.deferred (some [])))(hDw:w.heap.size<=D) :
  bodyPostM Fence.wide 6 Tryz.prog Tryz.f14 (OfPost w g b) .ret a' W':=by
 obtain⟨tm,df⟩:=a'
 obtain rfl:df=_:=hd
 have kp:=kp_put (o':=.deferred none) hD rfl
 have hg':=kp.same B4 _ hg rfl (by simp)
 have hc':GpC (W'.putObj D (.deferred none)) g vs:=hc.kp (X:=[]) (fun x hx=>by simp at hx) kp
 refine⟨by simp,.inl ⟨_,_,rfl,run_takeDeferred hD,?_⟩⟩
 refine⟨_,gapRes h4 h5 hg' hc.one.1,_,rfl,gapVal hc',?_⟩
 exact hx.trans ((Below.refl _ W').grown (grownBy_putObj' W' D (.deferred none)) (Nat.le_trans hDw (by have:=(Array.getElem?_eq_some_iff.1 hD).1;omega)) (fun k e=>by cases e;omega))
theorem nd_zGp:∀v∈zGp.toArray.toList,nd v:=fun v hv=>(zGpC default).nd v (by simpa using hv)
theorem GpC.only{W W':World}{B4:Nat}{g:Gp}{vs:List Value}(h:GpC W g vs)(ho:OnlyB B4 W W')(hB:W.heap[B4]? = some (.cells zGp.toArray 42)):GpC W' g vs :=
 h.kp (X:=[B4]) (fun x hx=>by rw[List.mem_singleton.1 hx];exact⟨_,_,hB,nd_zGp⟩) (ButX.only ho (by simp)).kp
theorem rest12_ok(w W:World)(A:Act)(a b:Sh)(met:Bool)(g:Gp)(B2 B3 B4 B6 Bl D:Nat)(hsz:A.tmps.size=94)(hd:A.defers=[{ target:=.collected D,args:=#[] }])(h2:A.tmps.getD 2 undef=ptrA B2)(h3:A.tmps.getD 3 undef=ptrA B3)(h4:A.tmps.getD 4 undef=ptrA B4)(h6:A.tmps.getD 6 undef=ptrA B6)(h8:A.tmps.getD 8 undef=lsF Bl)
  (g2:FpAt W B2 (shL a)) (g3:FpAt W B3 (shL b)) (g4:W.heap[B4]? = some (.cells zGp.toArray 42)) (g6:W.heap[B6]? = some (.cells #[.bool met] 4)) (gl:met=false->GpAt W Bl g) (hx:Ext w W) (hB4:w.heap.size<=B4) (hD:W.heap[D]? = some (.deferred (some []))) (hDw:w.heap.size<=D) :
  rest12.wp Tryz.prog (Exit.noGoto (bodyPostM Fence.wide 6 Tryz.prog Tryz.f14 (OfPost w (if met=true then ⟨true,zrt a b,Sp.no,Sp.no⟩ else { g with d:=(plusR g.d (sumR a b)).1 }) true))) A W:=by
 have hne:D≠B4:=fun e=>by rw[e,g4] at hD;cases hD
 rw[rest12_eq]
 have d12:gR 12=[gO 12 0]:=by kernel_rfl
 have e12:(gO 12 0).dst=some 63:=by kernel_rfl
 have r12':∀Q':Act->World->Prop,Q' (A.put (some 63) (.bool met)) W->WpS Tryz.prog (gR 12).toArray Q' (gR 12) A W:=fun Q' hq=>by
  rw[show WpS Tryz.prog (gR 12).toArray Q' (gR 12) A W=WpS Tryz.prog (gR 12).toArray Q' [gO 12 0] A W by rw[<- d12]]
  refine wpS_val (x:=.bool met) (W:=W) (by kernel_rfl) ?_ ?_
  ·have := ex_load (P := Tryz.prog) (o := gO 12 0) (a := A) (w := W) (t := 4) (x := .tmp 6) (j := 0) (n := 1) (b := false) (cs := [.bool met]) (by kernel_rfl) h6 g6 (by kernel_rfl) (by kernel_rfl) (by simp) (fun _ => rfl)
   exact this
  ·rw[e12];exact hq
 have s1:(A.put (some 63) (.bool met)).tmps.size=94:=by simp[Act.put,hsz]
 have e63:(A.put (some 63) (.bool met)).eval (.tmp 63)=.bool met:=put_lt (by rw[hsz];decide)
 refine wp_seq (wp_seq (wp_region_lit (WpS.wp (r12' _ ?_))))
 cases met with
 | true =>
  rw[if_pos rfl]
  refine wp_cond_true e63 (wp_seq (r13 _ W a b B2 B3 _ s1 (by rw[put_ne (by decide)];exact h2) (by rw[put_ne (by decide)];exact h3) g2 g3 fun a1 W1 s2 df1 of1 x1 hp=>?_))
  obtain⟨p,p1,p2⟩:=hp
  refine wp_seq (wp_region_lit (WpS.wp (r14 a1 W1 _ B4 p _ s2 (by rw[of1 4 (by kernel_rfl),put_ne (by decide)];exact h4) p1 p2 (heap_ext g4 x1) fun a2 W2 W3 vs x2 hc hr=>wp_ret ?_)))
  have xx:=Ext.step x1 x2
  exact ret12 (hr.df.trans (df1.trans hd)) hr.t4 hr.t5 hr.c (hc.only hr.on (heap_ext g4 xx)) ((Ext.step hx xx).trans (hr.on.below hB4)) ((hr.on.block D hne).trans (heap_ext hD xx)) hDw
 | false =>
  rw[if_neg (by decide)]
  refine wp_cond_false e63 (wp_skip ?_)
  refine wp_seq (wp_region_lit (WpS.wp (r15 _ W g a b B2 B3 Bl _ s1 (by rw[put_ne (by decide)];exact h8) (by rw[put_ne (by decide)];exact h2) (by rw[put_ne (by decide)];exact h3) g2 g3 (gl rfl) fun a1 V1 W1 x1 hJ1 of1=>?_)))
  refine wp_seq (wp_region_lit (WpS.wp (r16 _ V1 W1 g a b _ (show JJ V1 (mkS 94 (dG g a b)) (dfA [] (dfA _ a1)) W1 from ?_) fun a2 W2 hJ2 of2=>?_)))
  ·obtain ⟨r, cm, hj⟩ := hJ1
   exact⟨r,cm,⟨hj.1.1,rfl⟩,hj.2⟩
  refine wp_seq (wp_region_lit (WpS.wp (r17 _ V1 W2 _ a b B4 _ (show JJ V1 (mkS 94 (dG { g with d:=(plusR g.d (sumR a b)).1 } a b)) (dfA [] (dfA _ a2)) W2 from ?_) ?_ (heap_ext g4 x1) fun a3 W3 W4 vs x3 hc hr=>wp_ret ?_)))
  ·obtain ⟨r, cm, hj⟩ := hJ2
   exact⟨r,cm,⟨hj.1.1,rfl⟩,hj.2⟩
  ·show a2.tmps.getD 4 undef = _
   rw[of2 4 (by kernel_rfl)]
   show a1.tmps.getD 4 undef=_
   rw[of1 4 (by kernel_rfl),put_ne (by decide)]
   exact h4
  have xx:=Ext.step x1 x3
  exact ret12 (hr.df.trans hd) hr.t4 hr.t5 hr.c (hc.only hr.on (heap_ext g4 xx)) ((Ext.step hx xx).trans (hr.on.below hB4)) ((hr.on.block D hne).trans (heap_ext hD xx)) hDw
end
def eT(s:Sh)(i:Nat):Ed:=if i<s.n then s.e i else ⟨0,0,0,0,0,0,0⟩
theorem eT_I{W:World}{s:Sh}{p:Option Addr}{c:Nat}(h:ShAt W s p c)(i:Nat):EdI (eT s i):=by
 unfold eT
 split
 ·rename_i hi
  obtain⟨_,_,_,_,_,h3⟩:=h.row
  obtain⟨g',o,xs,T,k1,k2,k3,cs,d,k4,k5⟩:=h3 i hi
  obtain⟨_,_,rfl,⟨rfl,_,a0⟩,_,_,rfl,⟨rfl,_,a1⟩,_,_,rfl,⟨rfl,_,a2⟩,_,_,rfl,⟨rfl,_,a3⟩,_,_,rfl,⟨rfl,_,a4⟩,_,_,rfl,⟨rfl,_,a5⟩,_,_,rfl,⟨rfl,_,a6⟩,rfl⟩:=k5
  exact⟨a0,a1,a2,a3,a4,a5,a6⟩
 ·have z : I64 0 := by unfold I64; omega
  exact⟨z,z,z,z,z,z,z⟩
theorem eT_row{v:Nat}{W:World}{s:Sh}{p:Option Addr}(h:EdRow v W p s.n s.e):EdRow v W p s.n (eT s):=fun i hi=>by
 obtain⟨g,o,h1,h2,h3⟩:=h i hi
 exact⟨g,o,h1,h2,by unfold eT;rw[if_pos hi];exact h3⟩
def cndT(a b:Sh)(i:Nat):Pr:=edgesR (eT a (i/b.n)) (eT b (i%b.n))
def sepT(a b:Sh)(i:Nat):Bool:=countE (eT a (i/b.n)) (eT b (i%b.n))==0
theorem eT_at{a b:Sh}{i:Nat}(hi:i<a.n*b.n):eT a (i/b.n)=a.e (i/b.n)/\eT b (i%b.n)=b.e (i%b.n):=by
 have hb:0<b.n:=Nat.pos_of_ne_zero fun e=>by rw[e,Nat.mul_zero] at hi;omega
 unfold eT
 rw[if_pos ((Nat.div_lt_iff_lt_mul hb).2 hi),if_pos (Nat.mod_lt _ hb)]
 exact⟨rfl,rfl⟩
theorem cndT_at{a b:Sh}{i:Nat}(hi:i<a.n*b.n):cndT a b i=cnd a b i:=by
 obtain⟨h1,h2⟩:=eT_at hi
 unfold cndT cnd
 rw[h1,h2]
theorem sepT_at{a b:Sh}{i:Nat}(hi:i<a.n*b.n):sepT a b i=sep a b i:=by
 obtain⟨h1,h2⟩:=eT_at hi
 unfold sepT sep
 rw[h1,h2]
def gapS(c:Nat->Pr)(l:List Nat):Bool×Gp:=l.foldl (fun s x=>(true,if (!s.1||decide (cmpRt (c x).d s.2.d<0))=true then (c x).gp else s.2)) (false,Gp.no)
theorem gapS_snoc(c:Nat->Pr)(l:List Nat)(x:Nat):gapS c (l++[x])=(true,if (!(gapS c l).1||decide (cmpRt (c x).d (gapS c l).2.d<0))=true then (c x).gp else (gapS c l).2):=by
 unfold gapS
 rw[List.foldl_append]
 rfl
theorem gapS_up(c c':Nat->Pr):∀k,(∀i,i<k->c i=c' i)->gapS c (upT k)=(!(k==0),gapK c' k)
 | 0,_=>rfl
 | k+1,h=>by
  rw[upT_succ,gapS_snoc,gapS_up c c' k fun i hi=>h i (by omega),h k (by omega)]
  simp only[Bool.not_not]
  rfl
structure LI (w W:World) (a b:Sh) (p q:Option Addr) (c d B6 B7 Bs Bl:Nat) (m:Bool):Prop where
 ps:PS w W a b p q c d
 b6:W.heap[B6]? = some (.cells #[.bool m] 4)
 b7:W.heap[B7]? = some (.cells #[kpF Bs Bl] 85)
theorem LI.kp{w W W':World}{a b:Sh}{p q:Option Addr}{c d B6 B7 Bs Bl:Nat}{m:Bool}(h:LI w W a b p q c d B6 B7 Bs Bl m)(hk:KpP [] W W')(hx:Ext w W'):LI w W' a b p q c d B6 B7 Bs Bl m :=
 ⟨⟨hx,hk.same _ _ h.ps.b2 rfl (by simp),hk.same _ _ h.ps.b3 rfl (by simp),hk.same _ _ h.ps.b4 rfl (by simp)⟩,hk.same _ _ h.b6 rfl (by simp),hk.same _ _ h.b7 rfl (by simp)⟩
theorem kp_grown{W W':World}{row:Option Nat}(hg:W.grownBy W' row)(hr:∀r,row=some r->∃o:Obj,W.heap[r]? = some o/\o.isCells=false):KpP [] W W':=⟨hg.size,fun _ _ hk ho _=>(grownBy_keeps_cells hg hr hk ho).trans hk⟩
theorem KpP.mono{X Y:List Nat}{A B:World}(h:KpP X A B)(hs:∀x∈X,x∈Y):KpP Y A B:=⟨h.size,fun k o hk ho hx=>h.same k o hk ho fun g=>hx (hs k g)⟩
theorem GpAt.kp{W W':World}{B:Nat}{g:Gp}(h:GpAt W B g)(hk:KpP [] W W'):GpAt W' B g:=by
 obtain⟨cs,h1,h2⟩:=h
 exact⟨cs,hk.same _ _ h1 rfl (by simp),h2.kp (X:=[]) (fun x hx=>by simp at hx) hk⟩
theorem ext_grown{w W W':World}{row:Option Nat}{B:Nat}(hx:Ext w W)(hg:W.grownBy W' row)(hB:w.heap.size<=B)(hr:∀r,row=some r->B<=r):Ext w W':=hx.trans ((Below.refl _ W).grown hg hx.size fun k e=>by have:=hr k e;omega)
structure RI (w w3:World) (a b:Sh) (p q:Option Addr) (c d B6 B7 Bs Bl:Nat) (m0:Bool) (pre:List Nat) (W:World):Prop where
 li:LI w W a b p q c d B6 B7 Bs Bl m0
 bs:W.heap[Bs]? = some (.cells #[.bool (gapS (cndT a b) pre).1] 4)
 bl:GpAt W Bl (gapS (cndT a b) pre).2
 sz:w3.heap.size<=W.heap.size
 m:pre ≠ []->m0=false
 sp:∀i∈pre,sepT a b i=true
theorem RI.own(w w3:World)(a b:Sh)(p q:Option Addr)(c d B6 B7 Bs Bl:Nat)(m0:Bool)(h3:w.heap.size<=w3.heap.size):OwnFrom w3.heap.size (RI w w3 a b p q c d B6 B7 Bs Bl m0):=fun _ A B row hs hg hr=>by
 have kp:=kp_grown hg fun r e=>(hr r e).2
 exact⟨hs.li.kp kp (ext_grown hs.li.ps.ex hg h3 fun r e=>(hr r e).1),kp.same _ _ hs.bs rfl (by simp),hs.bl.kp kp,Nat.le_trans hs.sz hg.size,hs.m,hs.sp⟩
structure XI (w w3:World) (a b:Sh) (p q:Option Addr) (c d B6 B7 Bs Bl:Nat) (m0:Bool) (cc:Code) (pre:List Nat) (W:World):Prop where
 cc:cc=.exit 0
 li:LI w W a b p q c d B6 B7 Bs Bl true
 sz:w3.heap.size<=W.heap.size
 why:m0=true\/∃i∈pre,sepT a b i=false
theorem XI.own(w w3:World)(a b:Sh)(p q:Option Addr)(c d B6 B7 Bs Bl:Nat)(m0:Bool)(cc:Code)(h3:w.heap.size<=w3.heap.size):OwnFrom w3.heap.size (XI w w3 a b p q c d B6 B7 Bs Bl m0 cc):=fun _ A B row hs hg hr=>by
 have kp:=kp_grown hg fun r e=>(hr r e).2
 exact⟨hs.cc,hs.li.kp kp (ext_grown hs.li.ps.ex hg h3 fun r e=>(hr r e).1),Nat.le_trans hs.sz hg.size,hs.why⟩
def AI(w3:World)(a b:Sh)(B6 B7:Nat)(x:Nat)(a':Act)(W:World):Prop:=∃P9 P10,a'.tmps.size=94/\a'.tmps.getD 6 undef=ptrA B6/\a'.tmps.getD 7 undef=ptrA B7/\a'.tmps.getD 9 undef=ptrA P9/\a'.tmps.getD 10 undef=ptrA P10/\(w3.heap.size<=P9/\w3.heap.size<=P10) /\
 W.heap[P9]? = some (.cells (edL (eT a (x/b.n))).toArray 70)/\W.heap[P10]? = some (.cells (edL (eT b (x%b.n))).toArray 70)
theorem AI.own(w3:World)(a b:Sh)(B6 B7:Nat)(x:Nat)(a':Act):OwnFrom w3.heap.size (fun (_:Unit) W=>AI w3 a b B6 B7 x a' W):=fun _ A B row ⟨P9,P10,s,h6,h7,h9,h10,hl,g9,g10⟩ hg hr=>by
 have kp:=kp_grown hg fun r e=>(hr r e).2
 exact⟨P9,P10,s,h6,h7,h9,h10,hl,kp.same _ _ g9 rfl (by simp),kp.same _ _ g10 rfl (by simp)⟩
theorem round_ok{w w3:World}{a b:Sh}{p q:Option Addr}{c d B6 B7 Bs Bl:Nat}{m0:Bool}(ha:ShAt w a p c)(hb:ShAt w b q d)(h3:w.heap.size+1+1<B6/\B6<Bl/\Bl<Bs/\Bs<B7/\B7<w3.heap.size)(l m:Nat)(pre:List Nat)(x:Nat)(a':Act)(W:World)(hI:RI w w3 a b p q c d B6 B7 Bs Bl m0 pre W)(hA:AI w3 a b B6 B7 x a' W) :
  rfBody.wpIn (Fence.wide.inRound l) m Tryz.prog (ownPostG w3.heap.size (KpP [B6,Bs,Bl]) (RI w w3 a b p q c d B6 B7 Bs Bl m0) (XI w w3 a b p q c d B6 B7 Bs Bl m0) (pre++[x]) W) a' W:=by
 obtain⟨P9,P10,s,h6,h7,h9,h10,⟨l9,l10⟩,g9,g10⟩:=hA
 obtain⟨k1,k2,k3,k4,k5⟩:=h3
 have hX:∀k ∈ [B6,Bs,Bl],∃o,W.heap[k]? = some o/\o.isCells=true:=fun k hk=>by
  simp only[List.mem_cons,List.not_mem_nil,or_false] at hk
  rcases hk with rfl|rfl|rfl
  ·exact⟨_,hI.li.b6,rfl⟩
  ·exact⟨_,hI.bs,rfl⟩
  ·obtain⟨cs,h,_⟩:=hI.bl;exact⟨_,h,rfl⟩
 have li':∀ {W':World} {t:Bool},ButX [B6,Bs,Bl] W W'->W'.heap[B6]? = some (.cells #[.bool t] 4)->LI w W' a b p q c d B6 B7 Bs Bl t:=fun {W' t} hb h=>by
  have no:∀k,(k<B6\/Bs<k)->k ∉ [B6,Bs,Bl]:=fun k hk hm=>by
   simp only[List.mem_cons,List.not_mem_nil,or_false] at hm
   omega
  refine⟨⟨hI.li.ps.ex.trans (hb.below hI.li.ps.ex.size fun x hx=>?_),hb.at hI.li.ps.b2 (no _ (by omega)),hb.at hI.li.ps.b3 (no _ (by omega)),hb.at hI.li.ps.b4 (no _ (by omega))⟩,h,hb.at hI.li.b7 (no _ (by omega))⟩
  simp only[List.mem_cons,List.not_mem_nil,or_false] at hx
  omega
 refine body_ok l m a' W (eT a (x/b.n)) (eT b (x%b.n)) m0 _ _ B6 B7 Bs Bl P9 P10 _ s h6 h7 h9 h10 hI.li.b6 hI.li.b7 g9 g10 (eT_I ha _) (eT_I hb _) hI.bs hI.bl (by omega) (by omega) (by omega) (by omega) (by omega) (by omega) ?_ ?_
 ·intro a2 W' bx h1 h2
  refine⟨bx.keeps _ hX,rfl,li' bx h1,Nat.le_trans hI.sz bx.size,?_⟩
  cases m0 with
  | true=>exact .inl rfl
  | false=>exact .inr ⟨x,by simp,by unfold sepT;simpa using h2⟩
 ·intro a2 W' bx h1 h2 h4 h5
  simp only[Bool.or_eq_false_iff] at h5
  obtain⟨m1,m2⟩:=h5
  subst m1
  refine⟨bx.keeps _ hX,bx.kp,li' bx h1,by rw[gapS_snoc];exact h2,by rw[gapS_snoc];exact h4,Nat.le_trans hI.sz bx.size,fun _=>rfl,fun i hi=>?_⟩
  rcases List.mem_append.1 hi with hi|hi
  ·exact hI.sp i hi
  ·rw[List.mem_singleton.1 hi];unfold sepT;simpa using m2

set_option maxHeartbeats 4000000
set_option maxRecDepth 100000
section
theorem put_size{a:Act}{d:Nat}{v:Value}:(a.put (some d) v).tmps.size=a.tmps.size:=by simp[Act.put]
theorem put_none{a:Act}{v:Value}:a.put none v=a:=rfl
theorem ex_extract{P:Program}{o:Oper}{a:Act}{x:Operand}{j:Nat}{vs:List Value}{v:Value}(ho:o.op=.extract x j)(hx:a.eval x=.tuple vs.toArray)(hv:vs[j]? = some v)(w:World):(execOp a.eval o).run P w=.ok (.value v) w:=by
 refine exec_val (m:=Instr.extract (a.eval x) j) (by unfold execOp;rw[ho]) ?_
 rw[hx]
 simp only[Instr.extract,List.getElem?_toArray,hv,Sem.run_pure]
theorem ex_alloc{P:Program}{o:Oper}{a:Act}{t:TypeId}{i:TypeInfo}{z:Value}(ho:o.op=.alloc t)(hi:P.info? t=some i)(hz:i.zero=some z)(w:World):(execOp a.eval o).run P w=.ok (.value (ptrA w.heap.size)) (w.alloc (.cells z.cells t)) :=
 exec_val (m:=Instr.alloc t true (.tuple #[])) (by unfold execOp;rw[ho]) (run_allocA hi hz w)
theorem info_of{P:Program}{t:TypeId}{z:Value}(h:((P.info? t).bind (·.zero))=some z):∃i,P.info? t=some i/\i.zero=some z:=by
 cases hi:P.info? t with
 | none=>rw[hi] at h;cases h
 | some i=>rw[hi] at h;exact⟨i,rfl,h⟩
theorem al_sto{ops:Array Oper}{o1 o2:Oper}{l:List Oper}(a:Act)(W:World)(t n d s:Nat)(z:Value)(old vs:List Value)(Q:Act->World->Prop)(h1:o1.op=.alloc t)(h2:o2.op=.store t (.tmp d) (.tmp s))(d1:o1.dst=some d)(d2:o2.dst=none)(g1:o1.guard=none)(g2:o2.guard=none)(hi:((Tryz.prog.info? t).bind (·.zero))=some z)(hz:z.cells=old.toArray)(hn:szT Tryz.prog t=some n)(ho:old.length=n)(hd:d<a.tmps.size)(hds:d≠s)
  (hs:(a.tmps.getD s undef).cells=vs.toArray) (hl:vs.length=n) (hv:∀v∈vs,v.oneCell'=true) (hQ:∀W',Ext W W'->W.heap.size<W'.heap.size->W'.heap[W.heap.size]? = some (.cells vs.toArray t)->WpS Tryz.prog ops Q l (a.put (some d) (ptrA W.heap.size)) W'):WpS Tryz.prog ops Q (o1::o2::l) a W:=by
 obtain⟨i,i1,i2⟩:=info_of hi
 refine wpS_val (by unfold Region.wanted;rw[g1]) (ex_alloc h1 i1 i2 W) ?_
 rw[d1,hz]
 have hg:(W.alloc (.cells old.toArray t)).heap[W.heap.size]? = some (.cells old.toArray t):=World.alloc_heap_new _ _
 obtain⟨k1,k2⟩:=onlyB_setRow (cs':=(old.take 0++(vs++old.drop (0+vs.length))).toArray) hg
 have ec:(old.take 0++(vs++old.drop (0+vs.length)))=vs:=by rw[List.take_zero,List.nil_append,Nat.zero_add,List.drop_eq_nil_of_le (by omega),List.append_nil]
 refine wpS_skip (W:=(W.alloc (.cells old.toArray t)).setRow W.heap.size (old.take 0++(vs++old.drop (0+vs.length))).toArray) (by unfold Region.wanted;rw[g2]) ?_ ?_
 ·exact ex_store h2 (show (a.put (some d) (ptrA W.heap.size)).tmps.getD d undef=_ from put_lt hd) hg (by rw[show (a.put (some d) (ptrA W.heap.size)).eval (.tmp s)=(a.put (some d) (ptrA W.heap.size)).tmps.getD s undef from rfl,put_ne hds];exact hs) hn hl (by omega) hv
 ·rw [d2, put_none]
  have hx:Ext W ((W.alloc (.cells old.toArray t)).setRow W.heap.size (old.take 0++(vs++old.drop (0+vs.length))).toArray):=(below_alloc W _).trans (k1.below (Nat.le_refl _))
  exact hQ _ hx (by rw[k1.size];simp) (by rw[k2,ec])
theorem r4(a:Act)(W:World)(Q:Act->World->Prop)(hsz:a.tmps.size=94)
  (hQ:∀a' W1 W2,a'.tmps.size=94->a'.defers=a.defers->(∀t,35≠t->34≠t->36≠t->37≠t->7≠t->8≠t->a'.tmps.getD t undef=a.tmps.getD t undef)->a'.tmps.getD 7 undef=ptrA W1.heap.size->a'.tmps.getD 8 undef=lsF W.heap.size->Ext W W1->Ext W1 W2->W1.heap[W.heap.size+1]? = some (.cells #[.bool false] 4)->W1.heap[W.heap.size]? = some (.cells zGp.toArray 42)->W2.heap[W1.heap.size]? = some (.cells #[kpF (W.heap.size+1) W.heap.size] 85)->Q a' W2):WpS Tryz.prog (gR 4).toArray Q (gR 4) a W:=by
 have es:gR 4=[gO 4 0,gO 4 1,gO 4 2,gO 4 3,gO 4 4,gO 4 5,gO 4 6]:=by kernel_rfl
 have d0:(gO 4 0).dst=some 35:=by kernel_rfl
 have d1:(gO 4 1).dst=some 34:=by kernel_rfl
 have d2:(gO 4 2).dst=some 36:=by kernel_rfl
 have d3:(gO 4 3).dst=some 37:=by kernel_rfl
 have d6:(gO 4 6).dst=some 8:=by kernel_rfl
 rw[show WpS Tryz.prog (gR 4).toArray Q (gR 4) a W=WpS Tryz.prog (gR 4).toArray Q [gO 4 0,gO 4 1,gO 4 2,gO 4 3,gO 4 4,gO 4 5,gO 4 6] a W by rw[<- es]]
 have en:(execOp a.eval (gO 4 0)).run Tryz.prog W=.ok (.enter 48 #[]) W:=by
  simpa using run_enter (P:=Tryz.prog) (o:=gO 4 0) (a:=a) (f:=48) (x:=.func 48) (caps:=#[]) (cl:={ callee:=.value (.func 48),args:=#[],argTypes:=#[] }) prog_nm Tryz.func48 rfl (by kernel_rfl) rfl rfl W
 refine wpS_call (by kernel_rfl) en (gap_nearest W) (fun e W h=>⟨_,h.1⟩) fun v W1 ⟨e,hx1,hs,hl⟩=>?_
 cases e
 rw[d0]
 refine wpS_val (by kernel_rfl) (ex_move (x:=.tmp 35) (by kernel_rfl) W1) ?_
 rw[d1,show (a.put (some 35) _).eval (.tmp 35)=_ from put_lt (by rw[hsz];decide)]
 refine wpS_val (by kernel_rfl) (ex_extract (x:=.tmp 34) (j:=0) (vs:=[kpF (W.heap.size+1) W.heap.size,lsF W.heap.size]) (by kernel_rfl) (put_lt (by simp[put_size,hsz])) rfl W1) ?_
 rw[d2]
 refine wpS_val (by kernel_rfl) (ex_extract (x:=.tmp 34) (j:=1) (vs:=[kpF (W.heap.size+1) W.heap.size,lsF W.heap.size]) (by kernel_rfl) (by rw[show ∀b:Act,b.eval (.tmp 34)=b.tmps.getD 34 undef from fun _=>rfl,put_ne (show 36≠34 by decide)];exact put_lt (by simp[put_size,hsz])) rfl W1) ?_
 rw[d3]
 refine al_sto _ W1 85 1 7 36 .nilFunc [.nilFunc] [kpF (W.heap.size+1) W.heap.size] Q (by kernel_rfl) (by kernel_rfl) (by kernel_rfl) (by kernel_rfl) (by kernel_rfl) (by kernel_rfl) (by kernel_rfl) (by kernel_rfl) (by kernel_rfl) rfl (by simp[put_size,hsz]) (by decide) (by rw[put_ne (show 37≠36 by decide),put_lt (by simp[put_size,hsz])];rfl) rfl (fun v hv=>by rw[List.mem_singleton.1 hv];rfl) fun W2 hx2 hlt h7=>?_
 refine wpS_val (by kernel_rfl) (ex_assign (x:=.tmp 37) (by kernel_rfl) W2) ?_
 rw[d6]
 refine hQ _ W1 W2 (by simp[put_size,hsz]) rfl (fun t n1 n2 n3 n4 n5 n6=>?_) (by rw[put_ne (show 8≠7 by decide)];exact put_lt (by simp[put_size,hsz])) ?_ hx1 hx2 hs hl h7
 ·rw[put_ne n6,put_ne n5,put_ne n4,put_ne n3,put_ne n2,put_ne n1]
 ·rw [put_lt (by simp [put_size, hsz])]
  show (Act.put _ (some 7) _).tmps.getD 37 undef=_
  rw[put_ne (show 7≠37 by decide),put_lt (by simp[put_size,hsz])]
end
end Go.Proofs.YtceemiodpccbhaaGreat
