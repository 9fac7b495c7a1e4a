import Derived.Test.YtcfpcafnjgpfdaaGreatK11
set_option linter.unusedVariables false
set_option linter.unusedSimpArgs false

namespace Go.Proofs.YtcfpcafnjgpfdaaGreat
open Go.RowKit

set_option maxHeartbeats 1000000
set_option maxRecDepth 100000
section
def RetNum(w:World)(r:Nm×Bool)(e:Ending)(w':World):Prop :=
 ∃n p l c,e=.returned (.tuple #[.agg #[.bool n,.slice p l c],.bool r.2])/\NR w' n p l c r.1/\New w p/\Ext w w'
theorem val_take_succ{d:List Nat}{k:Nat}(hk:k<d.length)(h:d[k]?.getD 0=0):val (d.take (k+1))=val (d.take k):=by
 rw[List.take_succ_eq_append_getElem hk,val_append]
 rw[getD_eq hk] at h
 simp[val,h]
theorem trim_eq_take{d:List Nat}{k:Nat}(hd:Dig d)(hk:k<=d.length)(hv:val (d.take k)=val d)(hz:0<k->d[k-1]?.getD 0≠0):trim d=d.take k:=by
 unfold trim
 rw[<- hv]
 refine digs_val (hd.take k) ?_
 intro hne
 have h0:0<k:=by
  rcases Nat.eq_zero_or_pos k with rfl|h
  ·simp at hne
  ·exact h
 have:=hz h0
 rw[getD_eq (by omega)] at this
 rw[List.getLast_eq_getElem]
 simp only[List.length_take,List.getElem_take]
 have e:min k d.length-1=k-1:=by omega
 simpa only[e] using this
theorem Row.take{w:World}{p:Option Addr}{c:Nat}{d:List Nat}(h:Row w p c d)(k:Nat)(hk:k<=d.length):Row w p c (d.take k):=by
 refine⟨by have:=h.le;simp;omega,h.max,h.dig.take k,fun h0=>?_⟩
 have hk0:(d.take k).length=k:=by simp;omega
 rw[hk0] at h0 ⊢
 obtain⟨b,o,hp,hb,hc⟩:=h.at (by omega)
 refine⟨b,o,hp,hb,fun i hi=>?_⟩
 rw[hc i (by omega),List.getElem?_take,if_pos hi]
theorem madeP_big{neg:Bool}{d:List Nat}{t:List Nat}(h:trim d=t)(h64:64<t.length):madeP neg d=(zero,false):=by
 unfold madeP;rw[h,if_pos h64]
theorem madeP_none{neg:Bool}{d:List Nat}{t:List Nat}(h:trim d=t)(h0:t.length=0):madeP neg d=(zero,true):=by
 unfold madeP;rw[h,if_neg (by omega),if_pos (List.eq_nil_of_length_eq_zero h0)]
theorem madeP_mid{neg:Bool}{d:List Nat}{t:List Nat}(h:trim d=t)(h64:t.length<=64)(h0:0<t.length):madeP neg d=(⟨neg,t⟩,true):=by
 unfold madeP;rw[h,if_neg (by omega),if_neg (by intro e;rw[e] at h0;simp at h0)]
theorem num_made(neg:Bool)(d:List Nat)(p:Option Addr)(l c:Nat)(w:World)(h:Row w p c d)(hl:l=d.length) :
  Calls Tryz.prog 69 #[.bool neg,.slice p l c] w (RetNum w (madeP neg d)):=by
 subst hl
 have hle:=h.le
 have hm:=h.max
 go_enter Tryz.func69,Tryz.ntmps69
 go_wp2
 go_loop [6] (fun n=>∃k:Nat,k<=d.length/\n=.int .i64 (k:Int)/\val (d.take k)=val d) (fun n=>(intOf n).toNat)
 case atStart=>exact⟨d.length,Nat.le_refl _,rfl,by rw[List.take_of_length_le (Nat.le_refl _)]⟩
 case round =>
  obtain⟨k,hk,rfl,hv⟩:=hrel
  have V:=Lib.hid hv
  clear hv
  cases k with
  | zero =>
   have e:((0:Nat):Int)=0:=rfl
   rw[e]
   clear e
   have T:=Lib.hid (trim_eq_take h.dig hk V.out (by omega))
   clear h
   go_wp2
   refine bodyPost_ret (v:=.tuple #[.agg #[.bool false,.slice none 0 0],.bool true]) (by simp[results,Tryz.results69,go_sem]) rfl ?_
   rw[madeP_none T.out (by simp)]
   exact⟨false,none,0,0,rfl,⟨rfl,rfl,Row.nil _⟩,New.none _,bxx⟩
  | succ j =>
   obtain⟨b,o,rfl,hb,hc⟩:=h.at (by omega)
   have hc1:=hc j (by omega)
   obtain⟨x,X⟩:∃x,Hid (d[j]?.getD 0=x):=⟨_,rfl⟩
   rw[X.out] at hc1
   have e:((j+1:Nat):Int)=(j:Int)+1:=by omega
   rw[e]
   clear e
   by_cases hx:x=0
   ·have hx1 : ((x : Int) == 0) = true := by simp [hx]
    have V2:=Lib.hid (val_take_succ (by omega) (X.out.trans hx))
    clear hx hc
    go_wp2
    exact⟨⟨j,by omega,rfl,V2.out.symm.trans V.out⟩,by simp[intOf]⟩
   ·have hx1 : ((x : Int) == 0) = false := by rw [beq_eq_false_iff_ne]; omega
    have T:=Lib.hid (trim_eq_take h.dig hk V.out (by rw[Nat.add_sub_cancel,X.out];omega))
    clear hx hc
    by_cases h64:64<j+1
    ·go_wp2
     refine bodyPost_ret (v:=.tuple #[.agg #[.bool false,.slice none 0 0],.bool false]) (by simp[results,Tryz.results69,go_sem]) rfl ?_
     rw[madeP_big T.out (by simp;omega)]
     exact⟨false,none,0,0,rfl,⟨rfl,rfl,Row.nil _⟩,New.none _,bxx⟩
    ·have hlen : (d.take (j + 1)).length = j + 1 := by simp; omega
     have L:=Lib.hid hlen
     clear hlen
     have hb0:Ext w (w.alloc (.cells #[.bool false,.slice none 0 0] 32)):=bxx
     have R:=(h.take (j+1) (by omega)).ext hb0
     clear h
     go_wp2_with fail
     refine (clone32 (d.take (j+1)) _ _ _ _ R (by rw[L.out]) (by rw[L.out];omega) (by rw[L.out];omega)).mono ?_
     rintro e w1 ⟨p',c',rfl,hrow,hnew,hx⟩
     rw[L.out]
     obtain⟨hcell,hfroz⟩:=bcell hx
     have hx0:=Ext.step hb0 hx
     go_wp2
     refine bodyPost_ret (v:=.tuple #[.agg #[.bool neg,.slice p' (j+1) c'],.bool true]) (by simp[results,Tryz.results69,go_sem,hcell]) rfl ?_
     rw[madeP_mid T.out (by rw[L.out];omega) (by rw[L.out];omega)]
     refine⟨neg,p',j+1,c',rfl,⟨rfl,L.out.symm,?_⟩,hnew.mono hb0.size,bxx⟩
     (repeat (first|assumption|refine Row.set ?_ (by assumption) _ (by first|(simp;done)|(simp;omega)|omega) _|refine Row.alloc ?_ _|refine Row.drewN ?_ _|refine Row.drew ?_))
def RetCut(w:World)(p:Option Addr)(c:Nat)(d:List Nat)(e:Ending)(w':World):Prop :=
 e=.returned (.slice p d.length c)/\Row w' p c d/\Ext w w'
theorem r01_trim(d:List Nat)(p:Option Addr)(l c:Nat)(w:World)(h:Row w p c d)(hl:l=d.length) :
  Calls Tryz.prog 106 #[.slice p l c] w (RetCut w p c (trim d)):=by
 subst hl
 have hle:=h.le
 have hm:=h.max
 go_enter Tryz.func106,Tryz.ntmps106
 go_wp2
 go_loop [0] (fun n=>∃k:Nat,k<=d.length/\n=.slice p k c/\val (d.take k)=val d) (fun n=>match n with | .slice _ k _=>k|_=>0)
 case atStart=>exact⟨d.length,Nat.le_refl _,rfl,by rw[List.take_of_length_le (Nat.le_refl _)]⟩
 case round =>
  obtain⟨k,hk,rfl,hv⟩:=hrel
  have V:=Lib.hid hv
  clear hv
  cases k with
  | zero =>
   have T:=Lib.hid (trim_eq_take h.dig hk V.out (by omega))
   go_wp2
   go_ret
   rw[T.out]
   exact⟨by simp,h.take 0 (by omega),bxx⟩
  | succ j =>
   obtain⟨b,o,rfl,hb,hc⟩:=h.at (by omega)
   have hc1:=hc j (by omega)
   obtain⟨x,X⟩:∃x,Hid (d[j]?.getD 0=x):=⟨_,rfl⟩
   rw[X.out] at hc1
   by_cases hx:x=0
   ·have hx1 : ((x : Int) == 0) = true := by simp [hx]
    have V2:=Lib.hid (val_take_succ (by omega) (X.out.trans hx))
    clear hx hc
    go_wp2
    exact⟨⟨j,by omega,rfl,V2.out.symm.trans V.out⟩,by simp⟩
   ·have hx1 : ((x : Int) == 0) = false := by rw [beq_eq_false_iff_ne]; omega
    have T:=Lib.hid (trim_eq_take h.dig hk V.out (by rw[Nat.add_sub_cancel,X.out];omega))
    clear hx hc
    go_wp2
    go_ret
    rw[T.out]
    exact⟨by simp;omega,h.take _ (by omega),bxx⟩
theorem trim_length_le(d:List Nat)(hd:Dig d):(trim d).length<=d.length:=by
 unfold trim
 exact (digs_length_le _ _).2 (val_lt hd)
theorem r01_made(neg:Bool)(d:List Nat)(p:Option Addr)(l c:Nat)(w:World)(h:Row w p c d)(hl:l=d.length) :
  Calls Tryz.prog 84 #[.bool neg,.slice p l c] w (RetNum w (madeP neg d)):=by
 subst hl
 have hb0:Ext w (w.alloc (.cells #[.bool false,.slice none 0 0] 32)):=bxx
 have htl:=trim_length_le d h.dig
 have hdl:=h.le
 have hdm:=h.max
 go_enter Tryz.func84,Tryz.ntmps84
 go_wp2_with fail
 refine (r01_trim d _ _ _ _ (h.ext hb0) rfl).mono ?_
 rintro e w1 ⟨rfl,hrow,hx⟩
 obtain⟨t,T⟩:∃t,Hid (trim d=t):=⟨_,rfl⟩
 rw[T.out] at hrow htl ⊢
 have hx0:=Ext.step hb0 hx
 obtain⟨hcell,hfroz⟩:=bcell hx
 have hz:=hx.size
 simp only[World.size_alloc] at hz
 by_cases h64:64<t.length
 ·go_wp2
  refine bodyPost_ret (v:=.tuple #[.agg #[.bool false,.slice none 0 0],.bool false]) (by simp[results,Tryz.results84,go_sem,hcell]) rfl ?_
  rw[madeP_big T.out h64]
  exact⟨false,none,0,0,rfl,⟨rfl,rfl,Row.nil _⟩,New.none _,bxx⟩
 ·by_cases h0 : t.length = 0
  ·have hb : ((t.length : Int) == 0) = true := by simp [h0]
   have M:=Lib.hid (madeP_none (neg:=neg) T.out h0)
   clear h0
   go_wp2
   refine bodyPost_ret (v:=.tuple #[.agg #[.bool false,.slice none 0 0],.bool true]) (by simp[results,Tryz.results84,go_sem,hcell]) rfl ?_
   rw[M.out]
   exact⟨false,none,0,0,rfl,⟨rfl,rfl,Row.nil _⟩,New.none _,bxx⟩
  ·have hb : ((t.length : Int) == 0) = false := by rw [beq_eq_false_iff_ne]; omega
   obtain⟨b,o,rfl,hb,hc⟩:=hrow.at (by omega)
   obtain⟨i,hi,hz0,hz1,hz2⟩:=info_parts info32
   have hdig:=hrow.dig
   have Hc:=Lib.hid hc
   have R:=Lib.hid hrow
   clear hc hrow
   go_wp2_with (at_builtin;refine wpList_append_own _ rfl _ _ 30 rfl w1.heap.size 113 i (.int .u32 0) 1 4 Tryz.underlying30 hi hz0 hz1 hz2 rfl (by decide) _ _ _ rfl (World.ownsRow_made w1 #[] 0 (Nat.le_refl _) (by decide) rfl) ⟨b,o,none⟩ t.length c (enc t) rfl (by simp[enc]) ?c2 (enc_one t) ?c3 ?c4 ?c5 ?_)
   case c2=>exact row_news (fun i hi=>(cell_later ((Below.refl _ _).alloc (Nat.le_refl _) _) (Hc.out i hi)))
   case c3=>unfold maxLen;omega
   case c4=>omega
   case c5=>simp
   intro v' w2 hown hgr _
   obtain⟨p',c',rfl,hrow',hnew⟩:=row_of_owns (d:=t) (by simpa using hown) hdig
   have hx2:Ext w1 w2:=((Below.refl _ _).alloc (Nat.le_refl _) _).grown hgr (by simp) (fun k hk=>by simp[Value.ownBlock] at hk;omega)
   have hx3:=Ext.step hx0 hx2
   have hnew':New w1 p':=hnew
   have hcell2:∀o,w2.cell? ⟨w.heap.size,o,none⟩=w1.cell? ⟨w.heap.size,o,none⟩:=fun o=>hx2.cell (p:=⟨w.heap.size,o,none⟩) (show w.heap.size<w1.heap.size by omega)
   have hfroz2:∀o,w2.frozen? ⟨w.heap.size,o,none⟩=w1.frozen? ⟨w.heap.size,o,none⟩:=fun o=>hx2.frozen (p:=⟨w.heap.size,o,none⟩) (show w.heap.size<w1.heap.size by omega)
   clear hx2 hown hgr hnew
   go_wp2
   refine bodyPost_ret (v:=.tuple #[.agg #[.bool neg,.slice p' t.length c'],.bool true]) (by simp[results,Tryz.results84,go_sem,hcell,hcell2]) rfl ?_
   rw[madeP_mid T.out (by omega) (by omega)]
   refine⟨neg,p',t.length,c',rfl,⟨rfl,rfl,?_⟩,hnew'.mono (by omega),bxx⟩
   (repeat (first|assumption|refine Row.set ?_ (by assumption) _ (by first|(simp;done)|(simp;omega)|omega) _|refine Row.alloc ?_ _|refine Row.drewN ?_ _|refine Row.drew ?_))
end

set_option maxHeartbeats 1000000
set_option maxRecDepth 100000
section
theorem grownBy_trans{w w1 w2:World}{r:Option Nat}(h:w.grownBy w1 r)(k:w1.grownBy w2 r):w.grownBy w2 r :=
 ⟨k.os.trans h.os,k.tape.trans h.tape,k.output.trans h.output,Nat.le_trans h.size k.size,
  fun i hi hne=>(k.block i (Nat.lt_of_lt_of_le hi h.size) hne).trans (h.block i hi hne)⟩
theorem grownBy_setCell(w:World)(a:Addr)(v:Value):w.grownBy (w.setCell a v) (some a.block) :=
 ⟨rfl,rfl,rfl,by simp[World.setCell],fun k _ hne=>Below.heap_setCell _ _ _ _ (fun e=>hne (by rw[e]))⟩
theorem each_at(d:List Nat)(k:Nat)(p:Option Addr)(l c:Nat)(w:World)(h:Row w p c d)(hl:l=d.length)(hk:k<=4611686018427387904) :
  Calls Tryz.prog 135 #[.slice p l c,.int .i64 (k:Int)] w fun e w'=>e=.returned (.int .u64 ((d[k]?.getD 0:Nat):Int))/\w=w':=by
 subst hl
 have hle:=h.le
 have hm:=h.max
 by_cases hlt:k<d.length
 ·obtain ⟨b, o, rfl, hb, hc⟩ := h.at (by omega)
  have hc1:=hc k hlt
  have hx:=h.dig.getD k
  rw[List.getD_eq_getElem?_getD] at hx
  obtain⟨x,X⟩:∃x,Hid (d[k]?.getD 0=x):=⟨_,rfl⟩
  rw[X.out] at hc1 hx ⊢
  clear hc h
  go_enter Tryz.func135,Tryz.ntmps135
  go_wp2
  go_ret
  exact⟨rfl,rfl⟩
 ·have e : d[k]?.getD 0 = 0 := by rw [List.getElem?_eq_none (by omega)]; rfl
  rw[e]
  clear e h
  go_enter Tryz.func135,Tryz.ntmps135
  go_wp2
  go_ret
  exact⟨rfl,rfl⟩
theorem u64_neg(n:Int)(h : -18446744073709551616<=n/\n<0):IntKind.u64.wrap n=n+18446744073709551616:=by
 have e:IntKind.u64.wrap n=n%18446744073709551616:=by simp[IntKind.wrap,IntKind.signed,IntKind.bits]
 rw[e]
 omega
def Step(cb:Nat)(w:World)(x s:Nat)(e:Ending)(w':World):Prop :=
 e=.returned (.int .u32 (x:Int))/\w'.cell? ⟨cb,0,none⟩=some (.int .u64 (s:Int))/\w'.frozen? ⟨cb,0,none⟩=false/\w.grownBy w' (some cb)
theorem step_of{cb x s:Nat}{w:World}{v:Value}{a b:Int}(hc:w.cell? ⟨cb,0,none⟩=some v)(hf:w.frozen? ⟨cb,0,none⟩=false)(ha:a=(x:Int))(hb:b=(s:Int)) :
  Step cb w x s (.returned (.int .u32 a)) (w.setCell ⟨cb,0,none⟩ (.int .u64 b)):=by
 subst ha hb
 exact⟨rfl,World.cell?_setCell_same' _ _ _ (by rw[hc];rfl),by rw[World.frozen?_setCell];exact hf,grownBy_setCell _ _ _⟩
theorem plus_step(x y s cb:Nat)(w:World)(hx:x<4294967296)(hy:y<4294967296)(hs:s<=1)(hc:w.cell? ⟨cb,0,none⟩=some (.int .u64 (s:Int)))(hf:w.frozen? ⟨cb,0,none⟩=false) :
  Calls Tryz.prog 127 #[.int .u64 (x:Int),.int .u64 (y:Int),.pointer (some ⟨cb,0,none⟩)] w (Step cb w ((s+(x+y))%4294967296) ((s+(x+y))/4294967296)):=by
 go_enter Tryz.func127,Tryz.ntmps127
 go_wp2
 go_ret
 refine⟨by simp,?_,?_,grownBy_trans (grownBy_setCell _ _ _) (grownBy_setCell _ _ _)⟩
 ·rw[World.cell?_setCell_same' _ _ _ (by rw[World.cell?_setCell_same' _ _ _ (by rw[hc];rfl)];rfl)];simp
 ·rw[World.frozen?_setCell,World.frozen?_setCell,hf]
theorem minus_step(x y s cb:Nat)(w:World)(hx:x<4294967296)(hy:y<4294967296)(hs:s<=1)(hc:w.cell? ⟨cb,0,none⟩=some (.int .u64 (s:Int)))(hf:w.frozen? ⟨cb,0,none⟩=false) :
  Calls Tryz.prog 128 #[.int .u64 (x:Int),.int .u64 (y:Int),.pointer (some ⟨cb,0,none⟩)] w (Step cb w ((x+4294967296-y-s)%4294967296) (if x<y+s then 1 else 0)):=by
 by_cases h1:y+s<=x
 ·go_enter Tryz.func128, Tryz.ntmps128
  go_wp2
  go_ret
  exact step_of hc hf (by omega) (by omega)
 ·by_cases h2 : x < y
  ·go_enter Tryz.func128, Tryz.ntmps128
   go_wp2
   go_ret
   have e1:IntKind.u64.wrap ((x:Int)-y)=(x:Int)-y+18446744073709551616:=u64_neg _ (by omega)
   have e2:IntKind.u64.wrap ((x:Int)-y+18446744073709551616-s)=(x:Int)-y+18446744073709551616-s:=IntWalk.u64_in _ (by omega)
   exact step_of hc hf (by rw[e1,e2];omega) (by rw[e1,e2];omega)
  ·obtain rfl : x = y := by omega
   obtain rfl:s=1:=by omega
   go_enter Tryz.func128,Tryz.ntmps128
   go_wp2
   go_ret
   have e1:IntKind.u64.wrap (-1)=18446744073709551615:=u64_neg _ (by omega)
   exact step_of hc hf (by rw[e1];omega) (by rw[e1];omega)
def sumInv(a b:List Nat)(o:List Nat)(s:Nat):Prop :=
 Dig o/\s<=1/\val o+4294967296 ^ o.length*s=val (a.take o.length)+val (b.take o.length)
def diffInv(a b:List Nat)(o:List Nat)(s:Nat):Prop :=
 Dig o/\s<=1/\val o+val (b.take o.length)=val (a.take o.length)+4294967296 ^ o.length*s
theorem val_take_add(d:List Nat)(k:Nat):val (d.take (k+1))=val (d.take k)+4294967296 ^ k*(d[k]?.getD 0):=by
 by_cases h:k<d.length
 ·rw [List.take_succ_eq_append_getElem h, val_append, getD_eq h]
  simp only[List.length_take,Nat.min_eq_left (Nat.le_of_lt h),val_cons,val_nil]
  simp
 ·rw [List.take_of_length_le (by omega), List.take_of_length_le (by omega), List.getElem?_eq_none (by omega)]
  simp
theorem val_snoc(o:List Nat)(x:Nat):val (o++[x])=val o+4294967296 ^ o.length*x:=by rw[val_append];simp[val]
theorem sumInv_step{a b o:List Nat}{s:Nat}(ha:Dig a)(hb:Dig b)(h:sumInv a b o s) :
  sumInv a b (o++[(s+(a[o.length]?.getD 0+b[o.length]?.getD 0))%4294967296]) ((s+(a[o.length]?.getD 0+b[o.length]?.getD 0))/4294967296):=by
 obtain⟨h1,h2,h3⟩:=h
 have ha1:=ha.getD o.length
 have hb1:=hb.getD o.length
 rw[List.getD_eq_getElem?_getD] at ha1 hb1
 refine⟨h1.append (Dig.cons (Nat.mod_lt _ (by omega)) Dig.nil),by omega,?_⟩
 rw[List.length_append,List.length_singleton,val_snoc,val_take_add,val_take_add]
 generalize a[o.length]?.getD 0=x at *
 generalize b[o.length]?.getD 0=y at *
 rw[Nat.pow_succ]
 generalize 4294967296 ^ o.length=p at *
 have e:p*((s+(x+y))%4294967296)+p*4294967296*((s+(x+y))/4294967296)=p*s+(p*x+p*y):=by
  rw[Nat.mul_assoc,<- Nat.mul_add,Nat.mod_add_div,Nat.mul_add,Nat.mul_add]
 omega
theorem diffInv_step{a b o:List Nat}{s:Nat}(ha:Dig a)(hb:Dig b)(h:diffInv a b o s) :
  diffInv a b (o++[(a[o.length]?.getD 0+4294967296-b[o.length]?.getD 0-s)%4294967296]) (if a[o.length]?.getD 0<b[o.length]?.getD 0+s then 1 else 0):=by
 obtain⟨h1,h2,h3⟩:=h
 have ha1:=ha.getD o.length
 have hb1:=hb.getD o.length
 rw[List.getD_eq_getElem?_getD] at ha1 hb1
 refine⟨h1.append (Dig.cons (Nat.mod_lt _ (by omega)) Dig.nil),by split<;>omega,?_⟩
 rw[List.length_append,List.length_singleton,val_snoc,val_take_add,val_take_add]
 generalize a[o.length]?.getD 0=x at *
 generalize b[o.length]?.getD 0=y at *
 rw[Nat.pow_succ]
 generalize 4294967296 ^ o.length=p at *
 have e:(x+4294967296-y-s)%4294967296+y+s=x+4294967296*(if x<y+s then 1 else 0):=by split<;>omega
 have e2:p*((x+4294967296-y-s)%4294967296)+p*y+p*s=p*x+p*4294967296*(if x<y+s then 1 else 0):=by
  rw[Nat.mul_assoc,<- Nat.mul_add,<- Nat.mul_add,<- Nat.mul_add,e]
 omega
theorem val_take_all(d:List Nat)(k:Nat)(h:d.length<=k):val (d.take k)=val d:=by rw[List.take_of_length_le h]
theorem pow_pred(b n:Nat)(h:0<n):b ^ n=b ^ (n-1)*b:=by
 obtain⟨k,rfl⟩:∃k,n=k+1:=⟨n-1,by omega⟩
 rw[Nat.add_sub_cancel,Nat.pow_succ]
theorem sumInv_end{a b o:List Nat}{s:Nat}(ha:Dig a)(hb:Dig b)(h:sumInv a b o s)(hl:max a.length b.length<o.length):val o=val a+val b:=by
 obtain⟨h1,h2,h3⟩:=h
 rw[val_take_all a _ (by omega),val_take_all b _ (by omega)] at h3
 have h4:=val_lt ha
 have h5:=val_lt hb
 have h6:(4294967296:Nat) ^ a.length<=4294967296 ^ (o.length-1):=Nat.pow_le_pow_right (by omega) (by omega)
 have h7:(4294967296:Nat) ^ b.length<=4294967296 ^ (o.length-1):=Nat.pow_le_pow_right (by omega) (by omega)
 have h8:(4294967296:Nat) ^ o.length=4294967296 ^ (o.length-1)*4294967296:=pow_pred _ _ (by omega)
 rw[h8] at h3
 generalize (4294967296:Nat) ^ (o.length-1)=p at *
 generalize (4294967296:Nat) ^ a.length=q at *
 generalize (4294967296:Nat) ^ b.length=r at *
 have h9:p*2<=p*4294967296:=Nat.mul_le_mul_left _ (by decide)
 generalize p*4294967296=pp at *
 rcases Nat.lt_or_ge 0 s with h0|h0
 ·have e : s = 1 := Nat.le_antisymm h2 h0
  rw[e,Nat.mul_one] at h3
  omega
 ·have e : s = 0 := Nat.le_antisymm h0 (Nat.zero_le _)
  rw[e,Nat.mul_zero] at h3
  omega
theorem diffInv_end{a b o:List Nat}{s:Nat}(h:diffInv a b o s)(hl:a.length<=o.length)(hl2:b.length<=o.length)(hle:val b<=val a):val o=val a-val b:=by
 obtain⟨h1,h2,h3⟩:=h
 rw[val_take_all a _ hl,val_take_all b _ hl2] at h3
 have h4:=val_lt h1
 generalize (4294967296:Nat) ^ o.length=p at *
 rcases Nat.lt_or_ge 0 s with h0|h0
 ·obtain rfl : s = 1 := by omega
  omega
 ·obtain rfl : s = 0 := by omega
  omega
end

set_option maxHeartbeats 2000000
set_option maxRecDepth 100000
section
theorem Row.grown{w w':World}{p:Option Addr}{c cb:Nat}{d:List Nat}(h:Row w p c d)(hn:0<d.length->∀x,p=some x->x.block≠cb)(hg:w.grownBy w' (some cb)):Row w' p c d:=by
 refine⟨h.1,h.2.1,h.2.2.1,fun h0=>?_⟩
 obtain⟨b,o,hp,hlt,hc⟩:=h.2.2.2 h0
 refine⟨b,o,hp,Nat.lt_of_lt_of_le hlt hg.size,fun i hi=>?_⟩
 have hb:=hn h0 _ hp
 rw[<- hc i hi]
 exact World.cell?_of_block (hg.block b hlt (fun e=>hb (by injection e)))
theorem enc_set(o z:List Nat)(x:Nat):(enc (o++0::z)).set o.length (.int .u32 (x:Int))=enc (o++[x]++z):=by
 simp[enc]
theorem replicate_pred(n:Nat)(h:0<n):List.replicate n 0=0::List.replicate (n-1) 0:=by
 obtain⟨k,rfl⟩:∃k,n=k+1:=⟨n-1,by omega⟩
 rfl
theorem each_plus(a b:List Nat)(pa pb:Option Addr)(la ca lb kb cb:Nat)(w:World)(ha:Row w pa ca a)(hb:Row w pb kb b)(hla:la=a.length)(hlb:lb=b.length)
  (hna:0<a.length->∀x,pa=some x->x.block≠cb) (hnb:0<b.length->∀x,pb=some x->x.block≠cb) (hal:a.length<=1000) (hbl:b.length<=1000)
  (hcb:cb<w.heap.size) (hc:w.cell? ⟨cb,0,none⟩=some (.int .u64 ((0:Nat):Int))) (hf:w.frozen? ⟨cb,0,none⟩=false) :
  Calls Tryz.prog 126 #[.slice pa la ca,.slice pb lb kb,.func (.func 127) #[] #[.pointer (some ⟨cb,0,none⟩)]] w fun e w' =>
   ∃o c,o.length=max a.length b.length+1/\e=.returned (.slice (some ⟨w.heap.size,0,none⟩) o.length c)/\Row w' (some ⟨w.heap.size,0,none⟩) c o/\(∃s,sumInv a b o s)/\w.grownBy w' (some cb):=by
 subst hla hlb
 obtain⟨i,hi,hz0,hz1,hz2⟩:=info_parts info32
 obtain⟨N,hN⟩:∃N,N=max a.length b.length+1:=⟨_,rfl⟩
 have eN:max (a.length:Int) (b.length:Int)+1=(N:Int):=by omega
 have HN:=Lib.hid hN
 have hN1:a.length<N:=by omega
 have hN2:b.length<N:=by omega
 have hN3:N<=1001:=by omega
 have hN4:N<=max a.length b.length+1:=by omega
 clear hN
 have hla:=ha.le
 have hma:=ha.max
 have hlb:=hb.le
 have hmb:=hb.max
 go_enter Tryz.func126,Tryz.ntmps126
 go_wp2_with (at_make;refine wpList_make_full _ rfl _ _ 30 rfl w.heap.size 113 i (.int .u32 0) 1 Tryz.underlying30 hi hz0 hz1 _ _ _ _ N rfl rfl (by omega) (by omega) (by rw[hz2];omega) (by unfold maxLen;omega) (Nat.le_refl _) ?_)
 all_goals
  intro w1 hown hgr
  rw[show (madeCells #[Value.int IntKind.u32 0] N).toList=enc ([]++List.replicate N 0) from by rw[enc,List.nil_append,List.map_replicate];exact toList_madeCells_one _ _] at hown
  have hg0:w.grownBy w1 (some cb):=⟨hgr.os,hgr.tape,hgr.output,hgr.size,fun k hk _=>hgr.block k hk (by simp)⟩
  have hc1:w1.cell? ⟨cb,0,none⟩=some (.int .u64 ((0:Nat):Int)):=(World.cell?_of_block (hgr.block cb hcb (by simp))).trans hc
  have hf1:w1.frozen? ⟨cb,0,none⟩=false:=(World.frozen?_of_block (hgr.block cb hcb (by simp))).trans hf
  clear hgr hc hf
  go_wp2_with fail
  go_loopw [19] (fun i wr=>∃(o:List Nat) (s:Nat),o.length<=N/\i=.int .i64 (o.length:Int)/\sumInv a b o s/\wr.ownsRow w.heap.size 113 1 (.slice (some ⟨w.heap.size,0,none⟩) N N) N (enc (o++List.replicate (N-o.length) 0))/\wr.cell? ⟨cb,0,none⟩=some (.int .u64 (s:Int))/\wr.frozen? ⟨cb,0,none⟩=false/\w.grownBy wr (some cb)) (fun i _=>N-(intOf i).toNat)
  case atStart=>exact⟨[],0,Nat.zero_le _,rfl,⟨Dig.nil,by omega,by simp[val]⟩,hown,hc1,hf1,hg0⟩
  case round =>
   clear hown hc1 hf1 hg0
   obtain⟨o,s,ho,rfl,hinv,hown,hc,hf,hg⟩:=hrel
   by_cases hlt:o.length<N
   ·have haw := ha.grown hna hg
    have hbw:=hb.grown hnb hg
    have hx:=ha.dig.getD o.length
    have hy:=hb.dig.getD o.length
    have hinv2:=Lib.hid (sumInv_step ha.dig hb.dig hinv)
    have hs:=hinv.2.1
    rw[List.getD_eq_getElem?_getD] at hx hy
    obtain⟨x,X⟩:∃x,Hid (a[o.length]?.getD 0=x):=⟨_,rfl⟩
    obtain⟨y,Y⟩:∃y,Hid (b[o.length]?.getD 0=y):=⟨_,rfl⟩
    rw[X.out] at hx
    rw[Y.out] at hy
    have INV:=Lib.hid hinv
    clear hinv
    go_wp2_with fail
    refine (each_at a o.length _ _ _ _ haw rfl (by omega)).mono ?_
    rintro e w' ⟨rfl,rfl⟩
    rw[X.out]
    go_wp2_with fail
    refine (each_at b o.length _ _ _ _ hbw rfl (by omega)).mono ?_
    rintro e w' ⟨rfl,rfl⟩
    rw[Y.out]
    go_wp2_with fail
    refine (plus_step x y s cb _ hx hy hs hc hf).mono ?_
    rintro e w2 ⟨rfl,hc2,hf2,hg2⟩
    have hown2:=hown.kept hg2 (.inr (by simp[Value.ownBlock];omega))
    clear hown hc hf haw hbw
    rw[replicate_pred _ (show 0<N-o.length by omega)] at hown2
    have hcw:w2.cell? ⟨w.heap.size,o.length,none⟩=some (.int .u32 0):=by
     rw[hown2.cellAt o.length (by omega)]
     simp[enc]
    have hfw:=hown2.frozenAt o.length
    obtain⟨hown3,hg3⟩:=hown2.stored o.length (.int .u32 (((s+(x+y))%4294967296:Nat):Int))
    rw[enc_set] at hown3
    have OWN:=Lib.hid hown3
    have hg4:w.grownBy w2 (some cb):=grownBy_trans hg hg2
    have hg5:w.grownBy (w2.setCell ⟨w.heap.size,o.length,none⟩ (.int .u32 (((s+(x+y))%4294967296:Nat):Int))) (some cb) :=
     ⟨hg4.os,hg4.tape,hg4.output,by simpa[World.setCell] using hg4.size,fun k hk hne=>(Below.heap_setCell _ _ _ _ (show k≠w.heap.size by omega)).trans (hg4.block k hk hne)⟩
    have hc6:(w2.setCell ⟨w.heap.size,o.length,none⟩ (.int .u32 (((s+(x+y))%4294967296:Nat):Int))).cell? ⟨cb,0,none⟩=some (.int .u64 (((s+(x+y))/4294967296:Nat):Int)) :=
     (World.cell?_of_block (Below.heap_setCell _ _ _ _ (show cb≠w.heap.size by omega))).trans hc2
    have hf6:(w2.setCell ⟨w.heap.size,o.length,none⟩ (.int .u32 (((s+(x+y))%4294967296:Nat):Int))).frozen? ⟨cb,0,none⟩=false :=
     (World.frozen?_of_block (Below.heap_setCell _ _ _ _ (show cb≠w.heap.size by omega))).trans hf2
    have C6:=Lib.hid hc6
    have F6:=Lib.hid hf6
    have G5:=Lib.hid hg5
    clear hown3 hown2 hg3 hg4 hg5 hc6 hf6 hc2 hf2 hg2 hg
    obtain⟨dg,DG⟩:∃dg,Hid ((s+(x+y))%4294967296=dg):=⟨_,rfl⟩
    rw[DG.out] at OWN C6 F6 G5 ⊢
    go_wp2
    have h:=hinv2.out
    rw[X.out,Y.out,DG.out] at h
    have hl:(o++[dg]).length=o.length+1:=by simp
    refine⟨⟨o++[dg],_,by omega,by rw[hl];rfl,h,?_,C6.out,F6.out,G5.out⟩,by simp[intOf];omega⟩
    rw[hl,Nat.sub_add_eq]
    exact OWN.out
   ·obtain rfl : o.length = N := by omega
    have DGo:=Lib.hid hinv.1
    have INV:=Lib.hid hinv
    rw[Nat.sub_self,List.replicate_zero,List.append_nil] at hown
    obtain⟨p',c',hv,hrow,_⟩:=row_of_owns hown hinv.1
    obtain⟨rfl,rfl⟩:some (⟨w.heap.size,0,none⟩:Addr)=p'/\o.length=c':=by
     simp only[Value.slice.injEq] at hv
     exact⟨hv.1,hv.2.2⟩
    have HR:=Lib.hid hrow
    have HG:=Lib.hid hg
    clear hv hown hrow hinv hc hf hg ha hb
    go_wp2
    go_ret
    exact⟨o,o.length,HN.out,rfl,HR.out,⟨s,INV.out⟩,HG.out⟩
end

set_option maxHeartbeats 2000000
set_option maxRecDepth 100000
section
theorem each_minus(a b:List Nat)(pa pb:Option Addr)(la ca lb kb cb:Nat)(w:World)(ha:Row w pa ca a)(hb:Row w pb kb b)(hla:la=a.length)(hlb:lb=b.length)
  (hna:0<a.length->∀x,pa=some x->x.block≠cb) (hnb:0<b.length->∀x,pb=some x->x.block≠cb) (hal:a.length<=1000) (hbl:b.length<=1000)
  (hcb:cb<w.heap.size) (hc:w.cell? ⟨cb,0,none⟩=some (.int .u64 ((0:Nat):Int))) (hf:w.frozen? ⟨cb,0,none⟩=false) :
  Calls Tryz.prog 126 #[.slice pa la ca,.slice pb lb kb,.func (.func 128) #[] #[.pointer (some ⟨cb,0,none⟩)]] w fun e w' =>
   ∃o c,o.length=max a.length b.length+1/\e=.returned (.slice (some ⟨w.heap.size,0,none⟩) o.length c)/\Row w' (some ⟨w.heap.size,0,none⟩) c o/\(∃s,diffInv a b o s)/\w.grownBy w' (some cb):=by
 subst hla hlb
 obtain⟨i,hi,hz0,hz1,hz2⟩:=info_parts info32
 obtain⟨N,hN⟩:∃N,N=max a.length b.length+1:=⟨_,rfl⟩
 have eN:max (a.length:Int) (b.length:Int)+1=(N:Int):=by omega
 have HN:=Lib.hid hN
 have hN1:a.length<N:=by omega
 have hN2:b.length<N:=by omega
 have hN3:N<=1001:=by omega
 have hN4:N<=max a.length b.length+1:=by omega
 clear hN
 have hla:=ha.le
 have hma:=ha.max
 have hlb:=hb.le
 have hmb:=hb.max
 go_enter Tryz.func126,Tryz.ntmps126
 go_wp2_with (at_make;refine wpList_make_full _ rfl _ _ 30 rfl w.heap.size 113 i (.int .u32 0) 1 Tryz.underlying30 hi hz0 hz1 _ _ _ _ N rfl rfl (by omega) (by omega) (by rw[hz2];omega) (by unfold maxLen;omega) (Nat.le_refl _) ?_)
 all_goals
  intro w1 hown hgr
  rw[show (madeCells #[Value.int IntKind.u32 0] N).toList=enc ([]++List.replicate N 0) from by rw[enc,List.nil_append,List.map_replicate];exact toList_madeCells_one _ _] at hown
  have hg0:w.grownBy w1 (some cb):=⟨hgr.os,hgr.tape,hgr.output,hgr.size,fun k hk _=>hgr.block k hk (by simp)⟩
  have hc1:w1.cell? ⟨cb,0,none⟩=some (.int .u64 ((0:Nat):Int)):=(World.cell?_of_block (hgr.block cb hcb (by simp))).trans hc
  have hf1:w1.frozen? ⟨cb,0,none⟩=false:=(World.frozen?_of_block (hgr.block cb hcb (by simp))).trans hf
  clear hgr hc hf
  go_wp2_with fail
  go_loopw [19] (fun i wr=>∃(o:List Nat) (s:Nat),o.length<=N/\i=.int .i64 (o.length:Int)/\diffInv a b o s/\wr.ownsRow w.heap.size 113 1 (.slice (some ⟨w.heap.size,0,none⟩) N N) N (enc (o++List.replicate (N-o.length) 0))/\wr.cell? ⟨cb,0,none⟩=some (.int .u64 (s:Int))/\wr.frozen? ⟨cb,0,none⟩=false/\w.grownBy wr (some cb)) (fun i _=>N-(intOf i).toNat)
  case atStart=>exact⟨[],0,Nat.zero_le _,rfl,⟨Dig.nil,by omega,by simp[val]⟩,hown,hc1,hf1,hg0⟩
  case round =>
   clear hown hc1 hf1 hg0
   obtain⟨o,s,ho,rfl,hinv,hown,hc,hf,hg⟩:=hrel
   by_cases hlt:o.length<N
   ·have haw := ha.grown hna hg
    have hbw:=hb.grown hnb hg
    have hx:=ha.dig.getD o.length
    have hy:=hb.dig.getD o.length
    have hinv2:=Lib.hid (diffInv_step ha.dig hb.dig hinv)
    have hs:=hinv.2.1
    rw[List.getD_eq_getElem?_getD] at hx hy
    obtain⟨x,X⟩:∃x,Hid (a[o.length]?.getD 0=x):=⟨_,rfl⟩
    obtain⟨y,Y⟩:∃y,Hid (b[o.length]?.getD 0=y):=⟨_,rfl⟩
    rw[X.out] at hx
    rw[Y.out] at hy
    have INV:=Lib.hid hinv
    clear hinv
    go_wp2_with fail
    refine (each_at a o.length _ _ _ _ haw rfl (by omega)).mono ?_
    rintro e w' ⟨rfl,rfl⟩
    rw[X.out]
    go_wp2_with fail
    refine (each_at b o.length _ _ _ _ hbw rfl (by omega)).mono ?_
    rintro e w' ⟨rfl,rfl⟩
    rw[Y.out]
    go_wp2_with fail
    refine (minus_step x y s cb _ hx hy hs hc hf).mono ?_
    rintro e w2 ⟨rfl,hc2,hf2,hg2⟩
    have hown2:=hown.kept hg2 (.inr (by simp[Value.ownBlock];omega))
    clear hown hc hf haw hbw
    rw[replicate_pred _ (show 0<N-o.length by omega)] at hown2
    have hcw:w2.cell? ⟨w.heap.size,o.length,none⟩=some (.int .u32 0):=by
     rw[hown2.cellAt o.length (by omega)]
     simp[enc]
    have hfw:=hown2.frozenAt o.length
    obtain⟨hown3,hg3⟩:=hown2.stored o.length (.int .u32 (((x+4294967296-y-s)%4294967296:Nat):Int))
    rw[enc_set] at hown3
    have OWN:=Lib.hid hown3
    have hg4:w.grownBy w2 (some cb):=grownBy_trans hg hg2
    have hg5:w.grownBy (w2.setCell ⟨w.heap.size,o.length,none⟩ (.int .u32 (((x+4294967296-y-s)%4294967296:Nat):Int))) (some cb) :=
     ⟨hg4.os,hg4.tape,hg4.output,by simpa[World.setCell] using hg4.size,fun k hk hne=>(Below.heap_setCell _ _ _ _ (show k≠w.heap.size by omega)).trans (hg4.block k hk hne)⟩
    have hc6:(w2.setCell ⟨w.heap.size,o.length,none⟩ (.int .u32 (((x+4294967296-y-s)%4294967296:Nat):Int))).cell? ⟨cb,0,none⟩=some (.int .u64 ((if x<y+s then 1 else 0:Nat):Int)) :=
     (World.cell?_of_block (Below.heap_setCell _ _ _ _ (show cb≠w.heap.size by omega))).trans hc2
    have hf6:(w2.setCell ⟨w.heap.size,o.length,none⟩ (.int .u32 (((x+4294967296-y-s)%4294967296:Nat):Int))).frozen? ⟨cb,0,none⟩=false :=
     (World.frozen?_of_block (Below.heap_setCell _ _ _ _ (show cb≠w.heap.size by omega))).trans hf2
    have C6:=Lib.hid hc6
    have F6:=Lib.hid hf6
    have G5:=Lib.hid hg5
    clear hown3 hown2 hg3 hg4 hg5 hc6 hf6 hc2 hf2 hg2 hg
    obtain⟨dg,DG⟩:∃dg,Hid ((x+4294967296-y-s)%4294967296=dg):=⟨_,rfl⟩
    rw[DG.out] at OWN C6 F6 G5 ⊢
    go_wp2
    have h:=hinv2.out
    rw[X.out,Y.out,DG.out] at h
    have hl:(o++[dg]).length=o.length+1:=by simp
    refine⟨⟨o++[dg],_,by omega,by rw[hl];rfl,h,?_,C6.out,F6.out,G5.out⟩,by simp[intOf];omega⟩
    rw[hl,Nat.sub_add_eq]
    exact OWN.out
   ·obtain rfl : o.length = N := by omega
    have DGo:=Lib.hid hinv.1
    have INV:=Lib.hid hinv
    rw[Nat.sub_self,List.replicate_zero,List.append_nil] at hown
    obtain⟨p',c',hv,hrow,_⟩:=row_of_owns hown hinv.1
    obtain⟨rfl,rfl⟩:some (⟨w.heap.size,0,none⟩:Addr)=p'/\o.length=c':=by
     simp only[Value.slice.injEq] at hv
     exact⟨hv.1,hv.2.2⟩
    have HR:=Lib.hid hrow
    have HG:=Lib.hid hg
    clear hv hown hrow hinv hc hf hg ha hb
    go_wp2
    go_ret
    exact⟨o,o.length,HN.out,rfl,HR.out,⟨s,INV.out⟩,HG.out⟩
end

set_option maxHeartbeats 1000000
set_option maxRecDepth 100000
section
theorem num_plus(a b:List Nat)(pa pb:Option Addr)(la ca lb kb:Nat)(w:World)(ha:Row w pa ca a)(hb:Row w pb kb b)(hla:la=a.length)(hlb:lb=b.length)(hal:a.length<=1000)(hbl:b.length<=1000) :
  Calls Tryz.prog 108 #[.slice pa la ca,.slice pb lb kb] w fun e w' =>
   ∃o p c,e=.returned (.slice p o.length c)/\Row w' p c o/\New w p/\Ext w w'/\val o=val a+val b:=by
 subst hla hlb
 have ha1:=Lib.hid (ha.alloc (.cells #[.int .u64 0] 112))
 have hb1:=Lib.hid (hb.alloc (.cells #[.int .u64 0] 112))
 have hna:0<a.length->∀x,pa=some x->x.block≠w.heap.size:=by
  intro h0 x hx
  obtain⟨b',o,hp,hlt,_⟩:=ha.at h0
  rw[hp] at hx
  cases hx
  exact Nat.ne_of_lt hlt
 have hnb:0<b.length->∀x,pb=some x->x.block≠w.heap.size:=by
  intro h0 x hx
  obtain⟨b',o,hp,hlt,_⟩:=hb.at h0
  rw[hp] at hx
  cases hx
  exact Nat.ne_of_lt hlt
 have HNA:=Lib.hid hna
 have HNB:=Lib.hid hnb
 have da:=ha.dig
 have db:=hb.dig
 clear hna hnb ha hb
 have hmf:∀(fn:Fn) (first cap:Array Value) (w:World),(Instr.makeFunc fn first cap).run Tryz.prog w=.ok (.func fn first cap) w:=fun _ _ _ _=>rfl
 go_enter Tryz.func108,Tryz.ntmps108
 go_wp2_with fail
 refine (each_plus a b _ _ _ _ _ _ w.heap.size _ ha1.out hb1.out rfl rfl HNA.out HNB.out hal hbl (by simp) (by go_simp) (by go_simp)).mono ?_
 rintro e w1 ⟨o,c,hlen,rfl,hrow,⟨s,hinv⟩,hg⟩
 have hv:=sumInv_end da db hinv (by omega)
 have V:=Lib.hid hv
 have HR:=Lib.hid hrow
 have HG:=Lib.hid hg
 clear hlen hv hrow hg hinv
 go_wp2
 go_ret
 refine⟨o,some ⟨w.heap.size+1,0,none⟩,c,rfl,by simpa using HR.out,fun x hx=>?_,?_,V.out⟩
 ·cases hx
  simp
 ·refine ⟨HG.out.os, HG.out.tape, HG.out.output, ?_, fun k hk => ?_⟩
  ·have := HG.out.size
   simp at this
   omega
  ·rw [HG.out.block k (by simp; omega) (by simp; omega)]
   exact Below.heap_alloc _ _ _ hk
theorem num_minus(a b:List Nat)(pa pb:Option Addr)(la ca lb kb:Nat)(w:World)(ha:Row w pa ca a)(hb:Row w pb kb b)(hla:la=a.length)(hlb:lb=b.length)(hal:a.length<=1000)(hbl:b.length<=1000)(hle:val b<=val a) :
  Calls Tryz.prog 109 #[.slice pa la ca,.slice pb lb kb] w fun e w' =>
   ∃o p c,e=.returned (.slice p o.length c)/\Row w' p c o/\New w p/\Ext w w'/\val o=val a-val b:=by
 subst hla hlb
 have ha1:=Lib.hid (ha.alloc (.cells #[.int .u64 0] 112))
 have hb1:=Lib.hid (hb.alloc (.cells #[.int .u64 0] 112))
 have hna:0<a.length->∀x,pa=some x->x.block≠w.heap.size:=by
  intro h0 x hx
  obtain⟨b',o,hp,hlt,_⟩:=ha.at h0
  rw[hp] at hx
  cases hx
  exact Nat.ne_of_lt hlt
 have hnb:0<b.length->∀x,pb=some x->x.block≠w.heap.size:=by
  intro h0 x hx
  obtain⟨b',o,hp,hlt,_⟩:=hb.at h0
  rw[hp] at hx
  cases hx
  exact Nat.ne_of_lt hlt
 have HNA:=Lib.hid hna
 have HNB:=Lib.hid hnb
 clear hna hnb ha hb
 have hmf:∀(fn:Fn) (first cap:Array Value) (w:World),(Instr.makeFunc fn first cap).run Tryz.prog w=.ok (.func fn first cap) w:=fun _ _ _ _=>rfl
 go_enter Tryz.func109,Tryz.ntmps109
 go_wp2_with fail
 refine (each_minus a b _ _ _ _ _ _ w.heap.size _ ha1.out hb1.out rfl rfl HNA.out HNB.out hal hbl (by simp) (by go_simp) (by go_simp)).mono ?_
 rintro e w1 ⟨o,c,hlen,rfl,hrow,⟨s,hinv⟩,hg⟩
 have hv:=diffInv_end hinv (by omega) (by omega) hle
 have V:=Lib.hid hv
 have HR:=Lib.hid hrow
 have HG:=Lib.hid hg
 clear hlen hv hrow hg hinv
 go_wp2
 go_ret
 refine⟨o,some ⟨w.heap.size+1,0,none⟩,c,rfl,by simpa using HR.out,fun x hx=>?_,?_,V.out⟩
 ·cases hx
  simp
 ·refine ⟨HG.out.os, HG.out.tape, HG.out.output, ?_, fun k hk => ?_⟩
  ·have := HG.out.size
   simp at this
   omega
  ·rw [HG.out.block k (by simp; omega) (by simp; omega)]
   exact Below.heap_alloc _ _ _ hk
end

set_option maxHeartbeats 1000000
set_option maxRecDepth 100000
section
def sumP(a b:Nm)(neg:Bool):Nm×Bool:=if a.right&&b.right then fit (a.z+(if neg then -(val b.d:Int) else val b.d)) else (zero,false)
theorem NR.len{w:World}{n:Bool}{p:Option Addr}{l c:Nat}{a:Nm}(_h:NR w n p l c a)(hr:a.right=true):a.d.length<=64:=(a.right_iff.1 hr).1
theorem sumP_left{a b:Nm}{neg:Bool}(ha:a.right=false):sumP a b neg=(zero,false):=by simp[sumP,ha]
theorem sumP_right{a b:Nm}{neg:Bool}(hb:b.right=false):sumP a b neg=(zero,false):=by simp[sumP,hb]
theorem sumP_plus{a b:Nm}{neg:Bool}{o:List Nat}(ha:a.right=true)(hb:b.right=true)(hn:a.neg=neg)(hv:val o=val a.d+val b.d):madeP neg o=sumP a b neg:=by
 rw[madeP_fit,sumP,ha,hb,hv,Nm.z,hn]
 cases neg<;>simp<;>congr 1<;>omega
theorem sumP_minus{a b:Nm}{neg:Bool}{o:List Nat}(ha:a.right=true)(hb:b.right=true)(hn:a.neg≠neg)(hle:val b.d<=val a.d)(hv:val o=val a.d-val b.d):madeP a.neg o=sumP a b neg:=by
 rw[madeP_fit,sumP,ha,hb,hv,Nm.z]
 cases h:a.neg<;>cases neg<;>simp_all<;>congr 1<;>omega
theorem sumP_other{a b:Nm}{neg:Bool}{o:List Nat}(ha:a.right=true)(hb:b.right=true)(hn:a.neg≠neg)(hle:val a.d<=val b.d)(hv:val o=val b.d-val a.d):madeP neg o=sumP a b neg:=by
 rw[madeP_fit,sumP,ha,hb,hv,Nm.z]
 cases h:a.neg<;>cases neg<;>simp_all<;>congr 1<;>omega
theorem cmp_ge{a b:Nm}(ha:a.right=true)(hb:b.right=true)(da:Dig a.d)(db:Dig b.d):(0<=cmpL a.d b.d <-> val b.d<=val a.d):=by
 rw[cmpL_tight da db (a.right_iff.1 ha).2.1 (b.right_iff.1 hb).2.1]
 unfold cmpN
 split
 ·omega
 ·split<;>omega
theorem sum_same(a b:Nm)(neg na nb:Bool)(pa pb:Option Addr)(la ca lb cb:Nat)(w:World)(ha:NR w na pa la ca a)(hb:NR w nb pb lb cb b)(ra:a.right=true)(rb:b.right=true)(hn:a.neg=neg) :
  Calls Tryz.prog 94 #[.agg #[.bool na,.slice pa la ca],.agg #[.bool nb,.slice pb lb cb],.bool neg] w (RetNum w (sumP a b neg)):=by
 have la64:=ha.len ra
 have lb64:=hb.len rb
 have hq:(na==neg)=true:=by rw[ha.1,hn];simp
 have HN:=Lib.hid hn
 clear hn
 go_enter Tryz.func94,Tryz.ntmps94
 go_wp2_with fail
 refine (num_Right a _ _ _ _ _ (ha.ext bxx)).mono ?_
 rintro e w1 ⟨rfl,hx⟩
 rw[ra]
 have hx0:Ext w w1:=Ext.step bxx hx
 obtain⟨_,⟨_,_,_⟩,⟨_,_,_⟩,_,_,_⟩:=keepK3 hx w.heap.size
 go_wp2_with fail
 refine (num_Right b _ _ _ _ _ (hb.ext bxx)).mono ?_
 rintro e w2 ⟨rfl,hx2⟩
 rw[rb]
 have hx1:Ext w w2:=Ext.step hx0 hx2
 obtain⟨_,⟨_,_,_⟩,⟨_,_,_⟩,_,_,_⟩:=keepK3 hx2 w.heap.size
 go_wp2_with fail
 refine (num_plus a.d b.d _ _ _ _ _ _ _ (ha.2.2.ext bxx) (hb.2.2.ext bxx) ha.2.1 hb.2.1 (by omega) (by omega)).mono ?_
 rintro e w3 ⟨o,p,c,rfl,hrow,hnew,hx3,hv⟩
 have hx4:Ext w w3:=Ext.step hx1 hx3
 obtain⟨_,⟨_,_,_⟩,⟨_,_,_⟩,_,_,_⟩:=keepK3 hx3 w.heap.size
 have SP:=Lib.hid (sumP_plus ra rb HN.out hv)
 clear hv
 go_wp2_with fail
 refine (num_made neg o _ _ _ _ hrow rfl).mono ?_
 rintro e w4 ⟨n',p',l',c',rfl,hnr,hnew',hx5⟩
 rw[SP.out] at hnr ⊢
 have hx6:Ext w w4:=Ext.step hx4 hx5
 obtain⟨_,⟨_,_,_⟩,⟨_,_,_⟩,_,_,_⟩:=keepK3 hx5 w.heap.size
 go_wp2_with fail
 refine bodyPost_ret (v:=.tuple #[.agg #[.bool n',.slice p' l' c'],.bool (sumP a b neg).2]) (by simp[results,Tryz.results94,go_sem, *]) rfl ?_
 exact⟨n',p',l',c',rfl,⟨hnr.1,hnr.2.1,hnr.2.2.set hnew' _ (by simp;omega) _ |>.set hnew' _ (by simp;omega) _⟩,hnew'.mono (by omega),bxx⟩
theorem sum_minus(a b:Nm)(neg na nb:Bool)(pa pb:Option Addr)(la ca lb cb:Nat)(w:World)(ha:NR w na pa la ca a)(hb:NR w nb pb lb cb b)(ra:a.right=true)(rb:b.right=true)(hn:a.neg≠neg)(hc:val b.d<=val a.d) :
  Calls Tryz.prog 94 #[.agg #[.bool na,.slice pa la ca],.agg #[.bool nb,.slice pb lb cb],.bool neg] w (RetNum w (sumP a b neg)):=by
 have la64:=ha.len ra
 have lb64:=hb.len rb
 have hq:(na==neg)=false:=by rw[ha.1];simpa using hn
 have hge:0<=cmpL a.d b.d:=(cmp_ge ra rb ha.2.2.dig hb.2.2.dig).2 hc
 go_enter Tryz.func94,Tryz.ntmps94
 go_wp2_with fail
 refine (num_Right a _ _ _ _ _ (ha.ext bxx)).mono ?_
 rintro e w1 ⟨rfl,hx⟩
 rw[ra]
 have hx0:Ext w w1:=Ext.step bxx hx
 obtain⟨_,⟨_,_,_⟩,⟨_,_,_⟩,_,_,_⟩:=keepK3 hx w.heap.size
 go_wp2_with fail
 refine (num_Right b _ _ _ _ _ (hb.ext bxx)).mono ?_
 rintro e w2 ⟨rfl,hx2⟩
 rw[rb]
 have hx1:Ext w w2:=Ext.step hx0 hx2
 obtain⟨_,⟨_,_,_⟩,⟨_,_,_⟩,_,_,_⟩:=keepK3 hx2 w.heap.size
 go_wp2_with fail
 refine (num_compare a.d b.d _ _ _ _ _ _ _ (ha.2.2.ext bxx) (hb.2.2.ext bxx) ha.2.1 hb.2.1).mono ?_
 rintro e w3 ⟨rfl,hx3⟩
 have hx4:Ext w w3:=Ext.step hx1 hx3
 obtain⟨_,⟨_,_,_⟩,⟨_,_,_⟩,_,_,_⟩:=keepK3 hx3 w.heap.size
 go_wp2_with fail
 go_region_held3 (fun w'=>w'.cell? ⟨w.heap.size,0,none⟩=some (.bool na)/\w'.cell? ⟨w.heap.size,1,none⟩=some (.slice pa la ca)/\w'.cell? ⟨w.heap.size+1,1,none⟩=some (.slice pb lb cb)) (refine⟨?_,?_,?_⟩<;>go_simp) (first|(go_at_call 109;refine (num_minus a.d b.d _ _ _ _ _ _ _ (ha.2.2.ext bxx) (hb.2.2.ext bxx) ha.2.1 hb.2.1 (by omega) (by omega) hc).mono ?_;rintro e w4 ⟨o,p,c,rfl,hrow,hnew,hx5,hv⟩;(have hx6:Ext w w4:=Ext.step bxx hx5);obtain⟨_,⟨_,_,_⟩,⟨_,_,_⟩,_,_,_⟩:=keepK3 hx5 w.heap.size;have SP:=Lib.hid (sumP_minus ra rb hn hc hv);clear hv)|(go_at_call 69;refine (num_made na o _ _ _ _ hrow rfl).mono ?_;rintro e w5 ⟨n',p',l',c',rfl,hnr,hnew',hx7⟩;(have hx8:Ext w w5:=Ext.step hx6 hx7);obtain⟨_,⟨_,_,_⟩,⟨_,_,_⟩,_,_,_⟩:=keepK3 hx7 w.heap.size))
 have hn1:=ha.1
 rw[hn1,SP.out] at hnr
 have HNR:=Lib.hid hnr
 rw[hn1,SP.out]
 clear hn1 hnr
 go_wp2_with fail
 refine bodyPost_ret (v:=.tuple #[.agg #[.bool n',.slice p' l' c'],.bool (sumP a b neg).2]) (by simp[results,Tryz.results94,go_sem, *]) rfl ?_
 exact⟨n',p',l',c',rfl,⟨HNR.out.1,HNR.out.2.1,HNR.out.2.2.set hnew' _ (by simp;omega) _ |>.set hnew' _ (by simp;omega) _⟩,hnew'.mono (by omega),bxx⟩
theorem sum_other(a b:Nm)(neg na nb:Bool)(pa pb:Option Addr)(la ca lb cb:Nat)(w:World)(ha:NR w na pa la ca a)(hb:NR w nb pb lb cb b)(ra:a.right=true)(rb:b.right=true)(hn:a.neg≠neg)(hc:¬val b.d<=val a.d) :
  Calls Tryz.prog 94 #[.agg #[.bool na,.slice pa la ca],.agg #[.bool nb,.slice pb lb cb],.bool neg] w (RetNum w (sumP a b neg)):=by
 have la64:=ha.len ra
 have lb64:=hb.len rb
 have hq:(na==neg)=false:=by rw[ha.1];simpa using hn
 have hlt:cmpL a.d b.d<0:=by
  have h1:=cmp_ge ra rb ha.2.2.dig hb.2.2.dig
  rcases Int.lt_or_le (cmpL a.d b.d) 0 with h|h
  ·exact h
  ·exact absurd (h1.1 h) hc
 go_enter Tryz.func94,Tryz.ntmps94
 go_wp2_with fail
 refine (num_Right a _ _ _ _ _ (ha.ext bxx)).mono ?_
 rintro e w1 ⟨rfl,hx⟩
 rw[ra]
 have hx0:Ext w w1:=Ext.step bxx hx
 obtain⟨_,⟨_,_,_⟩,⟨_,_,_⟩,_,_,_⟩:=keepK3 hx w.heap.size
 go_wp2_with fail
 refine (num_Right b _ _ _ _ _ (hb.ext bxx)).mono ?_
 rintro e w2 ⟨rfl,hx2⟩
 rw[rb]
 have hx1:Ext w w2:=Ext.step hx0 hx2
 obtain⟨_,⟨_,_,_⟩,⟨_,_,_⟩,_,_,_⟩:=keepK3 hx2 w.heap.size
 go_wp2_with fail
 refine (num_compare a.d b.d _ _ _ _ _ _ _ (ha.2.2.ext bxx) (hb.2.2.ext bxx) ha.2.1 hb.2.1).mono ?_
 rintro e w3 ⟨rfl,hx3⟩
 have hx4:Ext w w3:=Ext.step hx1 hx3
 obtain⟨_,⟨_,_,_⟩,⟨_,_,_⟩,_,_,_⟩:=keepK3 hx3 w.heap.size
 go_wp2_with fail
 refine (num_minus b.d a.d _ _ _ _ _ _ _ (hb.2.2.ext bxx) (ha.2.2.ext bxx) hb.2.1 ha.2.1 (by omega) (by omega) (by omega)).mono ?_
 rintro e w4 ⟨o,p,c,rfl,hrow,hnew,hx5,hv⟩
 have hx6:Ext w w4:=Ext.step hx4 hx5
 obtain⟨_,⟨_,_,_⟩,⟨_,_,_⟩,_,_,_⟩:=keepK3 hx5 w.heap.size
 have SP:=Lib.hid (sumP_other ra rb hn (by omega) hv)
 clear hv
 go_wp2_with fail
 refine (num_made neg o _ _ _ _ hrow rfl).mono ?_
 rintro e w6 ⟨n',p',l',c',rfl,hnr,hnew',hx7⟩
 rw[SP.out] at hnr ⊢
 have hx8:Ext w w6:=Ext.step hx6 hx7
 obtain⟨_,⟨_,_,_⟩,⟨_,_,_⟩,_,_,_⟩:=keepK3 hx7 w.heap.size
 go_wp2_with fail
 refine bodyPost_ret (v:=.tuple #[.agg #[.bool n',.slice p' l' c'],.bool (sumP a b neg).2]) (by simp[results,Tryz.results94,go_sem, *]) rfl ?_
 exact⟨n',p',l',c',rfl,⟨hnr.1,hnr.2.1,hnr.2.2.set hnew' _ (by simp;omega) _ |>.set hnew' _ (by simp;omega) _⟩,hnew'.mono (by omega),bxx⟩
theorem num_sum(a b:Nm)(neg na nb:Bool)(pa pb:Option Addr)(la ca lb cb:Nat)(w:World)(ha:NR w na pa la ca a)(hb:NR w nb pb lb cb b) :
  Calls Tryz.prog 94 #[.agg #[.bool na,.slice pa la ca],.agg #[.bool nb,.slice pb lb cb],.bool neg] w (RetNum w (sumP a b neg)):=by
 by_cases ra:a.right=true
 ·by_cases rb : b.right = true
  ·by_cases hn : a.neg = neg
   ·exact sum_same a b neg na nb pa pb la ca lb cb w ha hb ra rb hn
   ·by_cases hc : val b.d <= val a.d
    ·exact sum_minus a b neg na nb pa pb la ca lb cb w ha hb ra rb hn hc
    ·exact sum_other a b neg na nb pa pb la ca lb cb w ha hb ra rb hn hc
  ·have rb : b.right = false := by simpa using rb
   have S:=Lib.hid (sumP_right (a:=a) (neg:=neg) rb)
   go_enter Tryz.func94,Tryz.ntmps94
   go_wp2_with fail
   refine (num_Right a _ _ _ _ _ (ha.ext bxx)).mono ?_
   rintro e w1 ⟨rfl,hx⟩
   rw[ra]
   have hx0:Ext w w1:=Ext.step bxx hx
   obtain⟨_,⟨_,_,_⟩,⟨_,_,_⟩,_,_,_⟩:=keepK3 hx w.heap.size
   go_wp2_with fail
   refine (num_Right b _ _ _ _ _ (hb.ext bxx)).mono ?_
   rintro e w2 ⟨rfl,hx2⟩
   rw[rb]
   have hx1:Ext w w2:=Ext.step hx0 hx2
   obtain⟨_,⟨_,_,_⟩,⟨_,_,_⟩,_,_,_⟩:=keepK3 hx2 w.heap.size
   go_wp2_with fail
   refine bodyPost_ret (v:=.tuple #[.agg #[.bool false,.slice none 0 0],.bool false]) (by simp[results,Tryz.results94,go_sem, *]) rfl ?_
   rw[S.out]
   exact⟨false,none,0,0,rfl,⟨rfl,rfl,Row.nil _⟩,New.none _,bxx⟩
 ·have ra : a.right = false := by simpa using ra
  have S:=Lib.hid (sumP_left (b:=b) (neg:=neg) ra)
  go_enter Tryz.func94,Tryz.ntmps94
  go_wp2_with fail
  refine (num_Right a _ _ _ _ _ (ha.ext bxx)).mono ?_
  rintro e w1 ⟨rfl,hx⟩
  rw[ra]
  have hx0:Ext w w1:=Ext.step bxx hx
  obtain⟨_,⟨_,_,_⟩,⟨_,_,_⟩,_,_,_⟩:=keepK3 hx w.heap.size
  go_wp2_with fail
  refine bodyPost_ret (v:=.tuple #[.agg #[.bool false,.slice none 0 0],.bool false]) (by simp[results,Tryz.results94,go_sem, *]) rfl ?_
  rw[S.out]
  exact⟨false,none,0,0,rfl,⟨rfl,rfl,Row.nil _⟩,New.none _,bxx⟩
end
end Go.Proofs.YtcfpcafnjgpfdaaGreat
