import Derived.Test.YtceemiodpccbhaaGreatS12
set_option linter.unusedVariables false
set_option linter.unusedSimpArgs false

namespace Go.Proofs.YtceemiodpccbhaaGreat

set_option maxHeartbeats 1000000
set_option maxRecDepth 100000
section
open Go.RowKit
def sumP (a b:Nm) (neg:Bool):Nm × Bool:=if a.right&&b.right then fit (a.z+(if neg then -(val b.d:Int) else val b.d)) else (zero,false)
theorem NR.len {w:World} {n:Bool} {p:Option Addr} {l c:Nat} {a:Nm} (_h:NR w n p l c a) (hr:a.right=true):a.d.length<=64:=(a.right_iff.1 hr).1
theorem sumP_left {a b:Nm} {neg:Bool} (ha:a.right=false):sumP a b neg=(zero,false):=by simp [sumP,ha]
theorem sumP_right {a b:Nm} {neg:Bool} (hb:b.right=false):sumP a b neg=(zero,false):=by simp [sumP,hb]
theorem sumP_plus {a b:Nm} {neg:Bool} {o:List Nat} (ha:a.right=true) (hb:b.right=true) (hn:a.neg=neg) (hv:val o=val a.d+val b.d):madeP neg o=sumP a b neg:=by
 rw [madeP_fit,sumP,ha,hb,hv,Nm.z,hn]
 cases neg<;>simp<;>congr 1<;>omega
theorem sumP_minus {a b:Nm} {neg:Bool} {o:List Nat} (ha:a.right=true) (hb:b.right=true) (hn:a.neg ≠ neg) (hle:val b.d<=val a.d) (hv:val o=val a.d - val b.d):madeP a.neg o=sumP a b neg:=by
 rw [madeP_fit,sumP,ha,hb,hv,Nm.z]
 cases h:a.neg<;>cases neg<;>simp_all<;>congr 1<;>omega
theorem sumP_other {a b:Nm} {neg:Bool} {o:List Nat} (ha:a.right=true) (hb:b.right=true) (hn:a.neg ≠ neg) (hle:val a.d<=val b.d) (hv:val o=val b.d - val a.d):madeP neg o=sumP a b neg:=by
 rw [madeP_fit,sumP,ha,hb,hv,Nm.z]
 cases h:a.neg<;>cases neg<;>simp_all<;>congr 1<;>omega
theorem cmp_ge {a b:Nm} (ha:a.right=true) (hb:b.right=true) (da:Dig a.d) (db:Dig b.d):(0<=cmpL a.d b.d <-> val b.d<=val a.d):=by
 rw [cmpL_tight da db (a.right_iff.1 ha).2.1 (b.right_iff.1 hb).2.1]
 unfold cmpN
 split
 ·omega
 ·split<;>omega
theorem sum_same (a b:Nm) (neg na nb:Bool) (pa pb:Option Addr) (la ca lb cb:Nat) (w:World) (ha:NR w na pa la ca a) (hb:NR w nb pb lb cb b) (ra:a.right=true) (rb:b.right=true) (hn:a.neg=neg) :
  Calls Tryz.prog 108 #[.agg #[.bool na,.slice pa la ca],.agg #[.bool nb,.slice pb lb cb],.bool neg] w (RetNum w (sumP a b neg)):=by
 have la64:=ha.len ra
 have lb64:=hb.len rb
 have hq:(na==neg)=true:=by rw [ha.1,hn];simp
 have HN:=Lib.hid hn
 clear hn
 go_enter Tryz.func108,Tryz.ntmps108
 go_wp2_with fail
 refine (num_Right a _ _ _ _ _ (ha.ext bxx)).mono ?_
 rintro e w1 ⟨rfl,hx⟩
 rw [ra]
 have hx0:Ext w w1:=Ext.step bxx hx
 have hz_w1:w.heap.size+3<=w1.heap.size:=Nat.le_trans omm hx.size
 obtain ⟨hl_w1_0,hk_w1_0,hf_w1_0⟩:=extK hx (w.heap.size)
 obtain ⟨hl_w1_1,hk_w1_1,hf_w1_1⟩:=extK hx (w.heap.size+1)
 obtain ⟨hl_w1_2,hk_w1_2,hf_w1_2⟩:=extK hx (w.heap.size+2)
 go_wp2_with fail
 refine (num_Right b _ _ _ _ _ (hb.ext bxx)).mono ?_
 rintro e w2 ⟨rfl,hx2⟩
 rw [rb]
 have hx1:Ext w w2:=Ext.step hx0 hx2
 have hz_w2:w.heap.size+3<=w2.heap.size:=Nat.le_trans omm hx2.size
 obtain ⟨hl_w2_0,hk_w2_0,hf_w2_0⟩:=extK hx2 (w.heap.size)
 obtain ⟨hl_w2_1,hk_w2_1,hf_w2_1⟩:=extK hx2 (w.heap.size+1)
 obtain ⟨hl_w2_2,hk_w2_2,hf_w2_2⟩:=extK hx2 (w.heap.size+2)
 go_wp2_with fail
 refine (num_plus a.d b.d _ _ _ _ _ _ _ (ha.2.2.ext bxx) (hb.2.2.ext bxx) ha.2.1 hb.2.1 (by omega) (by omega)).mono ?_
 rintro e w3 ⟨o,p,c,rfl,hrow,hnew,hx3,hv⟩
 have hx4:Ext w w3:=Ext.step hx1 hx3
 have hz_w3:w.heap.size+3<=w3.heap.size:=Nat.le_trans omm hx3.size
 obtain ⟨hl_w3_0,hk_w3_0,hf_w3_0⟩:=extK hx3 (w.heap.size)
 obtain ⟨hl_w3_1,hk_w3_1,hf_w3_1⟩:=extK hx3 (w.heap.size+1)
 obtain ⟨hl_w3_2,hk_w3_2,hf_w3_2⟩:=extK hx3 (w.heap.size+2)
 have SP:=Lib.hid (sumP_plus ra rb HN.out hv)
 clear hv
 go_wp2_with fail
 refine (num_made neg o _ _ _ _ hrow rfl).mono ?_
 rintro e w4 ⟨n',p',l',c',rfl,hnr,hnew',hx5⟩
 rw [SP.out] at hnr ⊢
 have hx6:Ext w w4:=Ext.step hx4 hx5
 have hz_w4:w.heap.size+3<=w4.heap.size:=Nat.le_trans omm hx5.size
 obtain ⟨hl_w4_0,hk_w4_0,hf_w4_0⟩:=extK hx5 (w.heap.size)
 obtain ⟨hl_w4_1,hk_w4_1,hf_w4_1⟩:=extK hx5 (w.heap.size+1)
 obtain ⟨hl_w4_2,hk_w4_2,hf_w4_2⟩:=extK hx5 (w.heap.size+2)
 go_wp2_with fail
 refine bodyPost_ret (v:=.tuple #[.agg #[.bool n',.slice p' l' c'],.bool (sumP a b neg).2]) (by simp [results,Tryz.results108,go_sem, *]) rfl ?_
 exact ⟨n',p',l',c',rfl,⟨hnr.1,hnr.2.1,hnr.2.2.set hnew' _ (by simp;omega) _ |>.set hnew' _ (by simp;omega) _⟩,hnew'.mono (by omega),bxx⟩
theorem sum_minus (a b:Nm) (neg na nb:Bool) (pa pb:Option Addr) (la ca lb cb:Nat) (w:World) (ha:NR w na pa la ca a) (hb:NR w nb pb lb cb b) (ra:a.right=true) (rb:b.right=true) (hn:a.neg ≠ neg) (hc:val b.d<=val a.d) :
  Calls Tryz.prog 108 #[.agg #[.bool na,.slice pa la ca],.agg #[.bool nb,.slice pb lb cb],.bool neg] w (RetNum w (sumP a b neg)):=by
 have la64:=ha.len ra
 have lb64:=hb.len rb
 have hq:(na==neg)=false:=by rw [ha.1];simpa using hn
 have hge:0<=cmpL a.d b.d:=(cmp_ge ra rb ha.2.2.dig hb.2.2.dig).2 hc
 go_enter Tryz.func108,Tryz.ntmps108
 go_wp2_with fail
 refine (num_Right a _ _ _ _ _ (ha.ext bxx)).mono ?_
 rintro e w1 ⟨rfl,hx⟩
 rw [ra]
 have hx0:Ext w w1:=Ext.step bxx hx
 have hz_w1:w.heap.size+3<=w1.heap.size:=Nat.le_trans omm hx.size
 obtain ⟨hl_w1_0,hk_w1_0,hf_w1_0⟩:=extK hx (w.heap.size)
 obtain ⟨hl_w1_1,hk_w1_1,hf_w1_1⟩:=extK hx (w.heap.size+1)
 obtain ⟨hl_w1_2,hk_w1_2,hf_w1_2⟩:=extK hx (w.heap.size+2)
 go_wp2_with fail
 refine (num_Right b _ _ _ _ _ (hb.ext bxx)).mono ?_
 rintro e w2 ⟨rfl,hx2⟩
 rw [rb]
 have hx1:Ext w w2:=Ext.step hx0 hx2
 have hz_w2:w.heap.size+3<=w2.heap.size:=Nat.le_trans omm hx2.size
 obtain ⟨hl_w2_0,hk_w2_0,hf_w2_0⟩:=extK hx2 (w.heap.size)
 obtain ⟨hl_w2_1,hk_w2_1,hf_w2_1⟩:=extK hx2 (w.heap.size+1)
 obtain ⟨hl_w2_2,hk_w2_2,hf_w2_2⟩:=extK hx2 (w.heap.size+2)
 go_wp2_with fail
 refine (num_compare a.d b.d _ _ _ _ _ _ _ (ha.2.2.ext bxx) (hb.2.2.ext bxx) ha.2.1 hb.2.1).mono ?_
 rintro e w3 ⟨rfl,hx3⟩
 have hx4:Ext w w3:=Ext.step hx1 hx3
 have hz_w3:w.heap.size+3<=w3.heap.size:=Nat.le_trans omm hx3.size
 obtain ⟨hl_w3_0,hk_w3_0,hf_w3_0⟩:=extK hx3 (w.heap.size)
 obtain ⟨hl_w3_1,hk_w3_1,hf_w3_1⟩:=extK hx3 (w.heap.size+1)
 obtain ⟨hl_w3_2,hk_w3_2,hf_w3_2⟩:=extK hx3 (w.heap.size+2)
 go_wp2_with fail
 go_region_held3 (fun w'=>w'.cell? ⟨w.heap.size,0,none⟩=some (.bool na)/\w'.cell? ⟨w.heap.size,1,none⟩=some (.slice pa la ca)/\w'.cell? ⟨w.heap.size+1,1,none⟩=some (.slice pb lb cb)) (refine ⟨?_,?_,?_⟩<;>go_simp) (first | (go_at_call 161;refine (num_minus a.d b.d _ _ _ _ _ _ _ (ha.2.2.ext bxx) (hb.2.2.ext bxx) ha.2.1 hb.2.1 (by omega) (by omega) hc).mono ?_;rintro e w4 ⟨o,p,c,rfl,hrow,hnew,hx5,hv⟩;(have hx6:Ext w w4:=Ext.step bxx hx5);have hz_w4:w.heap.size+3<=w4.heap.size:=Nat.le_trans omm hx5.size;obtain ⟨hl_w4_0,hk_w4_0,hf_w4_0⟩:=extK hx5 (w.heap.size);obtain ⟨hl_w4_1,hk_w4_1,hf_w4_1⟩:=extK hx5 (w.heap.size+1);obtain ⟨hl_w4_2,hk_w4_2,hf_w4_2⟩:=extK hx5 (w.heap.size+2);have SP:=Lib.hid (sumP_minus ra rb hn hc hv);clear hv) | (go_at_call 102;refine (num_made na o _ _ _ _ hrow rfl).mono ?_;rintro e w5 ⟨n',p',l',c',rfl,hnr,hnew',hx7⟩;(have hx8:Ext w w5:=Ext.step hx6 hx7);have hz_w5:w.heap.size+3<=w5.heap.size:=Nat.le_trans omm hx7.size;obtain ⟨hl_w5_0,hk_w5_0,hf_w5_0⟩:=extK hx7 (w.heap.size);obtain ⟨hl_w5_1,hk_w5_1,hf_w5_1⟩:=extK hx7 (w.heap.size+1);obtain ⟨hl_w5_2,hk_w5_2,hf_w5_2⟩:=extK hx7 (w.heap.size+2)))
 have hn1:=ha.1
 rw [hn1,SP.out] at hnr
 have HNR:=Lib.hid hnr
 rw [hn1,SP.out]
 clear hn1 hnr
 go_wp2_with fail
 refine bodyPost_ret (v:=.tuple #[.agg #[.bool n',.slice p' l' c'],.bool (sumP a b neg).2]) (by simp [results,Tryz.results108,go_sem, *]) rfl ?_
 exact ⟨n',p',l',c',rfl,⟨HNR.out.1,HNR.out.2.1,HNR.out.2.2.set hnew' _ (by simp;omega) _ |>.set hnew' _ (by simp;omega) _⟩,hnew'.mono (by omega),bxx⟩
theorem sum_other (a b:Nm) (neg na nb:Bool) (pa pb:Option Addr) (la ca lb cb:Nat) (w:World) (ha:NR w na pa la ca a) (hb:NR w nb pb lb cb b) (ra:a.right=true) (rb:b.right=true) (hn:a.neg ≠ neg) (hc:¬ val b.d<=val a.d) :
  Calls Tryz.prog 108 #[.agg #[.bool na,.slice pa la ca],.agg #[.bool nb,.slice pb lb cb],.bool neg] w (RetNum w (sumP a b neg)):=by
 have la64:=ha.len ra
 have lb64:=hb.len rb
 have hq:(na==neg)=false:=by rw [ha.1];simpa using hn
 have hlt:cmpL a.d b.d < 0:=by
  have h1:=cmp_ge ra rb ha.2.2.dig hb.2.2.dig
  rcases Int.lt_or_le (cmpL a.d b.d) 0 with h | h
  ·exact h
  ·exact absurd (h1.1 h) hc
 go_enter Tryz.func108,Tryz.ntmps108
 go_wp2_with fail
 refine (num_Right a _ _ _ _ _ (ha.ext bxx)).mono ?_
 rintro e w1 ⟨rfl,hx⟩
 rw [ra]
 have hx0:Ext w w1:=Ext.step bxx hx
 have hz_w1:w.heap.size+3<=w1.heap.size:=Nat.le_trans omm hx.size
 obtain ⟨hl_w1_0,hk_w1_0,hf_w1_0⟩:=extK hx (w.heap.size)
 obtain ⟨hl_w1_1,hk_w1_1,hf_w1_1⟩:=extK hx (w.heap.size+1)
 obtain ⟨hl_w1_2,hk_w1_2,hf_w1_2⟩:=extK hx (w.heap.size+2)
 go_wp2_with fail
 refine (num_Right b _ _ _ _ _ (hb.ext bxx)).mono ?_
 rintro e w2 ⟨rfl,hx2⟩
 rw [rb]
 have hx1:Ext w w2:=Ext.step hx0 hx2
 have hz_w2:w.heap.size+3<=w2.heap.size:=Nat.le_trans omm hx2.size
 obtain ⟨hl_w2_0,hk_w2_0,hf_w2_0⟩:=extK hx2 (w.heap.size)
 obtain ⟨hl_w2_1,hk_w2_1,hf_w2_1⟩:=extK hx2 (w.heap.size+1)
 obtain ⟨hl_w2_2,hk_w2_2,hf_w2_2⟩:=extK hx2 (w.heap.size+2)
 go_wp2_with fail
 refine (num_compare a.d b.d _ _ _ _ _ _ _ (ha.2.2.ext bxx) (hb.2.2.ext bxx) ha.2.1 hb.2.1).mono ?_
 rintro e w3 ⟨rfl,hx3⟩
 have hx4:Ext w w3:=Ext.step hx1 hx3
 have hz_w3:w.heap.size+3<=w3.heap.size:=Nat.le_trans omm hx3.size
 obtain ⟨hl_w3_0,hk_w3_0,hf_w3_0⟩:=extK hx3 (w.heap.size)
 obtain ⟨hl_w3_1,hk_w3_1,hf_w3_1⟩:=extK hx3 (w.heap.size+1)
 obtain ⟨hl_w3_2,hk_w3_2,hf_w3_2⟩:=extK hx3 (w.heap.size+2)
 go_wp2_with fail
 refine (num_minus b.d a.d _ _ _ _ _ _ _ (hb.2.2.ext bxx) (ha.2.2.ext bxx) hb.2.1 ha.2.1 (by omega) (by omega) (by omega)).mono ?_
 rintro e w4 ⟨o,p,c,rfl,hrow,hnew,hx5,hv⟩
 have hx6:Ext w w4:=Ext.step hx4 hx5
 have hz_w4:w.heap.size+3<=w4.heap.size:=Nat.le_trans omm hx5.size
 obtain ⟨hl_w4_0,hk_w4_0,hf_w4_0⟩:=extK hx5 (w.heap.size)
 obtain ⟨hl_w4_1,hk_w4_1,hf_w4_1⟩:=extK hx5 (w.heap.size+1)
 obtain ⟨hl_w4_2,hk_w4_2,hf_w4_2⟩:=extK hx5 (w.heap.size+2)
 have SP:=Lib.hid (sumP_other ra rb hn (by omega) hv)
 clear hv
 go_wp2_with fail
 refine (num_made neg o _ _ _ _ hrow rfl).mono ?_
 rintro e w6 ⟨n',p',l',c',rfl,hnr,hnew',hx7⟩
 rw [SP.out] at hnr ⊢
 have hx8:Ext w w6:=Ext.step hx6 hx7
 have hz_w6:w.heap.size+3<=w6.heap.size:=Nat.le_trans omm hx7.size
 obtain ⟨hl_w6_0,hk_w6_0,hf_w6_0⟩:=extK hx7 (w.heap.size)
 obtain ⟨hl_w6_1,hk_w6_1,hf_w6_1⟩:=extK hx7 (w.heap.size+1)
 obtain ⟨hl_w6_2,hk_w6_2,hf_w6_2⟩:=extK hx7 (w.heap.size+2)
 go_wp2_with fail
 refine bodyPost_ret (v:=.tuple #[.agg #[.bool n',.slice p' l' c'],.bool (sumP a b neg).2]) (by simp [results,Tryz.results108,go_sem, *]) rfl ?_
 exact ⟨n',p',l',c',rfl,⟨hnr.1,hnr.2.1,hnr.2.2.set hnew' _ (by simp;omega) _ |>.set hnew' _ (by simp;omega) _⟩,hnew'.mono (by omega),bxx⟩
theorem num_sum (a b:Nm) (neg na nb:Bool) (pa pb:Option Addr) (la ca lb cb:Nat) (w:World) (ha:NR w na pa la ca a) (hb:NR w nb pb lb cb b) :
  Calls Tryz.prog 108 #[.agg #[.bool na,.slice pa la ca],.agg #[.bool nb,.slice pb lb cb],.bool neg] w (RetNum w (sumP a b neg)):=by
 by_cases ra:a.right=true
 ·by_cases rb : b.right = true
  ·by_cases hn : a.neg = neg
   ·exact sum_same a b neg na nb pa pb la ca lb cb w ha hb ra rb hn
   ·by_cases hc : val b.d <= val a.d
    ·exact sum_minus a b neg na nb pa pb la ca lb cb w ha hb ra rb hn hc
    ·exact sum_other a b neg na nb pa pb la ca lb cb w ha hb ra rb hn hc
  ·have rb : b.right = false := by simpa using rb
   have S:=Lib.hid (sumP_right (a:=a) (neg:=neg) rb)
   go_enter Tryz.func108,Tryz.ntmps108
   go_wp2_with fail
   refine (num_Right a _ _ _ _ _ (ha.ext bxx)).mono ?_
   rintro e w1 ⟨rfl,hx⟩
   rw [ra]
   have hx0:Ext w w1:=Ext.step bxx hx
   have hz_w1:w.heap.size+3<=w1.heap.size:=Nat.le_trans omm hx.size
   obtain ⟨hl_w1_0,hk_w1_0,hf_w1_0⟩:=extK hx (w.heap.size)
   obtain ⟨hl_w1_1,hk_w1_1,hf_w1_1⟩:=extK hx (w.heap.size+1)
   obtain ⟨hl_w1_2,hk_w1_2,hf_w1_2⟩:=extK hx (w.heap.size+2)
   go_wp2_with fail
   refine (num_Right b _ _ _ _ _ (hb.ext bxx)).mono ?_
   rintro e w2 ⟨rfl,hx2⟩
   rw [rb]
   have hx1:Ext w w2:=Ext.step hx0 hx2
   have hz_w2:w.heap.size+3<=w2.heap.size:=Nat.le_trans omm hx2.size
   obtain ⟨hl_w2_0,hk_w2_0,hf_w2_0⟩:=extK hx2 (w.heap.size)
   obtain ⟨hl_w2_1,hk_w2_1,hf_w2_1⟩:=extK hx2 (w.heap.size+1)
   obtain ⟨hl_w2_2,hk_w2_2,hf_w2_2⟩:=extK hx2 (w.heap.size+2)
   go_wp2_with fail
   refine bodyPost_ret (v:=.tuple #[.agg #[.bool false,.slice none 0 0],.bool false]) (by simp [results,Tryz.results108,go_sem, *]) rfl ?_
   rw [S.out]
   exact ⟨false,none,0,0,rfl,⟨rfl,rfl,Row.nil _⟩,New.none _,bxx⟩
 ·have ra : a.right = false := by simpa using ra
  have S:=Lib.hid (sumP_left (b:=b) (neg:=neg) ra)
  go_enter Tryz.func108,Tryz.ntmps108
  go_wp2_with fail
  refine (num_Right a _ _ _ _ _ (ha.ext bxx)).mono ?_
  rintro e w1 ⟨rfl,hx⟩
  rw [ra]
  have hx0:Ext w w1:=Ext.step bxx hx
  have hz_w1:w.heap.size+3<=w1.heap.size:=Nat.le_trans omm hx.size
  obtain ⟨hl_w1_0,hk_w1_0,hf_w1_0⟩:=extK hx (w.heap.size)
  obtain ⟨hl_w1_1,hk_w1_1,hf_w1_1⟩:=extK hx (w.heap.size+1)
  obtain ⟨hl_w1_2,hk_w1_2,hf_w1_2⟩:=extK hx (w.heap.size+2)
  go_wp2_with fail
  refine bodyPost_ret (v:=.tuple #[.agg #[.bool false,.slice none 0 0],.bool false]) (by simp [results,Tryz.results108,go_sem, *]) rfl ?_
  rw [S.out]
  exact ⟨false,none,0,0,rfl,⟨rfl,rfl,Row.nil _⟩,New.none _,bxx⟩
end

set_option maxHeartbeats 1000000
set_option maxRecDepth 100000
section
open Go.RowKit
theorem sumP_sub (a b:Nm):sumP a b (!b.neg)=subP a b:=by
 unfold sumP subP
 have e:(if (!b.neg)=true then -(val b.d:Int) else (val b.d:Int)) = -b.z:=by
  unfold Nm.z
  cases b.neg<;>simp
 rw [e]
 rfl
theorem sumP_add (a b:Nm):sumP a b b.neg=addP a b:=rfl
theorem NR.set {w w0:World} {n:Bool} {p:Option Addr} {l c:Nat} {a:Nm} (h:NR w n p l c a) (hn:New w0 p) (x:Addr) (hx:x.block < w0.heap.size) (v:Value):NR (w.setCell x v) n p l c a :=
 ⟨h.1,h.2.1,h.2.2.set hn x hx v⟩
theorem num_Sub (a b:Nm) (na nb:Bool) (pa pb:Option Addr) (la ca lb cb:Nat) (w:World) (ha:NR w na pa la ca a) (hb:NR w nb pb lb cb b) :
  Calls Tryz.prog 240 #[.agg #[.bool na,.slice pa la ca],.agg #[.bool nb,.slice pb lb cb]] w (RetNum w (subP a b)):=by
 have S:=Lib.hid (sumP_sub a b)
 have hn1:=hb.1
 subst hn1
 go_enter Tryz.func240,Tryz.ntmps240
 go_wp2_with fail
 refine (num_sum a b _ _ _ _ _ _ _ _ _ _ (ha.ext bxx) (hb.ext bxx)).mono ?_
 rintro e w1 ⟨n',p',l',c',rfl,hnr,hnew,hx⟩
 rw [S.out] at hnr ⊢
 have hx0:Ext w w1:=Ext.step bxx hx
 have hz_w1:w.heap.size+3<=w1.heap.size:=Nat.le_trans omm hx.size
 obtain ⟨hl_w1_0,hk_w1_0,hf_w1_0⟩:=extK hx (w.heap.size)
 obtain ⟨hl_w1_1,hk_w1_1,hf_w1_1⟩:=extK hx (w.heap.size+1)
 obtain ⟨hl_w1_2,hk_w1_2,hf_w1_2⟩:=extK hx (w.heap.size+2)
 go_wp2_with fail
 refine bodyPost_ret (v:=.tuple #[.agg #[.bool n',.slice p' l' c'],.bool (subP a b).2]) (by simp [results,Tryz.results240,go_sem, *]) rfl ?_
 exact ⟨n',p',l',c',rfl,(hnr.set hnew _ (by simp) _).set hnew _ (by simp) _,hnew.mono (by simp;omega),bxx⟩
theorem num_Add (a b:Nm) (na nb:Bool) (pa pb:Option Addr) (la ca lb cb:Nat) (w:World) (ha:NR w na pa la ca a) (hb:NR w nb pb lb cb b) :
  Calls Tryz.prog 64 #[.agg #[.bool na,.slice pa la ca],.agg #[.bool nb,.slice pb lb cb]] w (RetNum w (addP a b)):=by
 have S:=Lib.hid (sumP_add a b)
 have hn1:=hb.1
 subst hn1
 go_enter Tryz.func64,Tryz.ntmps64
 go_wp2_with fail
 refine (num_sum a b _ _ _ _ _ _ _ _ _ _ (ha.ext bxx) (hb.ext bxx)).mono ?_
 rintro e w1 ⟨n',p',l',c',rfl,hnr,hnew,hx⟩
 rw [S.out] at hnr ⊢
 have hx0:Ext w w1:=Ext.step bxx hx
 have hz_w1:w.heap.size+3<=w1.heap.size:=Nat.le_trans omm hx.size
 obtain ⟨hl_w1_0,hk_w1_0,hf_w1_0⟩:=extK hx (w.heap.size)
 obtain ⟨hl_w1_1,hk_w1_1,hf_w1_1⟩:=extK hx (w.heap.size+1)
 obtain ⟨hl_w1_2,hk_w1_2,hf_w1_2⟩:=extK hx (w.heap.size+2)
 go_wp2_with fail
 refine bodyPost_ret (v:=.tuple #[.agg #[.bool n',.slice p' l' c'],.bool (addP a b).2]) (by simp [results,Tryz.results64,go_sem, *]) rfl ?_
 exact ⟨n',p',l',c',rfl,(hnr.set hnew _ (by simp) _).set hnew _ (by simp) _,hnew.mono (by simp;omega),bxx⟩
theorem cmpP_none {a b:Nm} (h:a.right=false\/b.right=false):cmpP a b=0:=by
 unfold cmpP
 rcases h with h | h<;>simp [h]
theorem cmpP_negs {a b:Nm} (ra:a.right=true) (rb:b.right=true) (da:Dig a.d) (db:Dig b.d) (ha:a.neg=true) (hb:b.neg=true):cmpP a b=cmpL b.d a.d:=by
 rw [cmpL_tight db da (b.right_iff.1 rb).2.1 (a.right_iff.1 ra).2.1,cmpP,ra,rb,Nm.z,Nm.z,ha,hb]
 unfold cmpZ cmpN
 simp only [Bool.and_self,↓reduceIte]
 repeat' split
 all_goals omega
theorem val_pos_of_neg {a:Nm} (ra:a.right=true) (da:Dig a.d) (ha:a.neg=true):0 < val a.d:=by
 rcases Nat.eq_zero_or_pos (val a.d) with h | h
 ·have hd := digs_val da (a.right_iff.1 ra).2.1
  rw [h,digs_zero] at hd
  have:=(a.right_iff.1 ra).2.2 hd.symm
  rw [ha] at this
  cases this
 ·exact h
theorem cmpP_less {a b:Nm} (ra:a.right=true) (rb:b.right=true) (da:Dig a.d) (ha:a.neg=true) (hb:b.neg=false):cmpP a b = -1:=by
 have h0:=val_pos_of_neg ra da ha
 rw [cmpP,ra,rb,Nm.z,Nm.z,ha,hb]
 unfold cmpZ
 simp only [Bool.and_self,↓reduceIte]
 rw [if_pos (by simp;omega)]
theorem cmpP_more {a b:Nm} (ra:a.right=true) (rb:b.right=true) (db:Dig b.d) (ha:a.neg=false) (hb:b.neg=true):cmpP a b=1:=by
 have h0:=val_pos_of_neg rb db hb
 rw [cmpP,ra,rb,Nm.z,Nm.z,ha,hb]
 unfold cmpZ
 simp only [Bool.and_self,↓reduceIte]
 rw [if_neg (by first | (simp;done) | (simp;omega)),if_neg (by first | (simp;done) | (simp;omega))]
theorem cmpP_pos {a b:Nm} (ra:a.right=true) (rb:b.right=true) (da:Dig a.d) (db:Dig b.d) (ha:a.neg=false) (hb:b.neg=false):cmpP a b=cmpL a.d b.d:=by
 rw [cmpL_tight da db (a.right_iff.1 ra).2.1 (b.right_iff.1 rb).2.1,cmpP,ra,rb,Nm.z,Nm.z,ha,hb]
 unfold cmpZ cmpN
 simp only [Bool.and_self,↓reduceIte,Bool.false_eq_true]
 repeat' split
 all_goals omega
theorem num_Cmp (a b:Nm) (na nb:Bool) (pa pb:Option Addr) (la ca lb cb:Nat) (w:World) (ha:NR w na pa la ca a) (hb:NR w nb pb lb cb b) :
  Calls Tryz.prog 56 #[.agg #[.bool na,.slice pa la ca],.agg #[.bool nb,.slice pb lb cb]] w fun e w'=>e=.returned (.int .i64 (cmpP a b))/\Ext w w':=by
 by_cases ra:a.right=true
 ·by_cases rb : b.right = true
  ·have n1 := ha.1
   have n2:=hb.1
   have da:=ha.2.2.dig
   have db:=hb.2.2.dig
   cases h1:a.neg<;>cases h2:b.neg<;>rw [h1] at n1<;>rw [h2] at n2<;>subst n1 n2
   ·have S := Lib.hid (cmpP_pos ra rb da db h1 h2)
    clear h1 h2
    go_enter Tryz.func56,Tryz.ntmps56
    go_wp2_with fail
    refine (num_Right a _ _ _ _ _ (ha.ext bxx)).mono ?_
    rintro e w1 ⟨rfl,hx⟩
    rw [ra]
    have hx0:Ext w w1:=Ext.step bxx hx
    have hz_w1:w.heap.size+2<=w1.heap.size:=Nat.le_trans omm hx.size
    obtain ⟨hl_w1_0,hk_w1_0,hf_w1_0⟩:=extK hx (w.heap.size)
    obtain ⟨hl_w1_1,hk_w1_1,hf_w1_1⟩:=extK hx (w.heap.size+1)
    go_wp2_with fail
    refine (num_Right b _ _ _ _ _ (hb.ext bxx)).mono ?_
    rintro e w2 ⟨rfl,hx2⟩
    rw [rb]
    have hx1:Ext w w2:=Ext.step hx0 hx2
    have hz_w2:w.heap.size+2<=w2.heap.size:=Nat.le_trans omm hx2.size
    obtain ⟨hl_w2_0,hk_w2_0,hf_w2_0⟩:=extK hx2 (w.heap.size)
    obtain ⟨hl_w2_1,hk_w2_1,hf_w2_1⟩:=extK hx2 (w.heap.size+1)
    go_wp2_with fail
    refine (num_compare a.d b.d _ _ _ _ _ _ _ (ha.2.2.ext bxx) (hb.2.2.ext bxx) ha.2.1 hb.2.1).mono ?_
    rintro e w3 ⟨rfl,hx3⟩
    have hx4:Ext w w3:=Ext.step hx1 hx3
    go_wp2
    go_ret
    exact ⟨by rw [S.out];rfl,hx4⟩
   ·have S := Lib.hid (cmpP_more ra rb db h1 h2)
    clear h1 h2
    go_enter Tryz.func56,Tryz.ntmps56
    go_wp2_with fail
    refine (num_Right a _ _ _ _ _ (ha.ext bxx)).mono ?_
    rintro e w1 ⟨rfl,hx⟩
    rw [ra]
    have hx0:Ext w w1:=Ext.step bxx hx
    have hz_w1:w.heap.size+2<=w1.heap.size:=Nat.le_trans omm hx.size
    obtain ⟨hl_w1_0,hk_w1_0,hf_w1_0⟩:=extK hx (w.heap.size)
    obtain ⟨hl_w1_1,hk_w1_1,hf_w1_1⟩:=extK hx (w.heap.size+1)
    go_wp2_with fail
    refine (num_Right b _ _ _ _ _ (hb.ext bxx)).mono ?_
    rintro e w2 ⟨rfl,hx2⟩
    rw [rb]
    have hx1:Ext w w2:=Ext.step hx0 hx2
    have hz_w2:w.heap.size+2<=w2.heap.size:=Nat.le_trans omm hx2.size
    obtain ⟨hl_w2_0,hk_w2_0,hf_w2_0⟩:=extK hx2 (w.heap.size)
    obtain ⟨hl_w2_1,hk_w2_1,hf_w2_1⟩:=extK hx2 (w.heap.size+1)
    go_wp2
    go_ret
    exact ⟨by rw [S.out];rfl,hx1⟩
   ·have S := Lib.hid (cmpP_less ra rb da h1 h2)
    clear h1 h2
    go_enter Tryz.func56,Tryz.ntmps56
    go_wp2_with fail
    refine (num_Right a _ _ _ _ _ (ha.ext bxx)).mono ?_
    rintro e w1 ⟨rfl,hx⟩
    rw [ra]
    have hx0:Ext w w1:=Ext.step bxx hx
    have hz_w1:w.heap.size+2<=w1.heap.size:=Nat.le_trans omm hx.size
    obtain ⟨hl_w1_0,hk_w1_0,hf_w1_0⟩:=extK hx (w.heap.size)
    obtain ⟨hl_w1_1,hk_w1_1,hf_w1_1⟩:=extK hx (w.heap.size+1)
    go_wp2_with fail
    refine (num_Right b _ _ _ _ _ (hb.ext bxx)).mono ?_
    rintro e w2 ⟨rfl,hx2⟩
    rw [rb]
    have hx1:Ext w w2:=Ext.step hx0 hx2
    have hz_w2:w.heap.size+2<=w2.heap.size:=Nat.le_trans omm hx2.size
    obtain ⟨hl_w2_0,hk_w2_0,hf_w2_0⟩:=extK hx2 (w.heap.size)
    obtain ⟨hl_w2_1,hk_w2_1,hf_w2_1⟩:=extK hx2 (w.heap.size+1)
    go_wp2
    go_ret
    exact ⟨by rw [S.out];rfl,hx1⟩
   ·have S := Lib.hid (cmpP_negs ra rb da db h1 h2)
    clear h1 h2
    go_enter Tryz.func56,Tryz.ntmps56
    go_wp2_with fail
    refine (num_Right a _ _ _ _ _ (ha.ext bxx)).mono ?_
    rintro e w1 ⟨rfl,hx⟩
    rw [ra]
    have hx0:Ext w w1:=Ext.step bxx hx
    have hz_w1:w.heap.size+2<=w1.heap.size:=Nat.le_trans omm hx.size
    obtain ⟨hl_w1_0,hk_w1_0,hf_w1_0⟩:=extK hx (w.heap.size)
    obtain ⟨hl_w1_1,hk_w1_1,hf_w1_1⟩:=extK hx (w.heap.size+1)
    go_wp2_with fail
    refine (num_Right b _ _ _ _ _ (hb.ext bxx)).mono ?_
    rintro e w2 ⟨rfl,hx2⟩
    rw [rb]
    have hx1:Ext w w2:=Ext.step hx0 hx2
    have hz_w2:w.heap.size+2<=w2.heap.size:=Nat.le_trans omm hx2.size
    obtain ⟨hl_w2_0,hk_w2_0,hf_w2_0⟩:=extK hx2 (w.heap.size)
    obtain ⟨hl_w2_1,hk_w2_1,hf_w2_1⟩:=extK hx2 (w.heap.size+1)
    go_wp2_with fail
    refine (num_compare b.d a.d _ _ _ _ _ _ _ (hb.2.2.ext bxx) (ha.2.2.ext bxx) hb.2.1 ha.2.1).mono ?_
    rintro e w3 ⟨rfl,hx3⟩
    have hx4:Ext w w3:=Ext.step hx1 hx3
    go_wp2
    go_ret
    exact ⟨by rw [S.out];rfl,hx4⟩
  ·have rb : b.right = false := by simpa using rb
   have S:=Lib.hid (cmpP_none (a:=a) (.inr rb))
   go_enter Tryz.func56,Tryz.ntmps56
   go_wp2_with fail
   refine (num_Right a _ _ _ _ _ (ha.ext bxx)).mono ?_
   rintro e w1 ⟨rfl,hx⟩
   rw [ra]
   have hx0:Ext w w1:=Ext.step bxx hx
   have hz_w1:w.heap.size+2<=w1.heap.size:=Nat.le_trans omm hx.size
   obtain ⟨hl_w1_0,hk_w1_0,hf_w1_0⟩:=extK hx (w.heap.size)
   obtain ⟨hl_w1_1,hk_w1_1,hf_w1_1⟩:=extK hx (w.heap.size+1)
   go_wp2_with fail
   refine (num_Right b _ _ _ _ _ (hb.ext bxx)).mono ?_
   rintro e w2 ⟨rfl,hx2⟩
   rw [rb]
   have hx1:Ext w w2:=Ext.step hx0 hx2
   have hz_w2:w.heap.size+2<=w2.heap.size:=Nat.le_trans omm hx2.size
   obtain ⟨hl_w2_0,hk_w2_0,hf_w2_0⟩:=extK hx2 (w.heap.size)
   obtain ⟨hl_w2_1,hk_w2_1,hf_w2_1⟩:=extK hx2 (w.heap.size+1)
   go_wp2
   go_ret
   exact ⟨by rw [S.out];rfl,hx1⟩
 ·have ra : a.right = false := by simpa using ra
  have S:=Lib.hid (cmpP_none (b:=b) (.inl ra))
  go_enter Tryz.func56,Tryz.ntmps56
  go_wp2_with fail
  refine (num_Right a _ _ _ _ _ (ha.ext bxx)).mono ?_
  rintro e w1 ⟨rfl,hx⟩
  rw [ra]
  have hx0:Ext w w1:=Ext.step bxx hx
  have hz_w1:w.heap.size+2<=w1.heap.size:=Nat.le_trans omm hx.size
  obtain ⟨hl_w1_0,hk_w1_0,hf_w1_0⟩:=extK hx (w.heap.size)
  obtain ⟨hl_w1_1,hk_w1_1,hf_w1_1⟩:=extK hx (w.heap.size+1)
  go_wp2
  go_ret
  exact ⟨by rw [S.out];rfl,hx0⟩
end

set_option maxHeartbeats 1000000
set_option maxRecDepth 100000
section
open Go.RowKit
def RetN (w:World) (a:Nm) (e:Ending) (w':World):Prop :=
 ∃ n p l c,e=.returned (.agg #[.bool n,.slice p l c])/\NR w' n p l c a/\New w p/\Ext w w'
theorem made_of (n:Int) (lo hi:Nat) (neg:Bool) (hn:neg=decide (n < 0)) (hv:lo+4294967296*hi=n.natAbs) (hs:n.natAbs < 4294967296 ^ 64):madeP neg [lo,hi]=(ofZ n,true):=by
 rw [madeP_fit]
 have e:(if neg=true then -(val [lo,hi]:Int) else (val [lo,hi]:Int))=n:=by
  have:val [lo,hi]=n.natAbs:=by simp [val];omega
  rw [this,hn]
  simp only [decide_eq_true_eq]
  split<;>omega
 rw [e,fit,small,if_pos (by simpa using hs)]
theorem row_two (W:World) (x y:Int) (lo hi B:Nat) (T:TypeId) (hx:x=(lo:Int)) (hy:y=(hi:Int)) (h1:lo < 4294967296) (h2:hi < 4294967296) (hB:B=W.heap.size) :
  Row (W.alloc (.cells #[.int .u32 x,.int .u32 y] T)) (some ⟨B,0,none⟩) 2 [lo,hi]:=by
 subst hx hy hB
 refine ⟨by simp,by omega,Dig.cons h1 (Dig.cons h2 Dig.nil),fun _=>⟨_,0,rfl,by simp,fun i hi'=>?_⟩⟩
 have h:=heap_alloc_new W (.cells #[.int .u32 (lo:Int),.int .u32 (hi:Int)] T)
 rw [cell_of_row _ _ (0+i) _ _ _ h]
 simp only [List.length_cons,List.length_nil] at hi'
 match i,hi' with
 | 0,_=>rfl
 | 1,_=>rfl
theorem num_Of (n:Int) (w:World) (h1 : -9223372036854775808<=n) (h2:n<=9223372036854775807) :
  Calls Tryz.prog 53 #[.int .i64 n] w (RetN w (ofZ n)):=by
 have hp:(18446744073709551616:Nat)<=4294967296 ^ 64:=Nat.le_trans (by decide) (Nat.pow_le_pow_right (n:=4294967296) (i:=2) (by decide) (by decide))
 have HS:Hid (n.natAbs < 4294967296 ^ 64):=Nat.lt_of_lt_of_le (show n.natAbs < 18446744073709551616 by omega) hp
 clear hp
 by_cases hn:n < 0
 ·go_enter Tryz.func53, Tryz.ntmps53
  go_wp2_with fail
  have e0:IntKind.u64.wrap n=n+18446744073709551616:=u64_neg _ (by omega)
  have e1:IntKind.u64.wrap (-(n+18446744073709551616)) = -n:=by rw [u64_neg _ (by omega)];omega
  rw [e0,e1]
  clear e0 e1
  have M:=Lib.hid (made_of n (n.natAbs % 4294967296) (n.natAbs / 4294967296) true (by simp [hn]) (by omega) HS.out)
  refine (num_made true [n.natAbs % 4294967296,n.natAbs / 4294967296] _ _ _ _ (row_two _ _ _ _ _ _ _ (by omega) (by omega) (by omega) (by omega) (by simp)) rfl).mono ?_
  rintro e w1 ⟨n',p',l',c',rfl,hnr,hnew,hx⟩
  rw [M.out] at hnr ⊢
  have hx0:Ext w w1:=Ext.step bxx hx
  have hz_w1:w.heap.size+2<=w1.heap.size:=Nat.le_trans omm hx.size
  obtain ⟨hl_w1_0,hk_w1_0,hf_w1_0⟩:=extK hx (w.heap.size)
  obtain ⟨hl_w1_1,hk_w1_1,hf_w1_1⟩:=extK hx (w.heap.size+1)
  go_wp2
  refine bodyPost_ret (v:=.agg #[.bool n',.slice p' l' c']) (by simp [results,Tryz.results53,go_sem, *]) rfl ?_
  exact ⟨n',p',l',c',rfl,(by repeat (first | assumption | refine NR.set ?_ (by assumption) _ (by first | (simp;done) | (simp;omega) | omega) _ | refine NR.alloc ?_ _)),hnew.mono (by simp;omega),bxx⟩
 ·go_enter Tryz.func53, Tryz.ntmps53
  go_wp2_with fail
  have M:=Lib.hid (made_of n (n.natAbs % 4294967296) (n.natAbs / 4294967296) false (by simp [hn]) (by omega) HS.out)
  refine (num_made false [n.natAbs % 4294967296,n.natAbs / 4294967296] _ _ _ _ (row_two _ _ _ _ _ _ _ (by omega) (by omega) (by omega) (by omega) (by simp)) rfl).mono ?_
  rintro e w1 ⟨n',p',l',c',rfl,hnr,hnew,hx⟩
  rw [M.out] at hnr ⊢
  have hx0:Ext w w1:=Ext.step bxx hx
  have hz_w1:w.heap.size+2<=w1.heap.size:=Nat.le_trans omm hx.size
  obtain ⟨hl_w1_0,hk_w1_0,hf_w1_0⟩:=extK hx (w.heap.size)
  obtain ⟨hl_w1_1,hk_w1_1,hf_w1_1⟩:=extK hx (w.heap.size+1)
  go_wp2
  refine bodyPost_ret (v:=.agg #[.bool n',.slice p' l' c']) (by simp [results,Tryz.results53,go_sem, *]) rfl ?_
  exact ⟨n',p',l',c',rfl,(by repeat (first | assumption | refine NR.set ?_ (by assumption) _ (by first | (simp;done) | (simp;omega) | omega) _ | refine NR.alloc ?_ _)),hnew.mono (by simp;omega),bxx⟩
theorem r01_Of (n:Int) (w:World) (h1 : -9223372036854775808<=n) (h2:n<=9223372036854775807) :
  Calls Tryz.prog 79 #[.int .i64 n] w (RetN w (ofZ n)):=by
 have hp:(18446744073709551616:Nat)<=4294967296 ^ 64:=Nat.le_trans (by decide) (Nat.pow_le_pow_right (n:=4294967296) (i:=2) (by decide) (by decide))
 have HS:Hid (n.natAbs < 4294967296 ^ 64):=Nat.lt_of_lt_of_le (show n.natAbs < 18446744073709551616 by omega) hp
 clear hp
 by_cases hn:n < 0
 ·go_enter Tryz.func79, Tryz.ntmps79
  go_wp2_with fail
  have e0:IntKind.u64.wrap n=n+18446744073709551616:=u64_neg _ (by omega)
  have e1:IntKind.u64.wrap (-(n+18446744073709551616)) = -n:=by rw [u64_neg _ (by omega)];omega
  rw [e0,e1]
  clear e0 e1
  have M:=Lib.hid (made_of n (n.natAbs % 4294967296) (n.natAbs / 4294967296) true (by simp [hn]) (by omega) HS.out)
  refine (r01_made true [n.natAbs % 4294967296,n.natAbs / 4294967296] _ _ _ _ (row_two _ _ _ _ _ _ _ (by omega) (by omega) (by omega) (by omega) (by simp)) rfl).mono ?_
  rintro e w1 ⟨n',p',l',c',rfl,hnr,hnew,hx⟩
  rw [M.out] at hnr ⊢
  have hx0:Ext w w1:=Ext.step bxx hx
  have hz_w1:w.heap.size+2<=w1.heap.size:=Nat.le_trans omm hx.size
  obtain ⟨hl_w1_0,hk_w1_0,hf_w1_0⟩:=extK hx (w.heap.size)
  obtain ⟨hl_w1_1,hk_w1_1,hf_w1_1⟩:=extK hx (w.heap.size+1)
  go_wp2
  refine bodyPost_ret (v:=.agg #[.bool n',.slice p' l' c']) (by simp [results,Tryz.results79,go_sem, *]) rfl ?_
  exact ⟨n',p',l',c',rfl,(by repeat (first | assumption | refine NR.set ?_ (by assumption) _ (by first | (simp;done) | (simp;omega) | omega) _ | refine NR.alloc ?_ _)),hnew.mono (by simp;omega),bxx⟩
 ·go_enter Tryz.func79, Tryz.ntmps79
  go_wp2_with fail
  have M:=Lib.hid (made_of n (n.natAbs % 4294967296) (n.natAbs / 4294967296) false (by simp [hn]) (by omega) HS.out)
  refine (r01_made false [n.natAbs % 4294967296,n.natAbs / 4294967296] _ _ _ _ (row_two _ _ _ _ _ _ _ (by omega) (by omega) (by omega) (by omega) (by simp)) rfl).mono ?_
  rintro e w1 ⟨n',p',l',c',rfl,hnr,hnew,hx⟩
  rw [M.out] at hnr ⊢
  have hx0:Ext w w1:=Ext.step bxx hx
  have hz_w1:w.heap.size+2<=w1.heap.size:=Nat.le_trans omm hx.size
  obtain ⟨hl_w1_0,hk_w1_0,hf_w1_0⟩:=extK hx (w.heap.size)
  obtain ⟨hl_w1_1,hk_w1_1,hf_w1_1⟩:=extK hx (w.heap.size+1)
  go_wp2
  refine bodyPost_ret (v:=.agg #[.bool n',.slice p' l' c']) (by simp [results,Tryz.results79,go_sem, *]) rfl ?_
  exact ⟨n',p',l',c',rfl,(by repeat (first | assumption | refine NR.set ?_ (by assumption) _ (by first | (simp;done) | (simp;omega) | omega) _ | refine NR.alloc ?_ _)),hnew.mono (by simp;omega),bxx⟩
end
end Go.Proofs.YtceemiodpccbhaaGreat
