/- Contract: etchantref01.Div, a rest under a minus. (Printed by gen_rdiv.py out of the texts on num.Div.) | Contract: etchantref01.Div, all numbers. (Printed by gen_rdiv.py out of the texts on num.Div.) | Contract: etchantref01.Div, all numbers. | The rule for statements whose order Go leaves open, in two parts: what a later part stores, an earlier part may have loaded (each operation of the later part waits for all of the earlier one). No program in sight. -/
import Derived.Test.YtdaaknfmodbjcaaDoorJ26
import Derived.Test.YtdaaknfmodbjcaaDoorJ10
import Derived.Test.YtdaaknfmodbjcaaDoorJ05
import Derived.Test.YtdaaknfmodbjcaaDoorJ11
import Derived.Test.YtdaaknfmodbjcaaDoorJ27
import Derived.Test.YtdaaknfmodbjcaaDoorJ07
set_option linter.unusedVariables false
set_option linter.unusedSimpArgs false

namespace Go.Proofs.YtdaaknfmodbjcaaDoor
open Go.RowKit
attribute [local go_sem] Gives givesU

set_option maxRecDepth 100000 in
set_option maxHeartbeats 4000000 in
theorem RDiv_neg (a b : Nm) (pa pb : Option Addr) (la ca lb cb : Nat) (w : World) (ha : NR w true pa la ca a) (hb : NR w false pb lb cb b) (ra : a.right = true) (rb : b.right = true) (hlb : 0 < lb) (dq dr : List Nat) (X Y : Nm)
    (DV : ∀ W, Ext w W → Calls Tryd.prog 32 #[.slice pa la ca, .slice pb lb cb] W (RetQR W dq dr)) (hs : 0 < dr.length) (hX : ∀ o : List Nat, val o = val dq + 1 → madeP true o = (X, true)) (hY : ∀ o : List Nat, val o = val b.d - val dr → madeP false o = (Y, true))
    (lq : dq.length ≤ 64) (lr : dr.length ≤ 64) (hle : val dr ≤ val b.d) (hbl : dr.length ≤ b.d.length) :
    Calls Tryd.prog 12 #[.agg #[.bool true, .slice pa la ca], .agg #[.bool false, .slice pb lb cb]] w (RetDiv w (X, Y, true)) := by
  have lb64 : b.d.length ≤ 64 := (b.right_iff.1 rb).1
  have PL := Lib.hid (fun p c g W (h : Row W p c dq) (k : Row W (some ⟨g, 0, none⟩) 1 [1]) => r01_plus dq [1] p (some ⟨g, 0, none⟩) dq.length c 1 1 W h k rfl rfl (by omega) (by simp))
  have MN := Lib.hid (fun p c W (k : Ext w W) (h : Row W p c dr) => r01_minus b.d dr pb p lb cb dr.length c W (hb.2.2.ext k) h hb.2.1 rfl (by omega) hbl hle)
  have RA := Lib.hid (fun w' (hx : Ext w w') => r01_Right a true pa la ca w' (ha.ext hx))
  have RB := Lib.hid (fun w' (hx : Ext w w') => r01_Right b false pb lb cb w' (hb.ext hx))
  rw [ra] at RA
  rw [rb] at RB
  have e0 : ((lb : Int) == 0) = false := by rw [beq_eq_false_iff_ne]; omega
  replace DV := Lib.hid DV
  clear hlb ra rb
  have MK1 := Lib.hid (fun o p c W (h : Row W p c o) (hv : val o = val dq + val [1]) => by have := r01_made true o p o.length c W h rfl; rw [hX o (by rw [hv, val_one])] at this; exact this)
  have MK2 := Lib.hid (fun o p c W (h : Row W p c o) (hv : val o = val b.d - val dr) => by have := r01_made false o p o.length c W h rfl; rw [hY o hv] at this; exact this)
  clear hX hY lq lr hle hbl lb64
  go_enter Tryd.func12, Tryd.ntmps12
  go_wp2_with fail
  refine (RA.out _ (by (repeat (first | exact Below.refl _ _ | assumption | refine Below.drewN ?_ _ | refine Below.drew ?_ | refine Below.setCell ?_ (by first | exact Nat.le_refl _ | (simp; done) | (simp; omega) | omega) _ | refine Below.alloc ?_ (by first | exact Nat.le_refl _ | (simp; done) | (simp; omega) | omega) _)))).mono ?_
  rintro e w1 ⟨rfl, hx⟩
  have hx0 : Ext w w1 := Ext.step (by (repeat (first | exact Below.refl _ _ | assumption | refine Below.drewN ?_ _ | refine Below.drew ?_ | refine Below.setCell ?_ (by first | exact Nat.le_refl _ | (simp; done) | (simp; omega) | omega) _ | refine Below.alloc ?_ (by first | exact Nat.le_refl _ | (simp; done) | (simp; omega) | omega) _))) hx
  have hz_w1 : w.heap.size + 4 ≤ w1.heap.size := Nat.le_trans (by first | omega | (simp; done) | (simp; omega)) hx.size
  have hl_w1_0 : w.heap.size < w1.heap.size := Nat.lt_of_lt_of_le (by omega) hz_w1
  have hk_w1_0 : ∀ o, w1.cell? ⟨w.heap.size, o, none⟩ = _ := fun o => hx.cell (p := ⟨w.heap.size, o, none⟩) (show w.heap.size < _ from (by first | omega | (simp; done) | (simp; omega)))
  have hf_w1_0 : ∀ o, w1.frozen? ⟨w.heap.size, o, none⟩ = _ := fun o => hx.frozen (p := ⟨w.heap.size, o, none⟩) (show w.heap.size < _ from (by first | omega | (simp; done) | (simp; omega)))
  have hl_w1_1 : w.heap.size + 1 < w1.heap.size := Nat.lt_of_lt_of_le (by omega) hz_w1
  have hk_w1_1 : ∀ o, w1.cell? ⟨w.heap.size + 1, o, none⟩ = _ := fun o => hx.cell (p := ⟨w.heap.size + 1, o, none⟩) (show w.heap.size + 1 < _ from (by first | omega | (simp; done) | (simp; omega)))
  have hf_w1_1 : ∀ o, w1.frozen? ⟨w.heap.size + 1, o, none⟩ = _ := fun o => hx.frozen (p := ⟨w.heap.size + 1, o, none⟩) (show w.heap.size + 1 < _ from (by first | omega | (simp; done) | (simp; omega)))
  have hl_w1_2 : w.heap.size + 2 < w1.heap.size := Nat.lt_of_lt_of_le (by omega) hz_w1
  have hk_w1_2 : ∀ o, w1.cell? ⟨w.heap.size + 2, o, none⟩ = _ := fun o => hx.cell (p := ⟨w.heap.size + 2, o, none⟩) (show w.heap.size + 2 < _ from (by first | omega | (simp; done) | (simp; omega)))
  have hf_w1_2 : ∀ o, w1.frozen? ⟨w.heap.size + 2, o, none⟩ = _ := fun o => hx.frozen (p := ⟨w.heap.size + 2, o, none⟩) (show w.heap.size + 2 < _ from (by first | omega | (simp; done) | (simp; omega)))
  have hl_w1_3 : w.heap.size + 3 < w1.heap.size := Nat.lt_of_lt_of_le (by omega) hz_w1
  have hk_w1_3 : ∀ o, w1.cell? ⟨w.heap.size + 3, o, none⟩ = _ := fun o => hx.cell (p := ⟨w.heap.size + 3, o, none⟩) (show w.heap.size + 3 < _ from (by first | omega | (simp; done) | (simp; omega)))
  have hf_w1_3 : ∀ o, w1.frozen? ⟨w.heap.size + 3, o, none⟩ = _ := fun o => hx.frozen (p := ⟨w.heap.size + 3, o, none⟩) (show w.heap.size + 3 < _ from (by first | omega | (simp; done) | (simp; omega)))
  go_wp2_with fail
  refine (RB.out _ (by (repeat (first | exact Below.refl _ _ | assumption | refine Below.drewN ?_ _ | refine Below.drew ?_ | refine Below.setCell ?_ (by first | exact Nat.le_refl _ | (simp; done) | (simp; omega) | omega) _ | refine Below.alloc ?_ (by first | exact Nat.le_refl _ | (simp; done) | (simp; omega) | omega) _)))).mono ?_
  rintro e w2 ⟨rfl, hx2⟩
  have hx1 : Ext w w2 := Ext.step (by (repeat (first | exact Below.refl _ _ | assumption | refine Below.drewN ?_ _ | refine Below.drew ?_ | refine Below.setCell ?_ (by first | exact Nat.le_refl _ | (simp; done) | (simp; omega) | omega) _ | refine Below.alloc ?_ (by first | exact Nat.le_refl _ | (simp; done) | (simp; omega) | omega) _))) hx2
  have hz_w2 : w.heap.size + 4 ≤ w2.heap.size := Nat.le_trans (by first | omega | (simp; done) | (simp; omega)) hx2.size
  have hl_w2_0 : w.heap.size < w2.heap.size := Nat.lt_of_lt_of_le (by omega) hz_w2
  have hk_w2_0 : ∀ o, w2.cell? ⟨w.heap.size, o, none⟩ = _ := fun o => hx2.cell (p := ⟨w.heap.size, o, none⟩) (show w.heap.size < _ from (by first | omega | (simp; done) | (simp; omega)))
  have hf_w2_0 : ∀ o, w2.frozen? ⟨w.heap.size, o, none⟩ = _ := fun o => hx2.frozen (p := ⟨w.heap.size, o, none⟩) (show w.heap.size < _ from (by first | omega | (simp; done) | (simp; omega)))
  have hl_w2_1 : w.heap.size + 1 < w2.heap.size := Nat.lt_of_lt_of_le (by omega) hz_w2
  have hk_w2_1 : ∀ o, w2.cell? ⟨w.heap.size + 1, o, none⟩ = _ := fun o => hx2.cell (p := ⟨w.heap.size + 1, o, none⟩) (show w.heap.size + 1 < _ from (by first | omega | (simp; done) | (simp; omega)))
  have hf_w2_1 : ∀ o, w2.frozen? ⟨w.heap.size + 1, o, none⟩ = _ := fun o => hx2.frozen (p := ⟨w.heap.size + 1, o, none⟩) (show w.heap.size + 1 < _ from (by first | omega | (simp; done) | (simp; omega)))
  have hl_w2_2 : w.heap.size + 2 < w2.heap.size := Nat.lt_of_lt_of_le (by omega) hz_w2
  have hk_w2_2 : ∀ o, w2.cell? ⟨w.heap.size + 2, o, none⟩ = _ := fun o => hx2.cell (p := ⟨w.heap.size + 2, o, none⟩) (show w.heap.size + 2 < _ from (by first | omega | (simp; done) | (simp; omega)))
  have hf_w2_2 : ∀ o, w2.frozen? ⟨w.heap.size + 2, o, none⟩ = _ := fun o => hx2.frozen (p := ⟨w.heap.size + 2, o, none⟩) (show w.heap.size + 2 < _ from (by first | omega | (simp; done) | (simp; omega)))
  have hl_w2_3 : w.heap.size + 3 < w2.heap.size := Nat.lt_of_lt_of_le (by omega) hz_w2
  have hk_w2_3 : ∀ o, w2.cell? ⟨w.heap.size + 3, o, none⟩ = _ := fun o => hx2.cell (p := ⟨w.heap.size + 3, o, none⟩) (show w.heap.size + 3 < _ from (by first | omega | (simp; done) | (simp; omega)))
  have hf_w2_3 : ∀ o, w2.frozen? ⟨w.heap.size + 3, o, none⟩ = _ := fun o => hx2.frozen (p := ⟨w.heap.size + 3, o, none⟩) (show w.heap.size + 3 < _ from (by first | omega | (simp; done) | (simp; omega)))
  go_wp2_with fail
  refine (DV.out _ (by (repeat (first | exact Below.refl _ _ | assumption | refine Below.drewN ?_ _ | refine Below.drew ?_ | refine Below.setCell ?_ (by first | exact Nat.le_refl _ | (simp; done) | (simp; omega) | omega) _ | refine Below.alloc ?_ (by first | exact Nat.le_refl _ | (simp; done) | (simp; omega) | omega) _)))).mono ?_
  rintro e w3 ⟨p, c, p2, c2, rfl, hq, hr, hx3⟩
  have hx4 : Ext w w3 := Ext.step (by (repeat (first | exact Below.refl _ _ | assumption | refine Below.drewN ?_ _ | refine Below.drew ?_ | refine Below.setCell ?_ (by first | exact Nat.le_refl _ | (simp; done) | (simp; omega) | omega) _ | refine Below.alloc ?_ (by first | exact Nat.le_refl _ | (simp; done) | (simp; omega) | omega) _))) hx3
  have hz_w3 : w.heap.size + 4 ≤ w3.heap.size := Nat.le_trans (by first | omega | (simp; done) | (simp; omega)) hx3.size
  have hl_w3_0 : w.heap.size < w3.heap.size := Nat.lt_of_lt_of_le (by omega) hz_w3
  have hk_w3_0 : ∀ o, w3.cell? ⟨w.heap.size, o, none⟩ = _ := fun o => hx3.cell (p := ⟨w.heap.size, o, none⟩) (show w.heap.size < _ from (by first | omega | (simp; done) | (simp; omega)))
  have hf_w3_0 : ∀ o, w3.frozen? ⟨w.heap.size, o, none⟩ = _ := fun o => hx3.frozen (p := ⟨w.heap.size, o, none⟩) (show w.heap.size < _ from (by first | omega | (simp; done) | (simp; omega)))
  have hl_w3_1 : w.heap.size + 1 < w3.heap.size := Nat.lt_of_lt_of_le (by omega) hz_w3
  have hk_w3_1 : ∀ o, w3.cell? ⟨w.heap.size + 1, o, none⟩ = _ := fun o => hx3.cell (p := ⟨w.heap.size + 1, o, none⟩) (show w.heap.size + 1 < _ from (by first | omega | (simp; done) | (simp; omega)))
  have hf_w3_1 : ∀ o, w3.frozen? ⟨w.heap.size + 1, o, none⟩ = _ := fun o => hx3.frozen (p := ⟨w.heap.size + 1, o, none⟩) (show w.heap.size + 1 < _ from (by first | omega | (simp; done) | (simp; omega)))
  have hl_w3_2 : w.heap.size + 2 < w3.heap.size := Nat.lt_of_lt_of_le (by omega) hz_w3
  have hk_w3_2 : ∀ o, w3.cell? ⟨w.heap.size + 2, o, none⟩ = _ := fun o => hx3.cell (p := ⟨w.heap.size + 2, o, none⟩) (show w.heap.size + 2 < _ from (by first | omega | (simp; done) | (simp; omega)))
  have hf_w3_2 : ∀ o, w3.frozen? ⟨w.heap.size + 2, o, none⟩ = _ := fun o => hx3.frozen (p := ⟨w.heap.size + 2, o, none⟩) (show w.heap.size + 2 < _ from (by first | omega | (simp; done) | (simp; omega)))
  have hl_w3_3 : w.heap.size + 3 < w3.heap.size := Nat.lt_of_lt_of_le (by omega) hz_w3
  have hk_w3_3 : ∀ o, w3.cell? ⟨w.heap.size + 3, o, none⟩ = _ := fun o => hx3.cell (p := ⟨w.heap.size + 3, o, none⟩) (show w.heap.size + 3 < _ from (by first | omega | (simp; done) | (simp; omega)))
  have hf_w3_3 : ∀ o, w3.frozen? ⟨w.heap.size + 3, o, none⟩ = _ := fun o => hx3.frozen (p := ⟨w.heap.size + 3, o, none⟩) (show w.heap.size + 3 < _ from (by first | omega | (simp; done) | (simp; omega)))
  obtain ⟨m, HM⟩ : ∃ m, Hid (dr.length = m) := ⟨_, rfl⟩
  obtain ⟨mq, HMQ⟩ : ∃ m, Hid (dq.length = m) := ⟨_, rfl⟩
  rw [HM.out] at hs ⊢
  rw [HMQ.out]
  rw [HM.out] at MN
  rw [HMQ.out] at PL
  go_wp2_with fail
  refine (PL.out p c _ _ (hq.ext (by (repeat (first | exact Below.refl _ _ | assumption | refine Below.drewN ?_ _ | refine Below.drew ?_ | refine Below.setCell ?_ (by first | exact Nat.le_refl _ | (simp; done) | (simp; omega) | omega) _ | refine Below.alloc ?_ (by first | exact Nat.le_refl _ | (simp; done) | (simp; omega) | omega) _)))) (row_one _ 1 _ _ (by decide) rfl)).mono ?_
  rintro e w3b ⟨q1, k1, rfl, hr1, _, hx3b⟩
  have hy1 : Ext w3 w3b := Ext.step (by (repeat (first | exact Below.refl _ _ | assumption | refine Below.drewN ?_ _ | refine Below.drew ?_ | refine Below.setCell ?_ (by first | exact Nat.le_refl _ | (simp; done) | (simp; omega) | omega) _ | refine Below.alloc ?_ (by first | exact Nat.le_refl _ | (simp; done) | (simp; omega) | omega) _))) hx3b
  have hz_w3b : w.heap.size + 4 ≤ w3b.heap.size := Nat.le_trans (by first | omega | (simp; done) | (simp; omega)) hy1.size
  have hl_w3b_0 : w.heap.size < w3b.heap.size := Nat.lt_of_lt_of_le (by omega) hz_w3b
  have hk_w3b_0 : ∀ o, w3b.cell? ⟨w.heap.size, o, none⟩ = _ := fun o => hy1.cell (p := ⟨w.heap.size, o, none⟩) (show w.heap.size < _ from (by first | omega | (simp; done) | (simp; omega)))
  have hf_w3b_0 : ∀ o, w3b.frozen? ⟨w.heap.size, o, none⟩ = _ := fun o => hy1.frozen (p := ⟨w.heap.size, o, none⟩) (show w.heap.size < _ from (by first | omega | (simp; done) | (simp; omega)))
  have hl_w3b_1 : w.heap.size + 1 < w3b.heap.size := Nat.lt_of_lt_of_le (by omega) hz_w3b
  have hk_w3b_1 : ∀ o, w3b.cell? ⟨w.heap.size + 1, o, none⟩ = _ := fun o => hy1.cell (p := ⟨w.heap.size + 1, o, none⟩) (show w.heap.size + 1 < _ from (by first | omega | (simp; done) | (simp; omega)))
  have hf_w3b_1 : ∀ o, w3b.frozen? ⟨w.heap.size + 1, o, none⟩ = _ := fun o => hy1.frozen (p := ⟨w.heap.size + 1, o, none⟩) (show w.heap.size + 1 < _ from (by first | omega | (simp; done) | (simp; omega)))
  have hl_w3b_2 : w.heap.size + 2 < w3b.heap.size := Nat.lt_of_lt_of_le (by omega) hz_w3b
  have hk_w3b_2 : ∀ o, w3b.cell? ⟨w.heap.size + 2, o, none⟩ = _ := fun o => hy1.cell (p := ⟨w.heap.size + 2, o, none⟩) (show w.heap.size + 2 < _ from (by first | omega | (simp; done) | (simp; omega)))
  have hf_w3b_2 : ∀ o, w3b.frozen? ⟨w.heap.size + 2, o, none⟩ = _ := fun o => hy1.frozen (p := ⟨w.heap.size + 2, o, none⟩) (show w.heap.size + 2 < _ from (by first | omega | (simp; done) | (simp; omega)))
  have hl_w3b_3 : w.heap.size + 3 < w3b.heap.size := Nat.lt_of_lt_of_le (by omega) hz_w3b
  have hk_w3b_3 : ∀ o, w3b.cell? ⟨w.heap.size + 3, o, none⟩ = _ := fun o => hy1.cell (p := ⟨w.heap.size + 3, o, none⟩) (show w.heap.size + 3 < _ from (by first | omega | (simp; done) | (simp; omega)))
  have hf_w3b_3 : ∀ o, w3b.frozen? ⟨w.heap.size + 3, o, none⟩ = _ := fun o => hy1.frozen (p := ⟨w.heap.size + 3, o, none⟩) (show w.heap.size + 3 < _ from (by first | omega | (simp; done) | (simp; omega)))
  obtain ⟨lq1, LQ1⟩ : ∃ x, Hid ((digs (val dq + val [1])).length = x) := ⟨_, rfl⟩
  rw [LQ1.out]
  go_wp2_with fail
  refine (MN.out p2 c2 _ (hx4.trans (hy1.mono hx4.size)) (hr.ext hy1)).mono ?_
  rintro e w4 ⟨q2, k2, rfl, hr2, _, hx4b⟩
  have hx9 : Ext w3 w4 := Ext.step hy1 hx4b
  have hx10 : Ext w w4 := Ext.step hx4 hx9
  obtain ⟨lq2, LQ2⟩ : ∃ x, Hid ((digs (val b.d - val dr)).length = x) := ⟨_, rfl⟩
  rw [LQ2.out]
  have R1 := Lib.hid (hr1.ext hx4b)
  have R2 := Lib.hid hr2
  obtain ⟨d1, HD1⟩ : ∃ x, Hid (digs (val dq + val [1]) = x) := ⟨_, rfl⟩
  obtain ⟨d2, HD2⟩ : ∃ x, Hid (digs (val b.d - val dr) = x) := ⟨_, rfl⟩
  have hv1 : val d1 = val dq + val [1] := by rw [← HD1.out, val_digs]
  have hv2 : val d2 = val b.d - val dr := by rw [← HD2.out, val_digs]
  rw [HD1.out] at R1 LQ1
  rw [HD2.out] at R2 LQ2
  rw [← LQ1.out, ← LQ2.out]
  clear hr1 hr2 hq hr hx3b hx4b hy1
  have hz_w4 : w.heap.size + 4 ≤ w4.heap.size := Nat.le_trans (by first | omega | (simp; done) | (simp; omega)) hx9.size
  have hl_w4_0 : w.heap.size < w4.heap.size := Nat.lt_of_lt_of_le (by omega) hz_w4
  have hk_w4_0 : ∀ o, w4.cell? ⟨w.heap.size, o, none⟩ = _ := fun o => hx9.cell (p := ⟨w.heap.size, o, none⟩) (show w.heap.size < _ from (by first | omega | (simp; done) | (simp; omega)))
  have hf_w4_0 : ∀ o, w4.frozen? ⟨w.heap.size, o, none⟩ = _ := fun o => hx9.frozen (p := ⟨w.heap.size, o, none⟩) (show w.heap.size < _ from (by first | omega | (simp; done) | (simp; omega)))
  have hl_w4_1 : w.heap.size + 1 < w4.heap.size := Nat.lt_of_lt_of_le (by omega) hz_w4
  have hk_w4_1 : ∀ o, w4.cell? ⟨w.heap.size + 1, o, none⟩ = _ := fun o => hx9.cell (p := ⟨w.heap.size + 1, o, none⟩) (show w.heap.size + 1 < _ from (by first | omega | (simp; done) | (simp; omega)))
  have hf_w4_1 : ∀ o, w4.frozen? ⟨w.heap.size + 1, o, none⟩ = _ := fun o => hx9.frozen (p := ⟨w.heap.size + 1, o, none⟩) (show w.heap.size + 1 < _ from (by first | omega | (simp; done) | (simp; omega)))
  have hl_w4_2 : w.heap.size + 2 < w4.heap.size := Nat.lt_of_lt_of_le (by omega) hz_w4
  have hk_w4_2 : ∀ o, w4.cell? ⟨w.heap.size + 2, o, none⟩ = _ := fun o => hx9.cell (p := ⟨w.heap.size + 2, o, none⟩) (show w.heap.size + 2 < _ from (by first | omega | (simp; done) | (simp; omega)))
  have hf_w4_2 : ∀ o, w4.frozen? ⟨w.heap.size + 2, o, none⟩ = _ := fun o => hx9.frozen (p := ⟨w.heap.size + 2, o, none⟩) (show w.heap.size + 2 < _ from (by first | omega | (simp; done) | (simp; omega)))
  have hl_w4_3 : w.heap.size + 3 < w4.heap.size := Nat.lt_of_lt_of_le (by omega) hz_w4
  have hk_w4_3 : ∀ o, w4.cell? ⟨w.heap.size + 3, o, none⟩ = _ := fun o => hx9.cell (p := ⟨w.heap.size + 3, o, none⟩) (show w.heap.size + 3 < _ from (by first | omega | (simp; done) | (simp; omega)))
  have hf_w4_3 : ∀ o, w4.frozen? ⟨w.heap.size + 3, o, none⟩ = _ := fun o => hx9.frozen (p := ⟨w.heap.size + 3, o, none⟩) (show w.heap.size + 3 < _ from (by first | omega | (simp; done) | (simp; omega)))
  go_wp2_with fail
  refine (MK1.out d1 _ _ _ R1.out hv1).mono ?_
  rintro e w5 ⟨n5, p5, l5, c5, rfl, hn5, hnew5, hx5⟩
  have hx6 : Ext w w5 := Ext.step hx10 hx5
  have hz_w5 : w.heap.size + 4 ≤ w5.heap.size := Nat.le_trans (by first | omega | (simp; done) | (simp; omega)) hx5.size
  have hl_w5_0 : w.heap.size < w5.heap.size := Nat.lt_of_lt_of_le (by omega) hz_w5
  have hk_w5_0 : ∀ o, w5.cell? ⟨w.heap.size, o, none⟩ = _ := fun o => hx5.cell (p := ⟨w.heap.size, o, none⟩) (show w.heap.size < _ from (by first | omega | (simp; done) | (simp; omega)))
  have hf_w5_0 : ∀ o, w5.frozen? ⟨w.heap.size, o, none⟩ = _ := fun o => hx5.frozen (p := ⟨w.heap.size, o, none⟩) (show w.heap.size < _ from (by first | omega | (simp; done) | (simp; omega)))
  have hl_w5_1 : w.heap.size + 1 < w5.heap.size := Nat.lt_of_lt_of_le (by omega) hz_w5
  have hk_w5_1 : ∀ o, w5.cell? ⟨w.heap.size + 1, o, none⟩ = _ := fun o => hx5.cell (p := ⟨w.heap.size + 1, o, none⟩) (show w.heap.size + 1 < _ from (by first | omega | (simp; done) | (simp; omega)))
  have hf_w5_1 : ∀ o, w5.frozen? ⟨w.heap.size + 1, o, none⟩ = _ := fun o => hx5.frozen (p := ⟨w.heap.size + 1, o, none⟩) (show w.heap.size + 1 < _ from (by first | omega | (simp; done) | (simp; omega)))
  have hl_w5_2 : w.heap.size + 2 < w5.heap.size := Nat.lt_of_lt_of_le (by omega) hz_w5
  have hk_w5_2 : ∀ o, w5.cell? ⟨w.heap.size + 2, o, none⟩ = _ := fun o => hx5.cell (p := ⟨w.heap.size + 2, o, none⟩) (show w.heap.size + 2 < _ from (by first | omega | (simp; done) | (simp; omega)))
  have hf_w5_2 : ∀ o, w5.frozen? ⟨w.heap.size + 2, o, none⟩ = _ := fun o => hx5.frozen (p := ⟨w.heap.size + 2, o, none⟩) (show w.heap.size + 2 < _ from (by first | omega | (simp; done) | (simp; omega)))
  have hl_w5_3 : w.heap.size + 3 < w5.heap.size := Nat.lt_of_lt_of_le (by omega) hz_w5
  have hk_w5_3 : ∀ o, w5.cell? ⟨w.heap.size + 3, o, none⟩ = _ := fun o => hx5.cell (p := ⟨w.heap.size + 3, o, none⟩) (show w.heap.size + 3 < _ from (by first | omega | (simp; done) | (simp; omega)))
  have hf_w5_3 : ∀ o, w5.frozen? ⟨w.heap.size + 3, o, none⟩ = _ := fun o => hx5.frozen (p := ⟨w.heap.size + 3, o, none⟩) (show w.heap.size + 3 < _ from (by first | omega | (simp; done) | (simp; omega)))
  go_wp2_with fail
  refine (MK2.out d2 _ _ _ (R2.out.ext (hx5.alloc hx5.size _)) hv2).mono ?_
  rintro e w6 ⟨n6, p6, l6, c6, rfl, hn6, hnew6, hx7⟩
  have hx8 : Ext w w6 := Ext.step (by (repeat (first | exact Below.refl _ _ | assumption | refine Below.drewN ?_ _ | refine Below.drew ?_ | refine Below.setCell ?_ (by first | exact Nat.le_refl _ | (simp; done) | (simp; omega) | omega) _ | refine Below.alloc ?_ (by first | exact Nat.le_refl _ | (simp; done) | (simp; omega) | omega) _))) hx7
  have k5a : w6.cell? ⟨w5.heap.size, 0, none⟩ = some (.bool n5) := (hx7.cell (p := ⟨w5.heap.size, 0, none⟩) (by simp)).trans (by go_simp)
  have k5b : w6.cell? ⟨w5.heap.size, 1, none⟩ = some (.slice p5 l5 c5) := (hx7.cell (p := ⟨w5.heap.size, 1, none⟩) (by simp)).trans (by go_simp)
  have k5l : w5.heap.size < w6.heap.size := Nat.lt_of_lt_of_le (by simp) hx7.size
  have hz_w6 : w.heap.size + 4 ≤ w6.heap.size := Nat.le_trans (by first | omega | (simp; done) | (simp; omega)) hx7.size
  have hl_w6_0 : w.heap.size < w6.heap.size := Nat.lt_of_lt_of_le (by omega) hz_w6
  have hk_w6_0 : ∀ o, w6.cell? ⟨w.heap.size, o, none⟩ = _ := fun o => hx7.cell (p := ⟨w.heap.size, o, none⟩) (show w.heap.size < _ from (by first | omega | (simp; done) | (simp; omega)))
  have hf_w6_0 : ∀ o, w6.frozen? ⟨w.heap.size, o, none⟩ = _ := fun o => hx7.frozen (p := ⟨w.heap.size, o, none⟩) (show w.heap.size < _ from (by first | omega | (simp; done) | (simp; omega)))
  have hl_w6_1 : w.heap.size + 1 < w6.heap.size := Nat.lt_of_lt_of_le (by omega) hz_w6
  have hk_w6_1 : ∀ o, w6.cell? ⟨w.heap.size + 1, o, none⟩ = _ := fun o => hx7.cell (p := ⟨w.heap.size + 1, o, none⟩) (show w.heap.size + 1 < _ from (by first | omega | (simp; done) | (simp; omega)))
  have hf_w6_1 : ∀ o, w6.frozen? ⟨w.heap.size + 1, o, none⟩ = _ := fun o => hx7.frozen (p := ⟨w.heap.size + 1, o, none⟩) (show w.heap.size + 1 < _ from (by first | omega | (simp; done) | (simp; omega)))
  have hl_w6_2 : w.heap.size + 2 < w6.heap.size := Nat.lt_of_lt_of_le (by omega) hz_w6
  have hk_w6_2 : ∀ o, w6.cell? ⟨w.heap.size + 2, o, none⟩ = _ := fun o => hx7.cell (p := ⟨w.heap.size + 2, o, none⟩) (show w.heap.size + 2 < _ from (by first | omega | (simp; done) | (simp; omega)))
  have hf_w6_2 : ∀ o, w6.frozen? ⟨w.heap.size + 2, o, none⟩ = _ := fun o => hx7.frozen (p := ⟨w.heap.size + 2, o, none⟩) (show w.heap.size + 2 < _ from (by first | omega | (simp; done) | (simp; omega)))
  have hl_w6_3 : w.heap.size + 3 < w6.heap.size := Nat.lt_of_lt_of_le (by omega) hz_w6
  have hk_w6_3 : ∀ o, w6.cell? ⟨w.heap.size + 3, o, none⟩ = _ := fun o => hx7.cell (p := ⟨w.heap.size + 3, o, none⟩) (show w.heap.size + 3 < _ from (by first | omega | (simp; done) | (simp; omega)))
  have hf_w6_3 : ∀ o, w6.frozen? ⟨w.heap.size + 3, o, none⟩ = _ := fun o => hx7.frozen (p := ⟨w.heap.size + 3, o, none⟩) (show w.heap.size + 3 < _ from (by first | omega | (simp; done) | (simp; omega)))
  have hn5' : NR w6 n5 p5 l5 c5 X := hn5.ext (Below.trans ((Below.refl _ _).alloc (Nat.le_refl _) _) (hx7.mono (by simp)))
  have hnw5 : New w3 p5 := hnew5.mono hx9.size
  have hnw6 : New w3 p6 := hnew6.mono (by have := hx5.size; have := hx9.size; simp; omega)
  have z3 : w.heap.size + 4 ≤ w3.heap.size := hz_w3
  go_upto_region 11 with (fail)
  refine wp_some (fun W => Ext w W ∧ (W.cell? ⟨w.heap.size + 1 + 1, 0, none⟩ = some (.bool false) ∧ W.cell? ⟨w.heap.size + 1 + 1, 1, none⟩ = some (.slice none 0 0) ∧ W.cell? ⟨w.heap.size + 1 + 1 + 1, 0, none⟩ = some (.bool false) ∧ W.cell? ⟨w.heap.size + 1 + 1 + 1, 1, none⟩ = some (.slice none 0 0) ∧ W.cell? ⟨w5.heap.size, 0, none⟩ = some (.bool n5) ∧ W.cell? ⟨w5.heap.size, 1, none⟩ = some (.slice p5 l5 c5) ∧ W.cell? ⟨w6.heap.size, 0, none⟩ = some (.bool n6) ∧ W.cell? ⟨w6.heap.size, 1, none⟩ = some (.slice p6 l6 c6) ∧ (∀ o, W.frozen? ⟨w.heap.size + 1 + 1, o, none⟩ = false) ∧ (∀ o, W.frozen? ⟨w.heap.size + 1 + 1 + 1, o, none⟩ = false) ) ∧ w.heap.size + 4 ≤ W.heap.size ∧ NR W n5 p5 l5 c5 X ∧ NR W n6 p6 l6 c6 Y) ?_ ?_
  · exact ⟨by (repeat (first | exact Below.refl _ _ | assumption | refine Below.drewN ?_ _ | refine Below.drew ?_ | refine Below.setCell ?_ (by first | exact Nat.le_refl _ | (simp; done) | (simp; omega) | omega) _ | refine Below.alloc ?_ (by first | exact Nat.le_refl _ | (simp; done) | (simp; omega) | omega) _)), ⟨by go_simp, by go_simp, by go_simp, by go_simp, by go_simp, by go_simp, by go_simp, by go_simp, by intro o; go_simp, by intro o; go_simp⟩, by simp; omega, hn5'.alloc _, hn6.alloc _⟩
  obtain ⟨A5, HA5⟩ : ∃ x, Hid (w5.heap.size = x) := ⟨_, rfl⟩
  obtain ⟨A6, HA6⟩ : ∃ x, Hid (w6.heap.size = x) := ⟨_, rfl⟩
  have hne1 : w.heap.size + 1 + 1 ≠ A5 := by have := HA5.out; have := hx5.size; have := hx9.size; omega
  have hne2 : w.heap.size + 1 + 1 + 1 ≠ A5 := by have := HA5.out; have := hx5.size; have := hx9.size; omega
  have hne3 : w.heap.size + 1 + 1 ≠ A6 := by have := HA5.out; have := HA6.out; omega
  have hne4 : w.heap.size + 1 + 1 + 1 ≠ A6 := by have := HA5.out; have := HA6.out; omega
  rw [HA5.out, HA6.out]
  rintro V ⟨hxV, ⟨v0, v1, v2, v3, v4, v5, v6, v7, vf1, vf2⟩, hzV, hN5, hN6⟩
  have HN5 := Lib.hid hN5
  have HN6 := Lib.hid hN6
  have HXV := Lib.hid hxV
  have y2 : w.heap.size + 1 + 1 < V.heap.size := by omega
  have y3 : w.heap.size + 1 + 1 + 1 < V.heap.size := by omega
  have Z3 := Lib.hid z3
  have NW5 := Lib.hid hnw5
  have NW6 := Lib.hid hnw6
  clear hN5 hN6 hxV k5a k5b k5l hn5' hn6 hn5 hx8 hx6 hx4 hx7 hx5 hx3 hx0 hx1 hx2 hx hzV z3 hnew5 hnew6 hnw5 hnw6 hx9 hx10
  go_region
  all_goals
    go_wp2
    refine bodyPost_ret (v := .tuple #[.agg #[.bool n5, .slice p5 l5 c5], .agg #[.bool n6, .slice p6 l6 c6], .bool true]) (by simp only [results, Tryd.results12]; go_simp) rfl ?_
    have hN5 := HN5.out
    have hN6 := HN6.out
    have hxV := HXV.out
    have hnw5 := NW5.out
    have hnw6 := NW6.out
    have z3 := Z3.out
    refine ⟨n5, p5, l5, c5, n6, p6, l6, c6, rfl, ?_, ?_, hnw5.mono (by omega), hnw6.mono (by omega), by (repeat (first | exact Below.refl _ _ | assumption | refine Below.drewN ?_ _ | refine Below.drew ?_ | refine Below.setCell ?_ (by first | exact Nat.le_refl _ | (simp; done) | (simp; omega) | omega) _ | refine Below.alloc ?_ (by first | exact Nat.le_refl _ | (simp; done) | (simp; omega) | omega) _))⟩
    · (repeat (first | assumption | exact NR.drew (by assumption) | refine NR.set ?_ (w0 := w3) (by assumption) _ (by first | omega | (simp; done) | (simp; omega)) _ | refine NR.drew ?_))
    · (repeat (first | assumption | exact NR.drew (by assumption) | refine NR.set ?_ (w0 := w3) (by assumption) _ (by first | omega | (simp; done) | (simp; omega)) _ | refine NR.drew ?_))
end Go.Proofs.YtdaaknfmodbjcaaDoor

namespace Go.Proofs.YtdaaknfmodbjcaaDoor
open Go.RowKit
attribute [local go_sem] Gives givesU

/-- Given what etchantref01.quotient does at the digits of the two numbers. -/
theorem r01_DivG (a b : Nm) (na nb : Bool) (pa pb : Option Addr) (la ca lb cb : Nat) (w : World) (ha : NR w na pa la ca a) (hb : NR w nb pb lb cb b)
    (DV : a.right = true → b.right = true → 0 < b.d.length → ∀ W, Ext w W → Calls Tryd.prog 32 #[.slice pa la ca, .slice pb lb cb] W (RetQR W (digs (val a.d / val b.d)) (digs (val a.d % val b.d)))) :
    Calls Tryd.prog 12 #[.agg #[.bool na, .slice pa la ca], .agg #[.bool nb, .slice pb lb cb]] w (RetDiv w (divP a b)) := by
  cases ra : a.right with
  | false => exact RDiv_no a b na nb pa pb la ca lb cb w ha hb (.inl ra)
  | true =>
    cases rb : b.right with
    | false => exact RDiv_no a b na nb pa pb la ca lb cb w ha hb (.inr (.inl rb))
    | true =>
      cases hn : b.neg with
      | true => exact RDiv_no a b na nb pa pb la ca lb cb w ha hb (.inr (.inr (.inl hn)))
      | false =>
        by_cases h0 : b.d.length = 0
        · exact RDiv_no a b na nb pa pb la ca lb cb w ha hb (.inr (.inr (.inr h0)))
        · have hnb := hb.1
          rw [hn] at hnb
          subst hnb
          have hlb := hb.2.1
          have hna := ha.1
          have da := ha.2.2.dig
          rw [divP_yes ra rb hn (by omega)]
          have D := DV ra rb (by omega)
          have vq : val (digs (val a.d / val b.d)) = val a.d / val b.d := val_digs _
          have vr : val (digs (val a.d % val b.d)) = val a.d % val b.d := val_digs _
          have hbp : 0 < val b.d := tight_pos (b.right_iff.1 rb).2.1 (by omega)
          have hqle : val a.d / val b.d ≤ val a.d := Nat.div_le_self _ _
          have hrle : val a.d % val b.d ≤ val a.d := Nat.mod_le _ _
          have l64 (n : Nat) (h : n ≤ val a.d) : (digs n).length ≤ 64 := by
            refine (digs_length_le _ _).2 (Nat.lt_of_le_of_lt h ?_)
            exact Nat.lt_of_lt_of_le (val_lt da) (Nat.pow_le_pow_right (by omega) (a.right_iff.1 ra).1)
          by_cases hs : a.neg = true ∧ val a.d % val b.d ≠ 0
          · obtain ⟨hneg, hrest⟩ := hs
            rw [hneg] at hna
            subst hna
            have hrb : val a.d % val b.d < val b.d := Nat.mod_lt _ hbp
            have z : a.z = -(val a.d : Int) := by unfold Nm.z; rw [hneg]; rfl
            refine RDiv_neg a b pa pb la ca lb cb w ha hb ra rb (by omega) _ _ _ _ D ?_ ?_ ?_ (l64 _ hqle) (l64 _ hrle) (by rw [vr]; omega) (digs_le hb.2.2.dig (b.right_iff.1 rb).2.1 (by omega))
            · refine List.length_pos_iff.2 (fun h => hrest ?_)
              exact digs_eq_nil.1 h
            · intro o ho
              rw [vq] at ho
              have := made_nat da ra (succ_le hbp hrest) ho true
              simp only [if_true] at this
              rw [this, z, ((ediv_neg hbp).2 hrest).1]
            · intro o ho
              rw [vr] at ho
              rw [madeP_fit, ho, fit_small]
              · simp only [Bool.false_eq_true, if_false]
                rw [z, ((ediv_neg hbp).2 hrest).2]
              · refine small_of_le hb.2.2.dig rb ?_
                simp only [Bool.false_eq_true, if_false]
                omega
          · refine RDiv_simple a b na pa pb la ca lb cb w ha hb ra rb (by omega) _ _ _ _ D ?_ ?_ ?_
            · intro h
              rw [hna] at h
              have : val a.d % val b.d = 0 := by
                rcases Nat.eq_zero_or_pos (val a.d % val b.d) with g | g
                · exact g
                · exact absurd ⟨h, by omega⟩ hs
              rw [this, digs_zero]
            · rw [made_nat da ra hqle vq na]
              unfold Nm.z
              rw [hna]
              cases h : a.neg with
              | false => simp only [Bool.false_eq_true, if_false]; rw [ediv_pos.1]
              | true =>
                simp only [if_true]
                have : val a.d % val b.d = 0 := by
                  rcases Nat.eq_zero_or_pos (val a.d % val b.d) with g | g
                  · exact g
                  · exact absurd ⟨h, by omega⟩ hs
                rw [((ediv_neg hbp).1 this).1]
            · rw [made_nat da ra hrle vr false]
              simp only [Bool.false_eq_true, if_false]
              unfold Nm.z
              cases h : a.neg with
              | false => simp only [Bool.false_eq_true, if_false]; rw [ediv_pos.2]
              | true =>
                simp only [if_true]
                have : val a.d % val b.d = 0 := by
                  rcases Nat.eq_zero_or_pos (val a.d % val b.d) with g | g
                  · exact g
                  · exact absurd ⟨h, by omega⟩ hs
                rw [((ediv_neg hbp).1 this).2]
end Go.Proofs.YtdaaknfmodbjcaaDoor

namespace Go.Proofs.YtdaaknfmodbjcaaDoor
open Go.RowKit

theorem r01_Div (a b : Nm) (na nb : Bool) (pa pb : Option Addr) (la ca lb cb : Nat) (w : World) (ha : NR w na pa la ca a) (hb : NR w nb pb lb cb b) :
    Calls Tryd.prog 12 #[.agg #[.bool na, .slice pa la ca], .agg #[.bool nb, .slice pb lb cb]] w (RetDiv w (divP a b)) :=
  r01_DivG a b na nb pa pb la ca lb cb w ha hb (fun ra rb h W k =>
    r01_quotient a.d b.d pa pb la ca lb cb W (ha.2.2.ext k) (hb.2.2.ext k) ha.2.1 hb.2.1 (b.right_iff.1 rb).2.1 (Nat.le_trans (a.right_iff.1 ra).1 (by decide)) (Nat.le_trans (b.right_iff.1 rb).1 (by decide)) (tight_pos (b.right_iff.1 rb).2.1 h))
end Go.Proofs.YtdaaknfmodbjcaaDoor

namespace Go.Proofs.YtdaaknfmodbjcaaDoor
open Go.RowKit

section
variable {P : Program} {ops : Array Oper} {S : World → Prop} {Q : Act → World → Prop} {tail : List Oper}

/-- The walk of the earlier part, and behind it that of the later part, in which nothing stays fixed. -/
def WpT (P : Program) (ops : Array Oper) (S : World → Prop) (Q : Act → World → Prop) (tail : List Oper) : List Oper → Act → List Nat → (World → Prop) → Prop
  | [], a, own, F => WpF P ops (fun _ => True) Q tail a own F
  | o :: l, a, own, F => StepF P ops S (WpT P ops S Q tail l) o a own F

theorem WpT.perm {l : List Oper} : ∀ {a : Act} {own own' : List Nat} {F : World → Prop}, (∀ g, g ∈ own' ↔ g ∈ own) → WpT P ops S Q tail l a own F → WpT P ops S Q tail l a own' F := by
  induction l with
  | nil => intro a own own' F ho h; exact WpF.perm (Q := Q) ho h
  | cons o l ih =>
    intro a own own' F ho h
    cases h with
    | pure v hy h => exact .pure v hy (ih ho h)
    | flo hk hw obj hr h => exact .flo hk hw obj hr fun g hg hs => ih (fun x => by simp [ho]) (h g (fun hx => hg ((ho g).2 hx)) hs)
    | eff hk hw I sh T hm hg h => exact .eff hk hw I sh T hm hg fun t ht => ih ho (h t ht)
    | sto hk hw I sh T hm hs hg h =>
      refine .sto hk hw I sh T hm hs hg fun t hx => ?_
      have e : (fun w : World => T t w ∧ ∀ g ∈ own', g < w.heap.size) = (fun w : World => T t w ∧ ∀ g ∈ own, g < w.heap.size) := by
        funext w; simp only [ho]
      rw [e] at hx ⊢
      exact ih ho (h t hx)

theorem pullT {o : Oper} {pre post : List Oper} (hp : ∀ k ∈ pre, Apart ops k o ∧ Before k o) : ∀ {a : Act} {own : List Nat} {F : World → Prop}, InvF S own F → WpT P ops S Q tail (pre ++ o :: post) a own F →
    StepF P ops S (WpT P ops S Q tail (pre ++ post)) o a own F := by
  induction pre with
  | nil => intro a own F _ h; exact h
  | cons k pre ih =>
    intro a own F hi h
    have h1 : StepF P ops S (fun a1 own1 F1 => StepF P ops S (WpT P ops S Q tail (pre ++ post)) o a1 own1 F1) k a own F :=
      StepF.imp hi (fun a own F hi h => ih (fun x hx => hp x (List.mem_cons_of_mem _ hx)) hi h) h
    have hk := hp k (List.mem_cons_self ..)
    exact swap hi hk.1 hk.2 (fun a own own' F ho h => WpT.perm ho h) h1

/-- Each operation from n on waits for all before n. -/
def tailB (ops : Array Oper) (n : Nat) : Bool := (List.range ops.size).all fun i => decide (i < n) || (List.range n).all fun k => reach ops 0 i k || reach ops 20 i k

theorem wpAny_of_T {Q : Exit → Act → World → Prop} (hB : floatB ops = true) (N : Nat) (hT : tailB ops N = true) (zt : List (Nat × Oper)) (ht : ∀ p ∈ zt, N ≤ p.1) : ∀ (n : Nat) (zs : List (Nat × Oper)) (listed : Array Bool) (a : Act) (own : List Nat) (F : World → Prop) (w : World), zs.length = n → (∀ p ∈ zs, p.1 < N) → LeftF ops listed (zs ++ zt) → Closed ops listed →
    InvF S own F → F w → WpT P ops S (fun a w => Q .normal a w) (zt.map (·.2)) (zs.map (·.2)) a own F → wpAny P .any ops Q (n + zt.length) listed a w := by
  have hB' := hB
  simp only [floatB, Bool.and_eq_true, List.all_eq_true, List.mem_range, decide_eq_true_eq] at hB'
  obtain ⟨hsel, hall⟩ := hB'
  have hT' := hT
  simp only [tailB, List.all_eq_true, List.mem_range, Bool.or_eq_true, decide_eq_true_eq] at hT'
  intro n
  induction n with
  | zero =>
    intro zs listed a own F w hn hz hl hc hi hw h
    have : zs = [] := List.eq_nil_of_length_eq_zero hn
    subst this
    rw [Nat.zero_add]
    exact wpAny_of_F (S := fun _ => True) hB zt.length zt listed a own F w rfl (by simpa using hl) hc ⟨hi.mono, fun _ _ => trivial, hi.own, hi.ex⟩ hw h
  | succ n ih =>
    intro zs listed a own F w hn hz hl hc hi hw h
    have hget (i : Nat) (hlt : i < ops.size) (hu : ¬ listed.getD i true = false) : listed.getD i false = true := by
      have hlt' : i < listed.size := by rw [hl.size]; exact hlt
      simp [hlt'] at hu ⊢
      exact hu
    rw [show n + 1 + zt.length = n + zt.length + 1 by omega]
    obtain ⟨⟨i0, o0⟩, rest, hzs⟩ : ∃ z rest, zs = z :: rest := by
      cases zs with
      | nil => simp at hn
      | cons z rest => exact ⟨z, rest, rfl⟩
    have h0un : listed.getD i0 true = false := by
      have ho := hl.here (i0, o0) (by simp [hzs])
      exact (hl.mem i0 (Array.getElem?_eq_some_iff.1 ho).1).2 (by simp [hzs])
    have h0N : i0 < N := hz (i0, o0) (by simp [hzs])
    refine ⟨fun h0 => ?_, fun i hr => ?_⟩
    · exfalso
      have ho := hl.here (i0, o0) (by simp [hzs])
      have hlt : i0 < ops.size := (Array.getElem?_eq_some_iff.1 ho).1
      have hr : i0 ∈ Region.ready .any ops listed := by
        refine mem_ready.2 ⟨h0un, o0, ho, fun e he hb => ?_⟩
        have hd : e.on ∈ depsOf ops i0 := (mem_depsOf ho).2 ⟨e, he, hb, rfl⟩
        have hei := (hall i0 hlt).1 _ hd
        refine hget _ (by omega) fun hu => ?_
        have hm := (hl.mem e.on (by omega)).1 hu
        have hs := hl.sorted
        rw [hzs] at hm hs
        simp only [List.cons_append, List.map_cons, List.mem_cons] at hm hs
        rcases hm with hm | hm
        · omega
        · obtain ⟨p, hp, he'⟩ := List.mem_map.1 hm
          have := (List.pairwise_cons.1 hs).1 p hp
          simp at this
          omega
      rw [h0] at hr
      cases hr
    · obtain ⟨hu, o, ho, _⟩ := mem_ready.1 hr
      have hlt : i < ops.size := (Array.getElem?_eq_some_iff.1 ho).1
      have hno (j : Nat) (hju : listed.getD j true = false) (hj : j < ops.size) (f : Nat) : reach ops f i j = false := by
        cases hx : reach ops f i j with
        | false => rfl
        | true =>
          have h1 := reach_listed hc f i j (ready_deps hr) hx
          have hlt' : j < listed.size := by rw [hl.size]; omega
          simp [hlt'] at h1 hju
          rw [h1] at hju
          cases hju
      have hiN : i < N := by
        rcases Nat.lt_or_ge i N with h | h
        · exact h
        · exfalso
          have h0s : i0 < ops.size := by
            have ho := hl.here (i0, o0) (by simp [hzs])
            exact (Array.getElem?_eq_some_iff.1 ho).1
          rcases hT' i hlt with g | g
          · omega
          · have := g i0 h0N
            rw [hno i0 h0un h0s 0, hno i0 h0un h0s 20] at this
            simp at this
      have hm := (hl.mem i hlt).1 hu
      obtain ⟨⟨i', o'⟩, hp, hei⟩ := List.mem_map.1 hm
      simp only at hei
      subst hei
      have ho' := hl.here _ hp
      simp only at ho'
      rw [ho] at ho'
      simp only [Option.some.injEq] at ho'
      subst ho'
      have hp' : (i', o) ∈ zs := by
        rcases List.mem_append.1 hp with h | h
        · exact h
        · have := ht _ h; simp at this; omega
      obtain ⟨pre, post, rfl⟩ := List.append_of_mem hp'
      have hl' : LeftF ops listed (pre ++ (i', o) :: (post ++ zt)) := by simpa using hl
      have hpre : ∀ k ∈ pre.map (·.2), Apart ops k o ∧ Before k o := by
        intro k hk
        obtain ⟨⟨j, k'⟩, hj, rfl⟩ := List.mem_map.1 hk
        have hji : j < i' := ((List.pairwise_append.1 hl'.sorted).2.2) _ hj (i', o) (List.mem_cons_self ..)
        have hjk := hl'.here (j, k') (by simp [hj])
        simp only at hjk
        have hju : listed.getD j true = false := (hl'.mem j (by omega)).2 (by simp only [List.map_append, List.mem_append, List.mem_map]; exact .inl ⟨_, hj, rfl⟩)
        have hpair := (hall i' hlt).2 j hji
        simp only [pairB, ho, hjk, hno j hju (by omega), Bool.or_false, Bool.false_or, Bool.and_eq_true] at hpair
        obtain ⟨hbe, hap⟩ := hpair
        obtain ⟨a1, a2, a3⟩ := Oper.apart_spec hap
        refine ⟨⟨a1, a3, a2, fun cs b => Region.noSelect_spec hsel j k' cs b hjk, fun cs b => Region.noSelect_spec hsel i' o cs b ho⟩, ?_⟩
        simp only [beforeB, Bool.or_eq_true, beq_iff_eq, Bool.and_eq_true, bne_iff_ne] at hbe
        rcases hbe with (hbe | hbe) | hbe
        · exact .inl hbe
        · exact .inr (.inl hbe)
        · exact .inr (.inr hbe)
      have hst := pullT (post := post.map (·.2)) hpre hi (by simpa using h)
      have hlen : (pre ++ post).length = n := by simp at hn ⊢; omega
      have next {a' : Act} {own' : List Nat} {F' : World → Prop} {w' : World} (hi' : InvF S own' F') (hw' : F' w') (h' : WpT P ops S (fun a w => Q .normal a w) (zt.map (·.2)) (pre.map (·.2) ++ post.map (·.2)) a' own' F') : wpAny P .any ops Q (n + zt.length) (listed.setIfInBounds i' true) a' w' :=
        ih (pre ++ post) _ a' own' F' w' hlen (fun p hp => hz p (by rcases List.mem_append.1 hp with hp | hp <;> simp [hp])) (by have := hl'.take; simpa using this) (hc.set hr) hi' hw' (by simpa using h')
      cases hst with
      | pure v hy h => exact hy.wpOp ho (hi.held w hw) (next hi hw h)
      | flo hk hwant obj hrun h =>
        unfold wpOp
        simp only [ho, hwant, if_true]
        refine .inl ?_
        unfold Oper.wp
        rw [hrun w (hi.held w hw)]
        have hs : ∃ w' : World, F w' ∧ w'.heap[w.heap.size]? = some obj := ⟨{ w with heap := w.heap.push obj }, hi.mono _ _ hw (below_push w obj), by simp⟩
        exact next (hi.flo obj _ hs) ⟨hi.mono _ _ hw (below_push w obj), by simp⟩ (h _ (fun hx => Nat.lt_irrefl _ (hi.own w hw _ hx)) hs)
      | eff hk hwant I sh T hm' hg h =>
        unfold wpOp
        simp only [ho, hwant, if_true]
        refine .inl ((hg w hw).wp ?_)
        rintro v w' ⟨t, rfl, hb, ht⟩
        have hs : ∃ w, F w ∧ T t w := ⟨w', hi.mono _ _ hw hb, ht⟩
        exact next (hi.eff (hm' t) hs) ⟨hi.mono _ _ hw hb, ht⟩ (h t hs)
      | sto hk hwant I sh T hm' hs hg h =>
        unfold wpOp
        simp only [ho, hwant, if_true]
        refine .inl ((hg w hw).wp ?_)
        rintro v w' ⟨t, rfl, hb, ht⟩
        have hx : T t w' ∧ ∀ g ∈ own, g < w'.heap.size := ⟨ht, fun g hg => Nat.lt_of_lt_of_le (hi.own w hw g hg) hb⟩
        exact next (InvF.sto (hm' t) (hs t) ⟨w', hx⟩) hx (h t ⟨w', hx⟩)
end

/-- ONE WALK IN THE ORDER OF THE TEXT, the first N operations under S, the others under nothing. -/
theorem wp_region_T {P : Program} {id : Nat} {l : List Oper} {Q : Exit → Act → World → Prop} {a : Act} {w : World} (N : Nat) (S : World → Prop) (hm : P.follows .mixedOrders = true) (hB : floatB l.toArray = true) (hT : tailB l.toArray N = true) (hS : S w)
    (hmono : FMono S) (hsz : ∀ W, S W → w.heap.size ≤ W.heap.size)
    (h : WpT P l.toArray S (fun a w => Q .normal a w) (l.drop N) (l.take N) a (List.range w.heap.size) S) : (Code.region id l.toArray true).wp P Q a w := by
  refine wp_region_any hm ?_
  have hd : Below w.heap.size w { w with drawn := w.drawn + 1 } := ⟨rfl, rfl, rfl, Nat.le_refl _, fun _ _ => rfl⟩
  have hSd := hmono _ _ hS hd
  let zs := l.zipIdx.map fun p => (p.2, p.1)
  have hz : zs = zs.take N ++ zs.drop N := (List.take_append_drop N zs).symm
  have hidx : ∀ (i : Nat) (h : i < zs.length), (zs[i]).1 = i := by
    intro i h
    simp [zs]
  have hlen : (zs.take N).length + (zs.drop N).length = l.toArray.size := by
    rw [← List.length_append, List.take_append_drop]
    simp [zs]
  have hmap : zs.map (·.2) = l := by simp [zs, List.map_map, Function.comp_def, List.zipIdx_map_fst]
  rw [← hlen]
  refine wpAny_of_T (S := S) hB N hT (zs.drop N) ?_ (zs.take N).length (zs.take N) _ a (List.range w.heap.size) S _ rfl ?_ ?_ ?_ ⟨hmono, fun _ h => h, fun w hw g hg => Nat.lt_of_lt_of_le (List.mem_range.1 hg) (hsz w hw), ⟨_, hSd⟩⟩ hSd ?_
  · intro p hp
    obtain ⟨i, hi, rfl⟩ := List.mem_iff_getElem.1 hp
    rw [List.getElem_drop, hidx]
    omega
  · intro p hp
    obtain ⟨i, hi, rfl⟩ := List.mem_iff_getElem.1 hp
    rw [List.getElem_take, hidx]
    simp at hi
    omega
  · rw [List.take_append_drop, hlen]
    refine ⟨by simp, ?_, ?_, ?_⟩
    · intro p hp
      obtain ⟨⟨o, i⟩, hx, rfl⟩ := List.mem_map.1 hp
      have := List.mem_zipIdx' hx
      simp [this.1, this.2]
    · intro i hi
      have hi' : i < l.length := by simpa using hi
      simp only [zs, List.map_map]
      constructor
      · intro _
        refine List.mem_map.2 ⟨(l[i], i), ?_, rfl⟩
        rw [List.mem_zipIdx_iff_getElem?]
        simp [hi']
      · intro _
        simp [hi']
    · rw [List.pairwise_map, List.pairwise_iff_getElem]
      intro i j hi hj hij
      simpa using hij
  · intro j hj
    rw [hlen] at hj
    rcases Nat.lt_or_ge j l.length with h' | h' <;> simp [h'] at hj
  · rw [List.map_drop, List.map_take, hmap]
    exact h
end Go.Proofs.YtdaaknfmodbjcaaDoor
