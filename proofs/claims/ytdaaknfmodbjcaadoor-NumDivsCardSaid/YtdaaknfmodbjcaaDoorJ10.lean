/- Contract: num.Div, given that of num.divide at the two numbers: negative numbers with a rest; all numbers. | Contract: num.Div, given that of num.divide at the two numbers. -/
import Derived.Test.YtdaaknfmodbjcaaDoorJ09
set_option linter.unusedVariables false
set_option linter.unusedSimpArgs false

namespace Go.Proofs.YtdaaknfmodbjcaaDoor
open Go.RowKit
attribute [local go_sem] Gives givesU

set_option maxRecDepth 100000 in
set_option maxHeartbeats 4000000 in
theorem Div_neg (a b : Nm) (pa pb : Option Addr) (la ca lb cb : Nat) (w : World) (ha : NR w true pa la ca a) (hb : NR w false pb lb cb b) (ra : a.right = true) (rb : b.right = true) (hlb : 0 < lb) (dq dr : List Nat) (X Y : Nm)
    (DV : ∀ W, Ext w W → Calls Tryd.prog 27 #[.slice pa la ca, .slice pb lb cb] W (RetQR W dq dr)) (hs : 0 < dr.length) (hX : ∀ o : List Nat, val o = val dq + 1 → madeP true o = (X, true)) (hY : ∀ o : List Nat, val o = val b.d - val dr → madeP false o = (Y, true))
    (lq : dq.length ≤ 64) (lr : dr.length ≤ 64) (hle : val dr ≤ val b.d) :
    Calls Tryd.prog 11 #[.agg #[.bool true, .slice pa la ca], .agg #[.bool false, .slice pb lb cb]] w (RetDiv w (X, Y, true)) := by
  have lb64 : b.d.length ≤ 64 := (b.right_iff.1 rb).1
  have PL := Lib.hid (fun p c g W (h : Row W p c dq) (k : Row W (some ⟨g, 0, none⟩) 1 [1]) => num_plus dq [1] p (some ⟨g, 0, none⟩) dq.length c 1 1 W h k rfl rfl (by omega) (by simp))
  have MN := Lib.hid (fun p c W (k : Ext w W) (h : Row W p c dr) => num_minus b.d dr pb p lb cb dr.length c W (hb.2.2.ext k) h hb.2.1 rfl (by omega) (by omega) hle)
  have RA := Lib.hid (fun w' (hx : Ext w w') => num_Right a true pa la ca w' (ha.ext hx))
  have RB := Lib.hid (fun w' (hx : Ext w w') => num_Right b false pb lb cb w' (hb.ext hx))
  rw [ra] at RA
  rw [rb] at RB
  have e0 : ((lb : Int) == 0) = false := by rw [beq_eq_false_iff_ne]; omega
  replace DV := Lib.hid DV
  clear hlb ra rb
  have MK1 := Lib.hid (fun o p c W (h : Row W p c o) (hv : val o = val dq + val [1]) => by have := num_made true o p o.length c W h rfl; rw [hX o (by rw [hv, val_one])] at this; exact this)
  have MK2 := Lib.hid (fun o p c W (h : Row W p c o) (hv : val o = val b.d - val dr) => by have := num_made false o p o.length c W h rfl; rw [hY o hv] at this; exact this)
  clear hX hY lq lr hle lb64
  go_enter Tryd.func11, Tryd.ntmps11
  go_wp2_with fail
  refine (RA.out _ (by (repeat (first | exact Below.refl _ _ | assumption | refine Below.drewN ?_ _ | refine Below.drew ?_ | refine Below.setCell ?_ (by first | exact Nat.le_refl _ | (simp; done) | (simp; omega) | omega) _ | refine Below.alloc ?_ (by first | exact Nat.le_refl _ | (simp; done) | (simp; omega) | omega) _)))).mono ?_
  rintro e w1 ⟨rfl, hx⟩
  have hx0 : Ext w w1 := Ext.step (by (repeat (first | exact Below.refl _ _ | assumption | refine Below.drewN ?_ _ | refine Below.drew ?_ | refine Below.setCell ?_ (by first | exact Nat.le_refl _ | (simp; done) | (simp; omega) | omega) _ | refine Below.alloc ?_ (by first | exact Nat.le_refl _ | (simp; done) | (simp; omega) | omega) _))) hx
  have hz_w1 : w.heap.size + 4 ≤ w1.heap.size := Nat.le_trans (by first | omega | (simp; done) | (simp; omega)) hx.size
  have hl_w1_0 : w.heap.size < w1.heap.size := Nat.lt_of_lt_of_le (by omega) hz_w1
  have hk_w1_0 : ∀ o, w1.cell? ⟨w.heap.size, o, none⟩ = _ := fun o => hx.cell (p := ⟨w.heap.size, o, none⟩) (show w.heap.size < _ from (by first | omega | (simp; done) | (simp; omega)))
  have hf_w1_0 : ∀ o, w1.frozen? ⟨w.heap.size, o, none⟩ = _ := fun o => hx.frozen (p := ⟨w.heap.size, o, none⟩) (show w.heap.size < _ from (by first | omega | (simp; done) | (simp; omega)))
  have hl_w1_1 : w.heap.size + 1 < w1.heap.size := Nat.lt_of_lt_of_le (by omega) hz_w1
  have hk_w1_1 : ∀ o, w1.cell? ⟨w.heap.size + 1, o, none⟩ = _ := fun o => hx.cell (p := ⟨w.heap.size + 1, o, none⟩) (show w.heap.size + 1 < _ from (by first | omega | (simp; done) | (simp; omega)))
  have hf_w1_1 : ∀ o, w1.frozen? ⟨w.heap.size + 1, o, none⟩ = _ := fun o => hx.frozen (p := ⟨w.heap.size + 1, o, none⟩) (show w.heap.size + 1 < _ from (by first | omega | (simp; done) | (simp; omega)))
  have hl_w1_2 : w.heap.size + 2 < w1.heap.size := Nat.lt_of_lt_of_le (by omega) hz_w1
  have hk_w1_2 : ∀ o, w1.cell? ⟨w.heap.size + 2, o, none⟩ = _ := fun o => hx.cell (p := ⟨w.heap.size + 2, o, none⟩) (show w.heap.size + 2 < _ from (by first | omega | (simp; done) | (simp; omega)))
  have hf_w1_2 : ∀ o, w1.frozen? ⟨w.heap.size + 2, o, none⟩ = _ := fun o => hx.frozen (p := ⟨w.heap.size + 2, o, none⟩) (show w.heap.size + 2 < _ from (by first | omega | (simp; done) | (simp; omega)))
  have hl_w1_3 : w.heap.size + 3 < w1.heap.size := Nat.lt_of_lt_of_le (by omega) hz_w1
  have hk_w1_3 : ∀ o, w1.cell? ⟨w.heap.size + 3, o, none⟩ = _ := fun o => hx.cell (p := ⟨w.heap.size + 3, o, none⟩) (show w.heap.size + 3 < _ from (by first | omega | (simp; done) | (simp; omega)))
  have hf_w1_3 : ∀ o, w1.frozen? ⟨w.heap.size + 3, o, none⟩ = _ := fun o => hx.frozen (p := ⟨w.heap.size + 3, o, none⟩) (show w.heap.size + 3 < _ from (by first | omega | (simp; done) | (simp; omega)))
  go_wp2_with fail
  refine (RB.out _ (by (repeat (first | exact Below.refl _ _ | assumption | refine Below.drewN ?_ _ | refine Below.drew ?_ | refine Below.setCell ?_ (by first | exact Nat.le_refl _ | (simp; done) | (simp; omega) | omega) _ | refine Below.alloc ?_ (by first | exact Nat.le_refl _ | (simp; done) | (simp; omega) | omega) _)))).mono ?_
  rintro e w2 ⟨rfl, hx2⟩
  have hx1 : Ext w w2 := Ext.step (by (repeat (first | exact Below.refl _ _ | assumption | refine Below.drewN ?_ _ | refine Below.drew ?_ | refine Below.setCell ?_ (by first | exact Nat.le_refl _ | (simp; done) | (simp; omega) | omega) _ | refine Below.alloc ?_ (by first | exact Nat.le_refl _ | (simp; done) | (simp; omega) | omega) _))) hx2
  have hz_w2 : w.heap.size + 4 ≤ w2.heap.size := Nat.le_trans (by first | omega | (simp; done) | (simp; omega)) hx2.size
  have hl_w2_0 : w.heap.size < w2.heap.size := Nat.lt_of_lt_of_le (by omega) hz_w2
  have hk_w2_0 : ∀ o, w2.cell? ⟨w.heap.size, o, none⟩ = _ := fun o => hx2.cell (p := ⟨w.heap.size, o, none⟩) (show w.heap.size < _ from (by first | omega | (simp; done) | (simp; omega)))
  have hf_w2_0 : ∀ o, w2.frozen? ⟨w.heap.size, o, none⟩ = _ := fun o => hx2.frozen (p := ⟨w.heap.size, o, none⟩) (show w.heap.size < _ from (by first | omega | (simp; done) | (simp; omega)))
  have hl_w2_1 : w.heap.size + 1 < w2.heap.size := Nat.lt_of_lt_of_le (by omega) hz_w2
  have hk_w2_1 : ∀ o, w2.cell? ⟨w.heap.size + 1, o, none⟩ = _ := fun o => hx2.cell (p := ⟨w.heap.size + 1, o, none⟩) (show w.heap.size + 1 < _ from (by first | omega | (simp; done) | (simp; omega)))
  have hf_w2_1 : ∀ o, w2.frozen? ⟨w.heap.size + 1, o, none⟩ = _ := fun o => hx2.frozen (p := ⟨w.heap.size + 1, o, none⟩) (show w.heap.size + 1 < _ from (by first | omega | (simp; done) | (simp; omega)))
  have hl_w2_2 : w.heap.size + 2 < w2.heap.size := Nat.lt_of_lt_of_le (by omega) hz_w2
  have hk_w2_2 : ∀ o, w2.cell? ⟨w.heap.size + 2, o, none⟩ = _ := fun o => hx2.cell (p := ⟨w.heap.size + 2, o, none⟩) (show w.heap.size + 2 < _ from (by first | omega | (simp; done) | (simp; omega)))
  have hf_w2_2 : ∀ o, w2.frozen? ⟨w.heap.size + 2, o, none⟩ = _ := fun o => hx2.frozen (p := ⟨w.heap.size + 2, o, none⟩) (show w.heap.size + 2 < _ from (by first | omega | (simp; done) | (simp; omega)))
  have hl_w2_3 : w.heap.size + 3 < w2.heap.size := Nat.lt_of_lt_of_le (by omega) hz_w2
  have hk_w2_3 : ∀ o, w2.cell? ⟨w.heap.size + 3, o, none⟩ = _ := fun o => hx2.cell (p := ⟨w.heap.size + 3, o, none⟩) (show w.heap.size + 3 < _ from (by first | omega | (simp; done) | (simp; omega)))
  have hf_w2_3 : ∀ o, w2.frozen? ⟨w.heap.size + 3, o, none⟩ = _ := fun o => hx2.frozen (p := ⟨w.heap.size + 3, o, none⟩) (show w.heap.size + 3 < _ from (by first | omega | (simp; done) | (simp; omega)))
  go_wp2_with fail
  refine (DV.out _ (by (repeat (first | exact Below.refl _ _ | assumption | refine Below.drewN ?_ _ | refine Below.drew ?_ | refine Below.setCell ?_ (by first | exact Nat.le_refl _ | (simp; done) | (simp; omega) | omega) _ | refine Below.alloc ?_ (by first | exact Nat.le_refl _ | (simp; done) | (simp; omega) | omega) _)))).mono ?_
  rintro e w3 ⟨p, c, p2, c2, rfl, hq, hr, hx3⟩
  have hx4 : Ext w w3 := Ext.step (by (repeat (first | exact Below.refl _ _ | assumption | refine Below.drewN ?_ _ | refine Below.drew ?_ | refine Below.setCell ?_ (by first | exact Nat.le_refl _ | (simp; done) | (simp; omega) | omega) _ | refine Below.alloc ?_ (by first | exact Nat.le_refl _ | (simp; done) | (simp; omega) | omega) _))) hx3
  have hz_w3 : w.heap.size + 4 ≤ w3.heap.size := Nat.le_trans (by first | omega | (simp; done) | (simp; omega)) hx3.size
  have hl_w3_0 : w.heap.size < w3.heap.size := Nat.lt_of_lt_of_le (by omega) hz_w3
  have hk_w3_0 : ∀ o, w3.cell? ⟨w.heap.size, o, none⟩ = _ := fun o => hx3.cell (p := ⟨w.heap.size, o, none⟩) (show w.heap.size < _ from (by first | omega | (simp; done) | (simp; omega)))
  have hf_w3_0 : ∀ o, w3.frozen? ⟨w.heap.size, o, none⟩ = _ := fun o => hx3.frozen (p := ⟨w.heap.size, o, none⟩) (show w.heap.size < _ from (by first | omega | (simp; done) | (simp; omega)))
  have hl_w3_1 : w.heap.size + 1 < w3.heap.size := Nat.lt_of_lt_of_le (by omega) hz_w3
  have hk_w3_1 : ∀ o, w3.cell? ⟨w.heap.size + 1, o, none⟩ = _ := fun o => hx3.cell (p := ⟨w.heap.size + 1, o, none⟩) (show w.heap.size + 1 < _ from (by first | omega | (simp; done) | (simp; omega)))
  have hf_w3_1 : ∀ o, w3.frozen? ⟨w.heap.size + 1, o, none⟩ = _ := fun o => hx3.frozen (p := ⟨w.heap.size + 1, o, none⟩) (show w.heap.size + 1 < _ from (by first | omega | (simp; done) | (simp; omega)))
  have hl_w3_2 : w.heap.size + 2 < w3.heap.size := Nat.lt_of_lt_of_le (by omega) hz_w3
  have hk_w3_2 : ∀ o, w3.cell? ⟨w.heap.size + 2, o, none⟩ = _ := fun o => hx3.cell (p := ⟨w.heap.size + 2, o, none⟩) (show w.heap.size + 2 < _ from (by first | omega | (simp; done) | (simp; omega)))
  have hf_w3_2 : ∀ o, w3.frozen? ⟨w.heap.size + 2, o, none⟩ = _ := fun o => hx3.frozen (p := ⟨w.heap.size + 2, o, none⟩) (show w.heap.size + 2 < _ from (by first | omega | (simp; done) | (simp; omega)))
  have hl_w3_3 : w.heap.size + 3 < w3.heap.size := Nat.lt_of_lt_of_le (by omega) hz_w3
  have hk_w3_3 : ∀ o, w3.cell? ⟨w.heap.size + 3, o, none⟩ = _ := fun o => hx3.cell (p := ⟨w.heap.size + 3, o, none⟩) (show w.heap.size + 3 < _ from (by first | omega | (simp; done) | (simp; omega)))
  have hf_w3_3 : ∀ o, w3.frozen? ⟨w.heap.size + 3, o, none⟩ = _ := fun o => hx3.frozen (p := ⟨w.heap.size + 3, o, none⟩) (show w.heap.size + 3 < _ from (by first | omega | (simp; done) | (simp; omega)))
  obtain ⟨m, HM⟩ : ∃ m, Hid (dr.length = m) := ⟨_, rfl⟩
  obtain ⟨mq, HMQ⟩ : ∃ m, Hid (dq.length = m) := ⟨_, rfl⟩
  rw [HM.out] at hs ⊢
  rw [HMQ.out]
  rw [HM.out] at MN
  rw [HMQ.out] at PL
  go_upto_region 5 with (fail)
  first | refine wp_region_FC (fun W => W.cell? ⟨w.heap.size, 0, none⟩ = some (.bool true) ∧ W.cell? ⟨w.heap.size, 1, none⟩ = some (.slice pa la ca) ∧ W.cell? ⟨w.heap.size + 1, 0, none⟩ = some (.bool false) ∧ W.cell? ⟨w.heap.size + 1, 1, none⟩ = some (.slice pb lb cb) ∧ W.cell? ⟨w.heap.size + 1 + 1, 0, none⟩ = some (.bool false) ∧ W.cell? ⟨w.heap.size + 1 + 1, 1, none⟩ = some (.slice none 0 0) ∧ W.cell? ⟨w.heap.size + 1 + 1 + 1, 0, none⟩ = some (.bool false) ∧ W.cell? ⟨w.heap.size + 1 + 1 + 1, 1, none⟩ = some (.slice none 0 0)) (by kernel_rfl) (by kernel_rfl) ?_ ?_ ?_ | refine wp_region_FCs (fun W => W.cell? ⟨w.heap.size, 0, none⟩ = some (.bool true) ∧ W.cell? ⟨w.heap.size, 1, none⟩ = some (.slice pa la ca) ∧ W.cell? ⟨w.heap.size + 1, 0, none⟩ = some (.bool false) ∧ W.cell? ⟨w.heap.size + 1, 1, none⟩ = some (.slice pb lb cb) ∧ W.cell? ⟨w.heap.size + 1 + 1, 0, none⟩ = some (.bool false) ∧ W.cell? ⟨w.heap.size + 1 + 1, 1, none⟩ = some (.slice none 0 0) ∧ W.cell? ⟨w.heap.size + 1 + 1 + 1, 0, none⟩ = some (.bool false) ∧ W.cell? ⟨w.heap.size + 1 + 1 + 1, 1, none⟩ = some (.slice none 0 0)) ?_ ?_ ?_
  · go_simp
  · (intro W W' h hx hb; have hs := hx.size; (try simp at hs); have hbc : ∀ b o, b < W.heap.size → W'.cell? ⟨b, o, none⟩ = W.cell? ⟨b, o, none⟩ := fun b o h => hb.cell (p := ⟨b, o, none⟩) h; (try dsimp only at h ⊢); simp (disch := omega) only [hbc]; exact h)
  repeat (first | (refine F_skip (by rfl) ?_; simp only [Act.put, List.setIfInBounds_toArray, List.set_cons_zero, List.set_cons_succ]) | (refine F_run (v := ?_) (by rfl) ?_ ?_; rotate_left; (· (intro W hW; (try dsimp only at hW); go_simp; try with_reducible rfl)); simp only [Act.put, List.setIfInBounds_toArray, List.set_cons_zero, List.set_cons_succ]))
  refine F_digit _ 1 (by omega) (by rfl) (by rfl) (by rfl) (by rfl) ?_
  intro g
  simp only [Act.put, List.setIfInBounds_toArray, List.set_cons_zero, List.set_cons_succ]
  repeat (first | (refine F_skip (by rfl) ?_; simp only [Act.put, List.setIfInBounds_toArray, List.set_cons_zero, List.set_cons_succ]) | (refine F_run (v := ?_) (by rfl) ?_ ?_; rotate_left; (· (intro W hW; (try dsimp only at hW); go_simp; try with_reducible rfl)); simp only [Act.put, List.setIfInBounds_toArray, List.set_cons_zero, List.set_cons_succ]))
  refine F_row (val dq + val [1]) (by rfl) (by rfl) (by intro W hW; (try dsimp only at hW); go_simp; exact (PL.out _ _ _ _ (hq.ext hW.1.1) hW.2).mono (by rintro e w' ⟨o, p', c', rfl, hr', _, hx', hv'⟩; exact ⟨_, rfl, o, p', c', rfl, hr', hx', hv'⟩)) ?_
  intro d1 q1 k1 hv1
  simp only [Act.put, List.setIfInBounds_toArray, List.set_cons_zero, List.set_cons_succ]
  repeat (first | (refine F_skip (by rfl) ?_; simp only [Act.put, List.setIfInBounds_toArray, List.set_cons_zero, List.set_cons_succ]) | (refine F_run (v := ?_) (by rfl) ?_ ?_; rotate_left; (· (intro W hW; (try dsimp only at hW); go_simp; try with_reducible rfl)); simp only [Act.put, List.setIfInBounds_toArray, List.set_cons_zero, List.set_cons_succ]))
  refine F_row (val b.d - val dr) (by rfl) (by rfl) (by intro W hW; (try dsimp only at hW); go_simp; exact (MN.out _ _ _ (hx4.trans (hW.1.1.1.mono hx4.size)) (hr.ext hW.1.1.1)).mono (by rintro e w' ⟨o, p', c', rfl, hr', _, hx', hv'⟩; exact ⟨_, rfl, o, p', c', rfl, hr', hx', hv'⟩)) ?_
  intro d2 q2 k2 hv2
  simp only [Act.put, List.setIfInBounds_toArray, List.set_cons_zero, List.set_cons_succ]
  repeat (first | (refine F_skip (by rfl) ?_; simp only [Act.put, List.setIfInBounds_toArray, List.set_cons_zero, List.set_cons_succ]) | (refine F_run (v := ?_) (by rfl) ?_ ?_; rotate_left; (· (intro W hW; (try dsimp only at hW); go_simp; try with_reducible rfl)); simp only [Act.put, List.setIfInBounds_toArray, List.set_cons_zero, List.set_cons_succ]))
  rintro w4 ⟨⟨⟨⟨hx9, hc9⟩, _⟩, hr1⟩, hr2⟩
  have hx10 : Ext w w4 := Ext.step hx4 hx9
  have R1 := Lib.hid hr1
  have R2 := Lib.hid hr2
  clear hc9 hr1 hr2 hq hr
  have hz_w4 : w.heap.size + 4 ≤ w4.heap.size := Nat.le_trans (by first | omega | (simp; done) | (simp; omega)) hx9.size
  have hl_w4_0 : w.heap.size < w4.heap.size := Nat.lt_of_lt_of_le (by omega) hz_w4
  have hk_w4_0 : ∀ o, w4.cell? ⟨w.heap.size, o, none⟩ = _ := fun o => hx9.cell (p := ⟨w.heap.size, o, none⟩) (show w.heap.size < _ from (by first | omega | (simp; done) | (simp; omega)))
  have hf_w4_0 : ∀ o, w4.frozen? ⟨w.heap.size, o, none⟩ = _ := fun o => hx9.frozen (p := ⟨w.heap.size, o, none⟩) (show w.heap.size < _ from (by first | omega | (simp; done) | (simp; omega)))
  have hl_w4_1 : w.heap.size + 1 < w4.heap.size := Nat.lt_of_lt_of_le (by omega) hz_w4
  have hk_w4_1 : ∀ o, w4.cell? ⟨w.heap.size + 1, o, none⟩ = _ := fun o => hx9.cell (p := ⟨w.heap.size + 1, o, none⟩) (show w.heap.size + 1 < _ from (by first | omega | (simp; done) | (simp; omega)))
  have hf_w4_1 : ∀ o, w4.frozen? ⟨w.heap.size + 1, o, none⟩ = _ := fun o => hx9.frozen (p := ⟨w.heap.size + 1, o, none⟩) (show w.heap.size + 1 < _ from (by first | omega | (simp; done) | (simp; omega)))
  have hl_w4_2 : w.heap.size + 2 < w4.heap.size := Nat.lt_of_lt_of_le (by omega) hz_w4
  have hk_w4_2 : ∀ o, w4.cell? ⟨w.heap.size + 2, o, none⟩ = _ := fun o => hx9.cell (p := ⟨w.heap.size + 2, o, none⟩) (show w.heap.size + 2 < _ from (by first | omega | (simp; done) | (simp; omega)))
  have hf_w4_2 : ∀ o, w4.frozen? ⟨w.heap.size + 2, o, none⟩ = _ := fun o => hx9.frozen (p := ⟨w.heap.size + 2, o, none⟩) (show w.heap.size + 2 < _ from (by first | omega | (simp; done) | (simp; omega)))
  have hl_w4_3 : w.heap.size + 3 < w4.heap.size := Nat.lt_of_lt_of_le (by omega) hz_w4
  have hk_w4_3 : ∀ o, w4.cell? ⟨w.heap.size + 3, o, none⟩ = _ := fun o => hx9.cell (p := ⟨w.heap.size + 3, o, none⟩) (show w.heap.size + 3 < _ from (by first | omega | (simp; done) | (simp; omega)))
  have hf_w4_3 : ∀ o, w4.frozen? ⟨w.heap.size + 3, o, none⟩ = _ := fun o => hx9.frozen (p := ⟨w.heap.size + 3, o, none⟩) (show w.heap.size + 3 < _ from (by first | omega | (simp; done) | (simp; omega)))
  go_wp2_with fail
  refine (MK1.out d1 _ _ _ R1.out hv1).mono ?_
  rintro e w5 ⟨n5, p5, l5, c5, rfl, hn5, hnew5, hx5⟩
  have hx6 : Ext w w5 := Ext.step hx10 hx5
  have hz_w5 : w.heap.size + 4 ≤ w5.heap.size := Nat.le_trans (by first | omega | (simp; done) | (simp; omega)) hx5.size
  have hl_w5_0 : w.heap.size < w5.heap.size := Nat.lt_of_lt_of_le (by omega) hz_w5
  have hk_w5_0 : ∀ o, w5.cell? ⟨w.heap.size, o, none⟩ = _ := fun o => hx5.cell (p := ⟨w.heap.size, o, none⟩) (show w.heap.size < _ from (by first | omega | (simp; done) | (simp; omega)))
  have hf_w5_0 : ∀ o, w5.frozen? ⟨w.heap.size, o, none⟩ = _ := fun o => hx5.frozen (p := ⟨w.heap.size, o, none⟩) (show w.heap.size < _ from (by first | omega | (simp; done) | (simp; omega)))
  have hl_w5_1 : w.heap.size + 1 < w5.heap.size := Nat.lt_of_lt_of_le (by omega) hz_w5
  have hk_w5_1 : ∀ o, w5.cell? ⟨w.heap.size + 1, o, none⟩ = _ := fun o => hx5.cell (p := ⟨w.heap.size + 1, o, none⟩) (show w.heap.size + 1 < _ from (by first | omega | (simp; done) | (simp; omega)))
  have hf_w5_1 : ∀ o, w5.frozen? ⟨w.heap.size + 1, o, none⟩ = _ := fun o => hx5.frozen (p := ⟨w.heap.size + 1, o, none⟩) (show w.heap.size + 1 < _ from (by first | omega | (simp; done) | (simp; omega)))
  have hl_w5_2 : w.heap.size + 2 < w5.heap.size := Nat.lt_of_lt_of_le (by omega) hz_w5
  have hk_w5_2 : ∀ o, w5.cell? ⟨w.heap.size + 2, o, none⟩ = _ := fun o => hx5.cell (p := ⟨w.heap.size + 2, o, none⟩) (show w.heap.size + 2 < _ from (by first | omega | (simp; done) | (simp; omega)))
  have hf_w5_2 : ∀ o, w5.frozen? ⟨w.heap.size + 2, o, none⟩ = _ := fun o => hx5.frozen (p := ⟨w.heap.size + 2, o, none⟩) (show w.heap.size + 2 < _ from (by first | omega | (simp; done) | (simp; omega)))
  have hl_w5_3 : w.heap.size + 3 < w5.heap.size := Nat.lt_of_lt_of_le (by omega) hz_w5
  have hk_w5_3 : ∀ o, w5.cell? ⟨w.heap.size + 3, o, none⟩ = _ := fun o => hx5.cell (p := ⟨w.heap.size + 3, o, none⟩) (show w.heap.size + 3 < _ from (by first | omega | (simp; done) | (simp; omega)))
  have hf_w5_3 : ∀ o, w5.frozen? ⟨w.heap.size + 3, o, none⟩ = _ := fun o => hx5.frozen (p := ⟨w.heap.size + 3, o, none⟩) (show w.heap.size + 3 < _ from (by first | omega | (simp; done) | (simp; omega)))
  go_wp2_with fail
  refine (MK2.out d2 _ _ _ (R2.out.ext (hx5.alloc hx5.size _)) hv2).mono ?_
  rintro e w6 ⟨n6, p6, l6, c6, rfl, hn6, hnew6, hx7⟩
  have hx8 : Ext w w6 := Ext.step (by (repeat (first | exact Below.refl _ _ | assumption | refine Below.drewN ?_ _ | refine Below.drew ?_ | refine Below.setCell ?_ (by first | exact Nat.le_refl _ | (simp; done) | (simp; omega) | omega) _ | refine Below.alloc ?_ (by first | exact Nat.le_refl _ | (simp; done) | (simp; omega) | omega) _))) hx7
  have k5a : w6.cell? ⟨w5.heap.size, 0, none⟩ = some (.bool n5) := (hx7.cell (p := ⟨w5.heap.size, 0, none⟩) (by simp)).trans (by go_simp)
  have k5b : w6.cell? ⟨w5.heap.size, 1, none⟩ = some (.slice p5 l5 c5) := (hx7.cell (p := ⟨w5.heap.size, 1, none⟩) (by simp)).trans (by go_simp)
  have k5l : w5.heap.size < w6.heap.size := Nat.lt_of_lt_of_le (by simp) hx7.size
  have hz_w6 : w.heap.size + 4 ≤ w6.heap.size := Nat.le_trans (by first | omega | (simp; done) | (simp; omega)) hx7.size
  have hl_w6_0 : w.heap.size < w6.heap.size := Nat.lt_of_lt_of_le (by omega) hz_w6
  have hk_w6_0 : ∀ o, w6.cell? ⟨w.heap.size, o, none⟩ = _ := fun o => hx7.cell (p := ⟨w.heap.size, o, none⟩) (show w.heap.size < _ from (by first | omega | (simp; done) | (simp; omega)))
  have hf_w6_0 : ∀ o, w6.frozen? ⟨w.heap.size, o, none⟩ = _ := fun o => hx7.frozen (p := ⟨w.heap.size, o, none⟩) (show w.heap.size < _ from (by first | omega | (simp; done) | (simp; omega)))
  have hl_w6_1 : w.heap.size + 1 < w6.heap.size := Nat.lt_of_lt_of_le (by omega) hz_w6
  have hk_w6_1 : ∀ o, w6.cell? ⟨w.heap.size + 1, o, none⟩ = _ := fun o => hx7.cell (p := ⟨w.heap.size + 1, o, none⟩) (show w.heap.size + 1 < _ from (by first | omega | (simp; done) | (simp; omega)))
  have hf_w6_1 : ∀ o, w6.frozen? ⟨w.heap.size + 1, o, none⟩ = _ := fun o => hx7.frozen (p := ⟨w.heap.size + 1, o, none⟩) (show w.heap.size + 1 < _ from (by first | omega | (simp; done) | (simp; omega)))
  have hl_w6_2 : w.heap.size + 2 < w6.heap.size := Nat.lt_of_lt_of_le (by omega) hz_w6
  have hk_w6_2 : ∀ o, w6.cell? ⟨w.heap.size + 2, o, none⟩ = _ := fun o => hx7.cell (p := ⟨w.heap.size + 2, o, none⟩) (show w.heap.size + 2 < _ from (by first | omega | (simp; done) | (simp; omega)))
  have hf_w6_2 : ∀ o, w6.frozen? ⟨w.heap.size + 2, o, none⟩ = _ := fun o => hx7.frozen (p := ⟨w.heap.size + 2, o, none⟩) (show w.heap.size + 2 < _ from (by first | omega | (simp; done) | (simp; omega)))
  have hl_w6_3 : w.heap.size + 3 < w6.heap.size := Nat.lt_of_lt_of_le (by omega) hz_w6
  have hk_w6_3 : ∀ o, w6.cell? ⟨w.heap.size + 3, o, none⟩ = _ := fun o => hx7.cell (p := ⟨w.heap.size + 3, o, none⟩) (show w.heap.size + 3 < _ from (by first | omega | (simp; done) | (simp; omega)))
  have hf_w6_3 : ∀ o, w6.frozen? ⟨w.heap.size + 3, o, none⟩ = _ := fun o => hx7.frozen (p := ⟨w.heap.size + 3, o, none⟩) (show w.heap.size + 3 < _ from (by first | omega | (simp; done) | (simp; omega)))
  have hn5' : NR w6 n5 p5 l5 c5 X := hn5.ext (Below.trans ((Below.refl _ _).alloc (Nat.le_refl _) _) (hx7.mono (by simp)))
  have hnw5 : New w3 p5 := hnew5.mono hx9.size
  have hnw6 : New w3 p6 := hnew6.mono (by have := hx5.size; have := hx9.size; simp; omega)
  have z3 : w.heap.size + 4 ≤ w3.heap.size := hz_w3
  go_upto_region 10 with (fail)
  refine wp_some (fun W => Ext w W ∧ (W.cell? ⟨w.heap.size + 1 + 1, 0, none⟩ = some (.bool false) ∧ W.cell? ⟨w.heap.size + 1 + 1, 1, none⟩ = some (.slice none 0 0) ∧ W.cell? ⟨w.heap.size + 1 + 1 + 1, 0, none⟩ = some (.bool false) ∧ W.cell? ⟨w.heap.size + 1 + 1 + 1, 1, none⟩ = some (.slice none 0 0) ∧ W.cell? ⟨w5.heap.size, 0, none⟩ = some (.bool n5) ∧ W.cell? ⟨w5.heap.size, 1, none⟩ = some (.slice p5 l5 c5) ∧ W.cell? ⟨w6.heap.size, 0, none⟩ = some (.bool n6) ∧ W.cell? ⟨w6.heap.size, 1, none⟩ = some (.slice p6 l6 c6) ∧ (∀ o, W.frozen? ⟨w.heap.size + 1 + 1, o, none⟩ = false) ∧ (∀ o, W.frozen? ⟨w.heap.size + 1 + 1 + 1, o, none⟩ = false) ) ∧ w.heap.size + 4 ≤ W.heap.size ∧ NR W n5 p5 l5 c5 X ∧ NR W n6 p6 l6 c6 Y) ?_ ?_
  · exact ⟨by (repeat (first | exact Below.refl _ _ | assumption | refine Below.drewN ?_ _ | refine Below.drew ?_ | refine Below.setCell ?_ (by first | exact Nat.le_refl _ | (simp; done) | (simp; omega) | omega) _ | refine Below.alloc ?_ (by first | exact Nat.le_refl _ | (simp; done) | (simp; omega) | omega) _)), ⟨by go_simp, by go_simp, by go_simp, by go_simp, by go_simp, by go_simp, by go_simp, by go_simp, by intro o; go_simp, by intro o; go_simp⟩, by simp; omega, hn5'.alloc _, hn6.alloc _⟩
  obtain ⟨A5, HA5⟩ : ∃ x, Hid (w5.heap.size = x) := ⟨_, rfl⟩
  obtain ⟨A6, HA6⟩ : ∃ x, Hid (w6.heap.size = x) := ⟨_, rfl⟩
  have hne1 : w.heap.size + 1 + 1 ≠ A5 := by have := HA5.out; have := hx5.size; have := hx9.size; omega
  have hne2 : w.heap.size + 1 + 1 + 1 ≠ A5 := by have := HA5.out; have := hx5.size; have := hx9.size; omega
  have hne3 : w.heap.size + 1 + 1 ≠ A6 := by have := HA5.out; have := HA6.out; omega
  have hne4 : w.heap.size + 1 + 1 + 1 ≠ A6 := by have := HA5.out; have := HA6.out; omega
  rw [HA5.out, HA6.out]
  rintro V ⟨hxV, ⟨v0, v1, v2, v3, v4, v5, v6, v7, vf1, vf2⟩, hzV, hN5, hN6⟩
  have HN5 := Lib.hid hN5
  have HN6 := Lib.hid hN6
  have HXV := Lib.hid hxV
  have y2 : w.heap.size + 1 + 1 < V.heap.size := by omega
  have y3 : w.heap.size + 1 + 1 + 1 < V.heap.size := by omega
  have Z3 := Lib.hid z3
  have NW5 := Lib.hid hnw5
  have NW6 := Lib.hid hnw6
  clear hN5 hN6 hxV k5a k5b k5l hn5' hn6 hn5 hx8 hx6 hx4 hx7 hx5 hx3 hx0 hx1 hx2 hx hzV z3 hnew5 hnew6 hnw5 hnw6 hx9 hx10
  go_region
  all_goals
    go_wp2
    refine bodyPost_ret (v := .tuple #[.agg #[.bool n5, .slice p5 l5 c5], .agg #[.bool n6, .slice p6 l6 c6], .bool true]) (by simp only [results, Tryd.results11]; go_simp) rfl ?_
    have hN5 := HN5.out
    have hN6 := HN6.out
    have hxV := HXV.out
    have hnw5 := NW5.out
    have hnw6 := NW6.out
    have z3 := Z3.out
    refine ⟨n5, p5, l5, c5, n6, p6, l6, c6, rfl, ?_, ?_, hnw5.mono (by omega), hnw6.mono (by omega), by (repeat (first | exact Below.refl _ _ | assumption | refine Below.drewN ?_ _ | refine Below.drew ?_ | refine Below.setCell ?_ (by first | exact Nat.le_refl _ | (simp; done) | (simp; omega) | omega) _ | refine Below.alloc ?_ (by first | exact Nat.le_refl _ | (simp; done) | (simp; omega) | omega) _))⟩
    · (repeat (first | assumption | exact NR.drew (by assumption) | refine NR.set ?_ (w0 := w3) (by assumption) _ (by first | omega | (simp; done) | (simp; omega)) _ | refine NR.drew ?_))
    · (repeat (first | assumption | exact NR.drew (by assumption) | refine NR.set ?_ (w0 := w3) (by assumption) _ (by first | omega | (simp; done) | (simp; omega)) _ | refine NR.drew ?_))
end Go.Proofs.YtdaaknfmodbjcaaDoor

namespace Go.Proofs.YtdaaknfmodbjcaaDoor
open Go.RowKit

/-- Given what num.divide does at the digits of the two numbers. -/
theorem num_Div (a b : Nm) (na nb : Bool) (pa pb : Option Addr) (la ca lb cb : Nat) (w : World) (ha : NR w na pa la ca a) (hb : NR w nb pb lb cb b)
    (DV : a.right = true → b.right = true → 0 < b.d.length → ∀ W, Ext w W → Calls Tryd.prog 27 #[.slice pa la ca, .slice pb lb cb] W (RetQR W (digs (val a.d / val b.d)) (digs (val a.d % val b.d)))) :
    Calls Tryd.prog 11 #[.agg #[.bool na, .slice pa la ca], .agg #[.bool nb, .slice pb lb cb]] w (RetDiv w (divP a b)) := by
  cases ra : a.right with
  | false => exact Div_no a b na nb pa pb la ca lb cb w ha hb (.inl ra)
  | true =>
    cases rb : b.right with
    | false => exact Div_no a b na nb pa pb la ca lb cb w ha hb (.inr (.inl rb))
    | true =>
      cases hn : b.neg with
      | true => exact Div_no a b na nb pa pb la ca lb cb w ha hb (.inr (.inr (.inl hn)))
      | false =>
        by_cases h0 : b.d.length = 0
        · exact Div_no a b na nb pa pb la ca lb cb w ha hb (.inr (.inr (.inr h0)))
        · have hnb := hb.1
          rw [hn] at hnb
          subst hnb
          have hlb := hb.2.1
          have hna := ha.1
          have da := ha.2.2.dig
          rw [divP_yes ra rb hn (by omega)]
          have D := DV ra rb (by omega)
          have vq : val (digs (val a.d / val b.d)) = val a.d / val b.d := val_digs _
          have vr : val (digs (val a.d % val b.d)) = val a.d % val b.d := val_digs _
          have hbp : 0 < val b.d := tight_pos (b.right_iff.1 rb).2.1 (by omega)
          have hqle : val a.d / val b.d ≤ val a.d := Nat.div_le_self _ _
          have hrle : val a.d % val b.d ≤ val a.d := Nat.mod_le _ _
          have l64 (n : Nat) (h : n ≤ val a.d) : (digs n).length ≤ 64 := by
            refine (digs_length_le _ _).2 (Nat.lt_of_le_of_lt h ?_)
            exact Nat.lt_of_lt_of_le (val_lt da) (Nat.pow_le_pow_right (by omega) (a.right_iff.1 ra).1)
          by_cases hs : a.neg = true ∧ val a.d % val b.d ≠ 0
          · obtain ⟨hneg, hrest⟩ := hs
            rw [hneg] at hna
            subst hna
            have hrb : val a.d % val b.d < val b.d := Nat.mod_lt _ hbp
            have z : a.z = -(val a.d : Int) := by unfold Nm.z; rw [hneg]; rfl
            refine Div_neg a b pa pb la ca lb cb w ha hb ra rb (by omega) _ _ _ _ D ?_ ?_ ?_ (l64 _ hqle) (l64 _ hrle) (by rw [vr]; omega)
            · refine List.length_pos_iff.2 (fun h => hrest ?_)
              exact digs_eq_nil.1 h
            · intro o ho
              rw [vq] at ho
              have := made_nat da ra (succ_le hbp hrest) ho true
              simp only [if_true] at this
              rw [this, z, ((ediv_neg hbp).2 hrest).1]
            · intro o ho
              rw [vr] at ho
              rw [madeP_fit, ho, fit_small]
              · simp only [Bool.false_eq_true, if_false]
                rw [z, ((ediv_neg hbp).2 hrest).2]
              · refine small_of_le hb.2.2.dig rb ?_
                simp only [Bool.false_eq_true, if_false]
                omega
          · refine Div_simple a b na pa pb la ca lb cb w ha hb ra rb (by omega) _ _ _ _ D ?_ ?_ ?_
            · intro h
              rw [hna] at h
              have : val a.d % val b.d = 0 := by
                rcases Nat.eq_zero_or_pos (val a.d % val b.d) with g | g
                · exact g
                · exact absurd ⟨h, by omega⟩ hs
              rw [this, digs_zero]
            · rw [made_nat da ra hqle vq na]
              unfold Nm.z
              rw [hna]
              cases h : a.neg with
              | false => simp only [Bool.false_eq_true, if_false]; rw [ediv_pos.1]
              | true =>
                simp only [if_true]
                have : val a.d % val b.d = 0 := by
                  rcases Nat.eq_zero_or_pos (val a.d % val b.d) with g | g
                  · exact g
                  · exact absurd ⟨h, by omega⟩ hs
                rw [((ediv_neg hbp).1 this).1]
            · rw [made_nat da ra hrle vr false]
              simp only [Bool.false_eq_true, if_false]
              unfold Nm.z
              cases h : a.neg with
              | false => simp only [Bool.false_eq_true, if_false]; rw [ediv_pos.2]
              | true =>
                simp only [if_true]
                have : val a.d % val b.d = 0 := by
                  rcases Nat.eq_zero_or_pos (val a.d % val b.d) with g | g
                  · exact g
                  · exact absurd ⟨h, by omega⟩ hs
                rw [((ediv_neg hbp).1 this).2]
/-- num.divide by a divisor of one digit. -/
theorem num_divide_small (a b : List Nat) (pa pb : Option Addr) (la ca lb cb : Nat) (w : World) (ha : Row w pa ca a) (hb : Row w pb cb b) (hla : la = a.length) (hlb : lb = b.length) (ta : Tight a) (tb : Tight b) (h64 : a.length ≤ 1000) (h1 : b.length = 1) :
    Calls Tryd.prog 27 #[.slice pa la ca, .slice pb lb cb] w (RetQR w (digs (val a / val b)) (digs (val a % val b))) := by
  by_cases hlt : val a < val b
  · exact num_divide_less a b pa pb la ca lb cb w ha hb hla hlb ta tb hlt
  · obtain ⟨x, rfl⟩ : ∃ x, b = [x] := by
      match b, h1 with
      | [x], _ => exact ⟨x, rfl⟩
    have h0 := tight_pos tb (by simp)
    rw [val_one] at h0 hlt ⊢
    exact num_divide_one a x pa pb la ca lb cb w ha hb hla (by rw [hlb]; rfl) ta h0 h64 (by omega)
end Go.Proofs.YtdaaknfmodbjcaaDoor
