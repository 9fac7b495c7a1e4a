/- Contract: etchantref01.Div, no rest under a minus. (Printed by gen_rdiv.py out of the texts on num.Div.) -/
import Derived.Test.YtdaaknfmodbjcaaDoorJ26
import Derived.Test.YtdaaknfmodbjcaaDoorJ10
import Derived.Test.YtdaaknfmodbjcaaDoorJ05
set_option linter.unusedVariables false
set_option linter.unusedSimpArgs false

namespace Go.Proofs.YtdaaknfmodbjcaaDoor
open Go.RowKit
attribute [local go_sem] Gives givesU

set_option maxRecDepth 100000 in
set_option maxHeartbeats 4000000 in
theorem RDiv_simple (a b : Nm) (na : Bool) (pa pb : Option Addr) (la ca lb cb : Nat) (w : World) (ha : NR w na pa la ca a) (hb : NR w false pb lb cb b) (ra : a.right = true) (rb : b.right = true) (hlb : 0 < lb) (dq dr : List Nat) (X Y : Nm)
    (DV : ∀ W, Ext w W → Calls Tryd.prog 32 #[.slice pa la ca, .slice pb lb cb] W (RetQR W dq dr)) (hs : na = true → dr = []) (hX : madeP na dq = (X, true)) (hY : madeP false dr = (Y, true)) :
    Calls Tryd.prog 12 #[.agg #[.bool na, .slice pa la ca], .agg #[.bool false, .slice pb lb cb]] w (RetDiv w (X, Y, true)) := by
  have RA := Lib.hid (fun w' (hx : Ext w w') => r01_Right a na pa la ca w' (ha.ext hx))
  have RB := Lib.hid (fun w' (hx : Ext w w') => r01_Right b false pb lb cb w' (hb.ext hx))
  rw [ra] at RA
  rw [rb] at RB
  have e0 : ((lb : Int) == 0) = false := by rw [beq_eq_false_iff_ne]; omega
  replace DV := Lib.hid DV
  clear hlb ra rb
  have MK1 := Lib.hid (fun p c W (h : Row W p c dq) => by have := r01_made na dq p dq.length c W h rfl; rw [hX] at this; exact this)
  have MK2 := Lib.hid (fun p c W (h : Row W p c dr) => by have := r01_made false dr p dr.length c W h rfl; rw [hY] at this; exact this)
  have HS := Lib.hid hs
  clear hs hX hY
  go_enter Tryd.func12, Tryd.ntmps12
  go_wp2_with fail
  refine (RA.out _ (by (repeat (first | exact Below.refl _ _ | assumption | refine Below.drewN ?_ _ | refine Below.drew ?_ | refine Below.setCell ?_ (by first | exact Nat.le_refl _ | (simp; done) | (simp; omega) | omega) _ | refine Below.alloc ?_ (by first | exact Nat.le_refl _ | (simp; done) | (simp; omega) | omega) _)))).mono ?_
  rintro e w1 ⟨rfl, hx⟩
  have hx0 : Ext w w1 := Ext.step (by (repeat (first | exact Below.refl _ _ | assumption | refine Below.drewN ?_ _ | refine Below.drew ?_ | refine Below.setCell ?_ (by first | exact Nat.le_refl _ | (simp; done) | (simp; omega) | omega) _ | refine Below.alloc ?_ (by first | exact Nat.le_refl _ | (simp; done) | (simp; omega) | omega) _))) hx
  have hz_w1 : w.heap.size + 4 ≤ w1.heap.size := Nat.le_trans (by first | omega | (simp; done) | (simp; omega)) hx.size
  have hl_w1_0 : w.heap.size < w1.heap.size := Nat.lt_of_lt_of_le (by omega) hz_w1
  have hk_w1_0 : ∀ o, w1.cell? ⟨w.heap.size, o, none⟩ = _ := fun o => hx.cell (p := ⟨w.heap.size, o, none⟩) (show w.heap.size < _ from (by first | omega | (simp; done) | (simp; omega)))
  have hf_w1_0 : ∀ o, w1.frozen? ⟨w.heap.size, o, none⟩ = _ := fun o => hx.frozen (p := ⟨w.heap.size, o, none⟩) (show w.heap.size < _ from (by first | omega | (simp; done) | (simp; omega)))
  have hl_w1_1 : w.heap.size + 1 < w1.heap.size := Nat.lt_of_lt_of_le (by omega) hz_w1
  have hk_w1_1 : ∀ o, w1.cell? ⟨w.heap.size + 1, o, none⟩ = _ := fun o => hx.cell (p := ⟨w.heap.size + 1, o, none⟩) (show w.heap.size + 1 < _ from (by first | omega | (simp; done) | (simp; omega)))
  have hf_w1_1 : ∀ o, w1.frozen? ⟨w.heap.size + 1, o, none⟩ = _ := fun o => hx.frozen (p := ⟨w.heap.size + 1, o, none⟩) (show w.heap.size + 1 < _ from (by first | omega | (simp; done) | (simp; omega)))
  have hl_w1_2 : w.heap.size + 2 < w1.heap.size := Nat.lt_of_lt_of_le (by omega) hz_w1
  have hk_w1_2 : ∀ o, w1.cell? ⟨w.heap.size + 2, o, none⟩ = _ := fun o => hx.cell (p := ⟨w.heap.size + 2, o, none⟩) (show w.heap.size + 2 < _ from (by first | omega | (simp; done) | (simp; omega)))
  have hf_w1_2 : ∀ o, w1.frozen? ⟨w.heap.size + 2, o, none⟩ = _ := fun o => hx.frozen (p := ⟨w.heap.size + 2, o, none⟩) (show w.heap.size + 2 < _ from (by first | omega | (simp; done) | (simp; omega)))
  have hl_w1_3 : w.heap.size + 3 < w1.heap.size := Nat.lt_of_lt_of_le (by omega) hz_w1
  have hk_w1_3 : ∀ o, w1.cell? ⟨w.heap.size + 3, o, none⟩ = _ := fun o => hx.cell (p := ⟨w.heap.size + 3, o, none⟩) (show w.heap.size + 3 < _ from (by first | omega | (simp; done) | (simp; omega)))
  have hf_w1_3 : ∀ o, w1.frozen? ⟨w.heap.size + 3, o, none⟩ = _ := fun o => hx.frozen (p := ⟨w.heap.size + 3, o, none⟩) (show w.heap.size + 3 < _ from (by first | omega | (simp; done) | (simp; omega)))
  go_wp2_with fail
  refine (RB.out _ (by (repeat (first | exact Below.refl _ _ | assumption | refine Below.drewN ?_ _ | refine Below.drew ?_ | refine Below.setCell ?_ (by first | exact Nat.le_refl _ | (simp; done) | (simp; omega) | omega) _ | refine Below.alloc ?_ (by first | exact Nat.le_refl _ | (simp; done) | (simp; omega) | omega) _)))).mono ?_
  rintro e w2 ⟨rfl, hx2⟩
  have hx1 : Ext w w2 := Ext.step (by (repeat (first | exact Below.refl _ _ | assumption | refine Below.drewN ?_ _ | refine Below.drew ?_ | refine Below.setCell ?_ (by first | exact Nat.le_refl _ | (simp; done) | (simp; omega) | omega) _ | refine Below.alloc ?_ (by first | exact Nat.le_refl _ | (simp; done) | (simp; omega) | omega) _))) hx2
  have hz_w2 : w.heap.size + 4 ≤ w2.heap.size := Nat.le_trans (by first | omega | (simp; done) | (simp; omega)) hx2.size
  have hl_w2_0 : w.heap.size < w2.heap.size := Nat.lt_of_lt_of_le (by omega) hz_w2
  have hk_w2_0 : ∀ o, w2.cell? ⟨w.heap.size, o, none⟩ = _ := fun o => hx2.cell (p := ⟨w.heap.size, o, none⟩) (show w.heap.size < _ from (by first | omega | (simp; done) | (simp; omega)))
  have hf_w2_0 : ∀ o, w2.frozen? ⟨w.heap.size, o, none⟩ = _ := fun o => hx2.frozen (p := ⟨w.heap.size, o, none⟩) (show w.heap.size < _ from (by first | omega | (simp; done) | (simp; omega)))
  have hl_w2_1 : w.heap.size + 1 < w2.heap.size := Nat.lt_of_lt_of_le (by omega) hz_w2
  have hk_w2_1 : ∀ o, w2.cell? ⟨w.heap.size + 1, o, none⟩ = _ := fun o => hx2.cell (p := ⟨w.heap.size + 1, o, none⟩) (show w.heap.size + 1 < _ from (by first | omega | (simp; done) | (simp; omega)))
  have hf_w2_1 : ∀ o, w2.frozen? ⟨w.heap.size + 1, o, none⟩ = _ := fun o => hx2.frozen (p := ⟨w.heap.size + 1, o, none⟩) (show w.heap.size + 1 < _ from (by first | omega | (simp; done) | (simp; omega)))
  have hl_w2_2 : w.heap.size + 2 < w2.heap.size := Nat.lt_of_lt_of_le (by omega) hz_w2
  have hk_w2_2 : ∀ o, w2.cell? ⟨w.heap.size + 2, o, none⟩ = _ := fun o => hx2.cell (p := ⟨w.heap.size + 2, o, none⟩) (show w.heap.size + 2 < _ from (by first | omega | (simp; done) | (simp; omega)))
  have hf_w2_2 : ∀ o, w2.frozen? ⟨w.heap.size + 2, o, none⟩ = _ := fun o => hx2.frozen (p := ⟨w.heap.size + 2, o, none⟩) (show w.heap.size + 2 < _ from (by first | omega | (simp; done) | (simp; omega)))
  have hl_w2_3 : w.heap.size + 3 < w2.heap.size := Nat.lt_of_lt_of_le (by omega) hz_w2
  have hk_w2_3 : ∀ o, w2.cell? ⟨w.heap.size + 3, o, none⟩ = _ := fun o => hx2.cell (p := ⟨w.heap.size + 3, o, none⟩) (show w.heap.size + 3 < _ from (by first | omega | (simp; done) | (simp; omega)))
  have hf_w2_3 : ∀ o, w2.frozen? ⟨w.heap.size + 3, o, none⟩ = _ := fun o => hx2.frozen (p := ⟨w.heap.size + 3, o, none⟩) (show w.heap.size + 3 < _ from (by first | omega | (simp; done) | (simp; omega)))
  go_wp2_with fail
  refine (DV.out _ (by (repeat (first | exact Below.refl _ _ | assumption | refine Below.drewN ?_ _ | refine Below.drew ?_ | refine Below.setCell ?_ (by first | exact Nat.le_refl _ | (simp; done) | (simp; omega) | omega) _ | refine Below.alloc ?_ (by first | exact Nat.le_refl _ | (simp; done) | (simp; omega) | omega) _)))).mono ?_
  rintro e w3 ⟨p, c, p2, c2, rfl, hq, hr, hx3⟩
  have hx4 : Ext w w3 := Ext.step (by (repeat (first | exact Below.refl _ _ | assumption | refine Below.drewN ?_ _ | refine Below.drew ?_ | refine Below.setCell ?_ (by first | exact Nat.le_refl _ | (simp; done) | (simp; omega) | omega) _ | refine Below.alloc ?_ (by first | exact Nat.le_refl _ | (simp; done) | (simp; omega) | omega) _))) hx3
  have hz_w3 : w.heap.size + 4 ≤ w3.heap.size := Nat.le_trans (by first | omega | (simp; done) | (simp; omega)) hx3.size
  have hl_w3_0 : w.heap.size < w3.heap.size := Nat.lt_of_lt_of_le (by omega) hz_w3
  have hk_w3_0 : ∀ o, w3.cell? ⟨w.heap.size, o, none⟩ = _ := fun o => hx3.cell (p := ⟨w.heap.size, o, none⟩) (show w.heap.size < _ from (by first | omega | (simp; done) | (simp; omega)))
  have hf_w3_0 : ∀ o, w3.frozen? ⟨w.heap.size, o, none⟩ = _ := fun o => hx3.frozen (p := ⟨w.heap.size, o, none⟩) (show w.heap.size < _ from (by first | omega | (simp; done) | (simp; omega)))
  have hl_w3_1 : w.heap.size + 1 < w3.heap.size := Nat.lt_of_lt_of_le (by omega) hz_w3
  have hk_w3_1 : ∀ o, w3.cell? ⟨w.heap.size + 1, o, none⟩ = _ := fun o => hx3.cell (p := ⟨w.heap.size + 1, o, none⟩) (show w.heap.size + 1 < _ from (by first | omega | (simp; done) | (simp; omega)))
  have hf_w3_1 : ∀ o, w3.frozen? ⟨w.heap.size + 1, o, none⟩ = _ := fun o => hx3.frozen (p := ⟨w.heap.size + 1, o, none⟩) (show w.heap.size + 1 < _ from (by first | omega | (simp; done) | (simp; omega)))
  have hl_w3_2 : w.heap.size + 2 < w3.heap.size := Nat.lt_of_lt_of_le (by omega) hz_w3
  have hk_w3_2 : ∀ o, w3.cell? ⟨w.heap.size + 2, o, none⟩ = _ := fun o => hx3.cell (p := ⟨w.heap.size + 2, o, none⟩) (show w.heap.size + 2 < _ from (by first | omega | (simp; done) | (simp; omega)))
  have hf_w3_2 : ∀ o, w3.frozen? ⟨w.heap.size + 2, o, none⟩ = _ := fun o => hx3.frozen (p := ⟨w.heap.size + 2, o, none⟩) (show w.heap.size + 2 < _ from (by first | omega | (simp; done) | (simp; omega)))
  have hl_w3_3 : w.heap.size + 3 < w3.heap.size := Nat.lt_of_lt_of_le (by omega) hz_w3
  have hk_w3_3 : ∀ o, w3.cell? ⟨w.heap.size + 3, o, none⟩ = _ := fun o => hx3.cell (p := ⟨w.heap.size + 3, o, none⟩) (show w.heap.size + 3 < _ from (by first | omega | (simp; done) | (simp; omega)))
  have hf_w3_3 : ∀ o, w3.frozen? ⟨w.heap.size + 3, o, none⟩ = _ := fun o => hx3.frozen (p := ⟨w.heap.size + 3, o, none⟩) (show w.heap.size + 3 < _ from (by first | omega | (simp; done) | (simp; omega)))
  cases na
  · skip
    go_wp2_with fail
    refine (MK1.out _ _ _ (hq.ext (by (repeat (first | exact Below.refl _ _ | assumption | refine Below.drewN ?_ _ | refine Below.drew ?_ | refine Below.setCell ?_ (by first | exact Nat.le_refl _ | (simp; done) | (simp; omega) | omega) _ | refine Below.alloc ?_ (by first | exact Nat.le_refl _ | (simp; done) | (simp; omega) | omega) _))))).mono ?_
    rintro e w5 ⟨n5, p5, l5, c5, rfl, hn5, hnew5, hx5⟩
    have hx6 : Ext w w5 := Ext.step (by (repeat (first | exact Below.refl _ _ | assumption | refine Below.drewN ?_ _ | refine Below.drew ?_ | refine Below.setCell ?_ (by first | exact Nat.le_refl _ | (simp; done) | (simp; omega) | omega) _ | refine Below.alloc ?_ (by first | exact Nat.le_refl _ | (simp; done) | (simp; omega) | omega) _))) hx5
    have hz_w5 : w.heap.size + 4 ≤ w5.heap.size := Nat.le_trans (by first | omega | (simp; done) | (simp; omega)) hx5.size
    have hl_w5_0 : w.heap.size < w5.heap.size := Nat.lt_of_lt_of_le (by omega) hz_w5
    have hk_w5_0 : ∀ o, w5.cell? ⟨w.heap.size, o, none⟩ = _ := fun o => hx5.cell (p := ⟨w.heap.size, o, none⟩) (show w.heap.size < _ from (by first | omega | (simp; done) | (simp; omega)))
    have hf_w5_0 : ∀ o, w5.frozen? ⟨w.heap.size, o, none⟩ = _ := fun o => hx5.frozen (p := ⟨w.heap.size, o, none⟩) (show w.heap.size < _ from (by first | omega | (simp; done) | (simp; omega)))
    have hl_w5_1 : w.heap.size + 1 < w5.heap.size := Nat.lt_of_lt_of_le (by omega) hz_w5
    have hk_w5_1 : ∀ o, w5.cell? ⟨w.heap.size + 1, o, none⟩ = _ := fun o => hx5.cell (p := ⟨w.heap.size + 1, o, none⟩) (show w.heap.size + 1 < _ from (by first | omega | (simp; done) | (simp; omega)))
    have hf_w5_1 : ∀ o, w5.frozen? ⟨w.heap.size + 1, o, none⟩ = _ := fun o => hx5.frozen (p := ⟨w.heap.size + 1, o, none⟩) (show w.heap.size + 1 < _ from (by first | omega | (simp; done) | (simp; omega)))
    have hl_w5_2 : w.heap.size + 2 < w5.heap.size := Nat.lt_of_lt_of_le (by omega) hz_w5
    have hk_w5_2 : ∀ o, w5.cell? ⟨w.heap.size + 2, o, none⟩ = _ := fun o => hx5.cell (p := ⟨w.heap.size + 2, o, none⟩) (show w.heap.size + 2 < _ from (by first | omega | (simp; done) | (simp; omega)))
    have hf_w5_2 : ∀ o, w5.frozen? ⟨w.heap.size + 2, o, none⟩ = _ := fun o => hx5.frozen (p := ⟨w.heap.size + 2, o, none⟩) (show w.heap.size + 2 < _ from (by first | omega | (simp; done) | (simp; omega)))
    have hl_w5_3 : w.heap.size + 3 < w5.heap.size := Nat.lt_of_lt_of_le (by omega) hz_w5
    have hk_w5_3 : ∀ o, w5.cell? ⟨w.heap.size + 3, o, none⟩ = _ := fun o => hx5.cell (p := ⟨w.heap.size + 3, o, none⟩) (show w.heap.size + 3 < _ from (by first | omega | (simp; done) | (simp; omega)))
    have hf_w5_3 : ∀ o, w5.frozen? ⟨w.heap.size + 3, o, none⟩ = _ := fun o => hx5.frozen (p := ⟨w.heap.size + 3, o, none⟩) (show w.heap.size + 3 < _ from (by first | omega | (simp; done) | (simp; omega)))
    go_wp2_with fail
    refine (MK2.out _ _ _ (hr.ext (hx5.alloc hx5.size _))).mono ?_
    rintro e w6 ⟨n6, p6, l6, c6, rfl, hn6, hnew6, hx7⟩
    have hx8 : Ext w w6 := Ext.step (by (repeat (first | exact Below.refl _ _ | assumption | refine Below.drewN ?_ _ | refine Below.drew ?_ | refine Below.setCell ?_ (by first | exact Nat.le_refl _ | (simp; done) | (simp; omega) | omega) _ | refine Below.alloc ?_ (by first | exact Nat.le_refl _ | (simp; done) | (simp; omega) | omega) _))) hx7

    have k5a : w6.cell? ⟨w5.heap.size, 0, none⟩ = some (.bool n5) := (hx7.cell (p := ⟨w5.heap.size, 0, none⟩) (by simp)).trans (by go_simp)
    have k5b : w6.cell? ⟨w5.heap.size, 1, none⟩ = some (.slice p5 l5 c5) := (hx7.cell (p := ⟨w5.heap.size, 1, none⟩) (by simp)).trans (by go_simp)
    have k5l : w5.heap.size < w6.heap.size := Nat.lt_of_lt_of_le (by simp) hx7.size
    have hz_w6 : w.heap.size + 4 ≤ w6.heap.size := Nat.le_trans (by first | omega | (simp; done) | (simp; omega)) hx7.size
    have hl_w6_0 : w.heap.size < w6.heap.size := Nat.lt_of_lt_of_le (by omega) hz_w6
    have hk_w6_0 : ∀ o, w6.cell? ⟨w.heap.size, o, none⟩ = _ := fun o => hx7.cell (p := ⟨w.heap.size, o, none⟩) (show w.heap.size < _ from (by first | omega | (simp; done) | (simp; omega)))
    have hf_w6_0 : ∀ o, w6.frozen? ⟨w.heap.size, o, none⟩ = _ := fun o => hx7.frozen (p := ⟨w.heap.size, o, none⟩) (show w.heap.size < _ from (by first | omega | (simp; done) | (simp; omega)))
    have hl_w6_1 : w.heap.size + 1 < w6.heap.size := Nat.lt_of_lt_of_le (by omega) hz_w6
    have hk_w6_1 : ∀ o, w6.cell? ⟨w.heap.size + 1, o, none⟩ = _ := fun o => hx7.cell (p := ⟨w.heap.size + 1, o, none⟩) (show w.heap.size + 1 < _ from (by first | omega | (simp; done) | (simp; omega)))
    have hf_w6_1 : ∀ o, w6.frozen? ⟨w.heap.size + 1, o, none⟩ = _ := fun o => hx7.frozen (p := ⟨w.heap.size + 1, o, none⟩) (show w.heap.size + 1 < _ from (by first | omega | (simp; done) | (simp; omega)))
    have hl_w6_2 : w.heap.size + 2 < w6.heap.size := Nat.lt_of_lt_of_le (by omega) hz_w6
    have hk_w6_2 : ∀ o, w6.cell? ⟨w.heap.size + 2, o, none⟩ = _ := fun o => hx7.cell (p := ⟨w.heap.size + 2, o, none⟩) (show w.heap.size + 2 < _ from (by first | omega | (simp; done) | (simp; omega)))
    have hf_w6_2 : ∀ o, w6.frozen? ⟨w.heap.size + 2, o, none⟩ = _ := fun o => hx7.frozen (p := ⟨w.heap.size + 2, o, none⟩) (show w.heap.size + 2 < _ from (by first | omega | (simp; done) | (simp; omega)))
    have hl_w6_3 : w.heap.size + 3 < w6.heap.size := Nat.lt_of_lt_of_le (by omega) hz_w6
    have hk_w6_3 : ∀ o, w6.cell? ⟨w.heap.size + 3, o, none⟩ = _ := fun o => hx7.cell (p := ⟨w.heap.size + 3, o, none⟩) (show w.heap.size + 3 < _ from (by first | omega | (simp; done) | (simp; omega)))
    have hf_w6_3 : ∀ o, w6.frozen? ⟨w.heap.size + 3, o, none⟩ = _ := fun o => hx7.frozen (p := ⟨w.heap.size + 3, o, none⟩) (show w.heap.size + 3 < _ from (by first | omega | (simp; done) | (simp; omega)))
    have hn5' : NR w6 n5 p5 l5 c5 X := hn5.ext (Below.trans ((Below.refl _ _).alloc (Nat.le_refl _) _) (hx7.mono (by simp)))
    have hnw5 : New w3 p5 := hnew5.mono (Nat.le_refl w3.heap.size)
    have hnw6 : New w3 p6 := hnew6.mono (by have := hx5.size; have := (Nat.le_refl w3.heap.size); simp; omega)
    have z3 : w.heap.size + 4 ≤ w3.heap.size := hz_w3
    go_upto_region 11 with (fail)
    refine wp_some (fun W => Ext w W ∧ (W.cell? ⟨w.heap.size + 1 + 1, 0, none⟩ = some (.bool false) ∧ W.cell? ⟨w.heap.size + 1 + 1, 1, none⟩ = some (.slice none 0 0) ∧ W.cell? ⟨w.heap.size + 1 + 1 + 1, 0, none⟩ = some (.bool false) ∧ W.cell? ⟨w.heap.size + 1 + 1 + 1, 1, none⟩ = some (.slice none 0 0) ∧ W.cell? ⟨w5.heap.size, 0, none⟩ = some (.bool n5) ∧ W.cell? ⟨w5.heap.size, 1, none⟩ = some (.slice p5 l5 c5) ∧ W.cell? ⟨w6.heap.size, 0, none⟩ = some (.bool n6) ∧ W.cell? ⟨w6.heap.size, 1, none⟩ = some (.slice p6 l6 c6) ∧ (∀ o, W.frozen? ⟨w.heap.size + 1 + 1, o, none⟩ = false) ∧ (∀ o, W.frozen? ⟨w.heap.size + 1 + 1 + 1, o, none⟩ = false) ) ∧ w.heap.size + 4 ≤ W.heap.size ∧ NR W n5 p5 l5 c5 X ∧ NR W n6 p6 l6 c6 Y) ?_ ?_
    · exact ⟨by (repeat (first | exact Below.refl _ _ | assumption | refine Below.drewN ?_ _ | refine Below.drew ?_ | refine Below.setCell ?_ (by first | exact Nat.le_refl _ | (simp; done) | (simp; omega) | omega) _ | refine Below.alloc ?_ (by first | exact Nat.le_refl _ | (simp; done) | (simp; omega) | omega) _)), ⟨by go_simp, by go_simp, by go_simp, by go_simp, by go_simp, by go_simp, by go_simp, by go_simp, by intro o; go_simp, by intro o; go_simp⟩, by simp; omega, hn5'.alloc _, hn6.alloc _⟩
    obtain ⟨A5, HA5⟩ : ∃ x, Hid (w5.heap.size = x) := ⟨_, rfl⟩
    obtain ⟨A6, HA6⟩ : ∃ x, Hid (w6.heap.size = x) := ⟨_, rfl⟩
    have hne1 : w.heap.size + 1 + 1 ≠ A5 := by have := HA5.out; have := hx5.size; have := (Nat.le_refl w3.heap.size); omega
    have hne2 : w.heap.size + 1 + 1 + 1 ≠ A5 := by have := HA5.out; have := hx5.size; have := (Nat.le_refl w3.heap.size); omega
    have hne3 : w.heap.size + 1 + 1 ≠ A6 := by have := HA5.out; have := HA6.out; omega
    have hne4 : w.heap.size + 1 + 1 + 1 ≠ A6 := by have := HA5.out; have := HA6.out; omega
    rw [HA5.out, HA6.out]
    rintro V ⟨hxV, ⟨v0, v1, v2, v3, v4, v5, v6, v7, vf1, vf2⟩, hzV, hN5, hN6⟩
    have HN5 := Lib.hid hN5
    have HN6 := Lib.hid hN6
    have HXV := Lib.hid hxV
    have y2 : w.heap.size + 1 + 1 < V.heap.size := by omega
    have y3 : w.heap.size + 1 + 1 + 1 < V.heap.size := by omega
    have Z3 := Lib.hid z3
    have NW5 := Lib.hid hnw5
    have NW6 := Lib.hid hnw6
    clear hN5 hN6 hxV k5a k5b k5l hn5' hn6 hn5 hx8 hx6 hx4 hx7 hx5 hx3 hx0 hx1 hx2 hx hzV z3 hnew5 hnew6 hnw5 hnw6 hq hr
    go_region
    all_goals
      go_wp2
      refine bodyPost_ret (v := .tuple #[.agg #[.bool n5, .slice p5 l5 c5], .agg #[.bool n6, .slice p6 l6 c6], .bool true]) (by simp only [results, Tryd.results12]; go_simp) rfl ?_
      have hN5 := HN5.out
      have hN6 := HN6.out
      have hxV := HXV.out
      have hnw5 := NW5.out
      have hnw6 := NW6.out
      have z3 := Z3.out
      refine ⟨n5, p5, l5, c5, n6, p6, l6, c6, rfl, ?_, ?_, hnw5.mono (by omega), hnw6.mono (by omega), by (repeat (first | exact Below.refl _ _ | assumption | refine Below.drewN ?_ _ | refine Below.drew ?_ | refine Below.setCell ?_ (by first | exact Nat.le_refl _ | (simp; done) | (simp; omega) | omega) _ | refine Below.alloc ?_ (by first | exact Nat.le_refl _ | (simp; done) | (simp; omega) | omega) _))⟩
      · (repeat (first | assumption | exact NR.drew (by assumption) | refine NR.set ?_ (w0 := w3) (by assumption) _ (by first | omega | (simp; done) | (simp; omega)) _ | refine NR.drew ?_))
      · (repeat (first | assumption | exact NR.drew (by assumption) | refine NR.set ?_ (w0 := w3) (by assumption) _ (by first | omega | (simp; done) | (simp; omega)) _ | refine NR.drew ?_))
  · obtain rfl : dr = [] := HS.out rfl
    go_wp2_with fail
    refine (MK1.out _ _ _ (hq.ext (by (repeat (first | exact Below.refl _ _ | assumption | refine Below.drewN ?_ _ | refine Below.drew ?_ | refine Below.setCell ?_ (by first | exact Nat.le_refl _ | (simp; done) | (simp; omega) | omega) _ | refine Below.alloc ?_ (by first | exact Nat.le_refl _ | (simp; done) | (simp; omega) | omega) _))))).mono ?_
    rintro e w5 ⟨n5, p5, l5, c5, rfl, hn5, hnew5, hx5⟩
    have hx6 : Ext w w5 := Ext.step (by (repeat (first | exact Below.refl _ _ | assumption | refine Below.drewN ?_ _ | refine Below.drew ?_ | refine Below.setCell ?_ (by first | exact Nat.le_refl _ | (simp; done) | (simp; omega) | omega) _ | refine Below.alloc ?_ (by first | exact Nat.le_refl _ | (simp; done) | (simp; omega) | omega) _))) hx5
    have hz_w5 : w.heap.size + 4 ≤ w5.heap.size := Nat.le_trans (by first | omega | (simp; done) | (simp; omega)) hx5.size
    have hl_w5_0 : w.heap.size < w5.heap.size := Nat.lt_of_lt_of_le (by omega) hz_w5
    have hk_w5_0 : ∀ o, w5.cell? ⟨w.heap.size, o, none⟩ = _ := fun o => hx5.cell (p := ⟨w.heap.size, o, none⟩) (show w.heap.size < _ from (by first | omega | (simp; done) | (simp; omega)))
    have hf_w5_0 : ∀ o, w5.frozen? ⟨w.heap.size, o, none⟩ = _ := fun o => hx5.frozen (p := ⟨w.heap.size, o, none⟩) (show w.heap.size < _ from (by first | omega | (simp; done) | (simp; omega)))
    have hl_w5_1 : w.heap.size + 1 < w5.heap.size := Nat.lt_of_lt_of_le (by omega) hz_w5
    have hk_w5_1 : ∀ o, w5.cell? ⟨w.heap.size + 1, o, none⟩ = _ := fun o => hx5.cell (p := ⟨w.heap.size + 1, o, none⟩) (show w.heap.size + 1 < _ from (by first | omega | (simp; done) | (simp; omega)))
    have hf_w5_1 : ∀ o, w5.frozen? ⟨w.heap.size + 1, o, none⟩ = _ := fun o => hx5.frozen (p := ⟨w.heap.size + 1, o, none⟩) (show w.heap.size + 1 < _ from (by first | omega | (simp; done) | (simp; omega)))
    have hl_w5_2 : w.heap.size + 2 < w5.heap.size := Nat.lt_of_lt_of_le (by omega) hz_w5
    have hk_w5_2 : ∀ o, w5.cell? ⟨w.heap.size + 2, o, none⟩ = _ := fun o => hx5.cell (p := ⟨w.heap.size + 2, o, none⟩) (show w.heap.size + 2 < _ from (by first | omega | (simp; done) | (simp; omega)))
    have hf_w5_2 : ∀ o, w5.frozen? ⟨w.heap.size + 2, o, none⟩ = _ := fun o => hx5.frozen (p := ⟨w.heap.size + 2, o, none⟩) (show w.heap.size + 2 < _ from (by first | omega | (simp; done) | (simp; omega)))
    have hl_w5_3 : w.heap.size + 3 < w5.heap.size := Nat.lt_of_lt_of_le (by omega) hz_w5
    have hk_w5_3 : ∀ o, w5.cell? ⟨w.heap.size + 3, o, none⟩ = _ := fun o => hx5.cell (p := ⟨w.heap.size + 3, o, none⟩) (show w.heap.size + 3 < _ from (by first | omega | (simp; done) | (simp; omega)))
    have hf_w5_3 : ∀ o, w5.frozen? ⟨w.heap.size + 3, o, none⟩ = _ := fun o => hx5.frozen (p := ⟨w.heap.size + 3, o, none⟩) (show w.heap.size + 3 < _ from (by first | omega | (simp; done) | (simp; omega)))
    go_wp2_with fail
    refine (MK2.out _ _ _ (hr.ext (hx5.alloc hx5.size _))).mono ?_
    rintro e w6 ⟨n6, p6, l6, c6, rfl, hn6, hnew6, hx7⟩
    have hx8 : Ext w w6 := Ext.step (by (repeat (first | exact Below.refl _ _ | assumption | refine Below.drewN ?_ _ | refine Below.drew ?_ | refine Below.setCell ?_ (by first | exact Nat.le_refl _ | (simp; done) | (simp; omega) | omega) _ | refine Below.alloc ?_ (by first | exact Nat.le_refl _ | (simp; done) | (simp; omega) | omega) _))) hx7

    have k5a : w6.cell? ⟨w5.heap.size, 0, none⟩ = some (.bool n5) := (hx7.cell (p := ⟨w5.heap.size, 0, none⟩) (by simp)).trans (by go_simp)
    have k5b : w6.cell? ⟨w5.heap.size, 1, none⟩ = some (.slice p5 l5 c5) := (hx7.cell (p := ⟨w5.heap.size, 1, none⟩) (by simp)).trans (by go_simp)
    have k5l : w5.heap.size < w6.heap.size := Nat.lt_of_lt_of_le (by simp) hx7.size
    have hz_w6 : w.heap.size + 4 ≤ w6.heap.size := Nat.le_trans (by first | omega | (simp; done) | (simp; omega)) hx7.size
    have hl_w6_0 : w.heap.size < w6.heap.size := Nat.lt_of_lt_of_le (by omega) hz_w6
    have hk_w6_0 : ∀ o, w6.cell? ⟨w.heap.size, o, none⟩ = _ := fun o => hx7.cell (p := ⟨w.heap.size, o, none⟩) (show w.heap.size < _ from (by first | omega | (simp; done) | (simp; omega)))
    have hf_w6_0 : ∀ o, w6.frozen? ⟨w.heap.size, o, none⟩ = _ := fun o => hx7.frozen (p := ⟨w.heap.size, o, none⟩) (show w.heap.size < _ from (by first | omega | (simp; done) | (simp; omega)))
    have hl_w6_1 : w.heap.size + 1 < w6.heap.size := Nat.lt_of_lt_of_le (by omega) hz_w6
    have hk_w6_1 : ∀ o, w6.cell? ⟨w.heap.size + 1, o, none⟩ = _ := fun o => hx7.cell (p := ⟨w.heap.size + 1, o, none⟩) (show w.heap.size + 1 < _ from (by first | omega | (simp; done) | (simp; omega)))
    have hf_w6_1 : ∀ o, w6.frozen? ⟨w.heap.size + 1, o, none⟩ = _ := fun o => hx7.frozen (p := ⟨w.heap.size + 1, o, none⟩) (show w.heap.size + 1 < _ from (by first | omega | (simp; done) | (simp; omega)))
    have hl_w6_2 : w.heap.size + 2 < w6.heap.size := Nat.lt_of_lt_of_le (by omega) hz_w6
    have hk_w6_2 : ∀ o, w6.cell? ⟨w.heap.size + 2, o, none⟩ = _ := fun o => hx7.cell (p := ⟨w.heap.size + 2, o, none⟩) (show w.heap.size + 2 < _ from (by first | omega | (simp; done) | (simp; omega)))
    have hf_w6_2 : ∀ o, w6.frozen? ⟨w.heap.size + 2, o, none⟩ = _ := fun o => hx7.frozen (p := ⟨w.heap.size + 2, o, none⟩) (show w.heap.size + 2 < _ from (by first | omega | (simp; done) | (simp; omega)))
    have hl_w6_3 : w.heap.size + 3 < w6.heap.size := Nat.lt_of_lt_of_le (by omega) hz_w6
    have hk_w6_3 : ∀ o, w6.cell? ⟨w.heap.size + 3, o, none⟩ = _ := fun o => hx7.cell (p := ⟨w.heap.size + 3, o, none⟩) (show w.heap.size + 3 < _ from (by first | omega | (simp; done) | (simp; omega)))
    have hf_w6_3 : ∀ o, w6.frozen? ⟨w.heap.size + 3, o, none⟩ = _ := fun o => hx7.frozen (p := ⟨w.heap.size + 3, o, none⟩) (show w.heap.size + 3 < _ from (by first | omega | (simp; done) | (simp; omega)))
    have hn5' : NR w6 n5 p5 l5 c5 X := hn5.ext (Below.trans ((Below.refl _ _).alloc (Nat.le_refl _) _) (hx7.mono (by simp)))
    have hnw5 : New w3 p5 := hnew5.mono (Nat.le_refl w3.heap.size)
    have hnw6 : New w3 p6 := hnew6.mono (by have := hx5.size; have := (Nat.le_refl w3.heap.size); simp; omega)
    have z3 : w.heap.size + 4 ≤ w3.heap.size := hz_w3
    go_upto_region 11 with (fail)
    refine wp_some (fun W => Ext w W ∧ (W.cell? ⟨w.heap.size + 1 + 1, 0, none⟩ = some (.bool false) ∧ W.cell? ⟨w.heap.size + 1 + 1, 1, none⟩ = some (.slice none 0 0) ∧ W.cell? ⟨w.heap.size + 1 + 1 + 1, 0, none⟩ = some (.bool false) ∧ W.cell? ⟨w.heap.size + 1 + 1 + 1, 1, none⟩ = some (.slice none 0 0) ∧ W.cell? ⟨w5.heap.size, 0, none⟩ = some (.bool n5) ∧ W.cell? ⟨w5.heap.size, 1, none⟩ = some (.slice p5 l5 c5) ∧ W.cell? ⟨w6.heap.size, 0, none⟩ = some (.bool n6) ∧ W.cell? ⟨w6.heap.size, 1, none⟩ = some (.slice p6 l6 c6) ∧ (∀ o, W.frozen? ⟨w.heap.size + 1 + 1, o, none⟩ = false) ∧ (∀ o, W.frozen? ⟨w.heap.size + 1 + 1 + 1, o, none⟩ = false) ) ∧ w.heap.size + 4 ≤ W.heap.size ∧ NR W n5 p5 l5 c5 X ∧ NR W n6 p6 l6 c6 Y) ?_ ?_
    · exact ⟨by (repeat (first | exact Below.refl _ _ | assumption | refine Below.drewN ?_ _ | refine Below.drew ?_ | refine Below.setCell ?_ (by first | exact Nat.le_refl _ | (simp; done) | (simp; omega) | omega) _ | refine Below.alloc ?_ (by first | exact Nat.le_refl _ | (simp; done) | (simp; omega) | omega) _)), ⟨by go_simp, by go_simp, by go_simp, by go_simp, by go_simp, by go_simp, by go_simp, by go_simp, by intro o; go_simp, by intro o; go_simp⟩, by simp; omega, hn5'.alloc _, hn6.alloc _⟩
    obtain ⟨A5, HA5⟩ : ∃ x, Hid (w5.heap.size = x) := ⟨_, rfl⟩
    obtain ⟨A6, HA6⟩ : ∃ x, Hid (w6.heap.size = x) := ⟨_, rfl⟩
    have hne1 : w.heap.size + 1 + 1 ≠ A5 := by have := HA5.out; have := hx5.size; have := (Nat.le_refl w3.heap.size); omega
    have hne2 : w.heap.size + 1 + 1 + 1 ≠ A5 := by have := HA5.out; have := hx5.size; have := (Nat.le_refl w3.heap.size); omega
    have hne3 : w.heap.size + 1 + 1 ≠ A6 := by have := HA5.out; have := HA6.out; omega
    have hne4 : w.heap.size + 1 + 1 + 1 ≠ A6 := by have := HA5.out; have := HA6.out; omega
    rw [HA5.out, HA6.out]
    rintro V ⟨hxV, ⟨v0, v1, v2, v3, v4, v5, v6, v7, vf1, vf2⟩, hzV, hN5, hN6⟩
    have HN5 := Lib.hid hN5
    have HN6 := Lib.hid hN6
    have HXV := Lib.hid hxV
    have y2 : w.heap.size + 1 + 1 < V.heap.size := by omega
    have y3 : w.heap.size + 1 + 1 + 1 < V.heap.size := by omega
    have Z3 := Lib.hid z3
    have NW5 := Lib.hid hnw5
    have NW6 := Lib.hid hnw6
    clear hN5 hN6 hxV k5a k5b k5l hn5' hn6 hn5 hx8 hx6 hx4 hx7 hx5 hx3 hx0 hx1 hx2 hx hzV z3 hnew5 hnew6 hnw5 hnw6 hq hr
    go_region
    all_goals
      go_wp2
      refine bodyPost_ret (v := .tuple #[.agg #[.bool n5, .slice p5 l5 c5], .agg #[.bool n6, .slice p6 l6 c6], .bool true]) (by simp only [results, Tryd.results12]; go_simp) rfl ?_
      have hN5 := HN5.out
      have hN6 := HN6.out
      have hxV := HXV.out
      have hnw5 := NW5.out
      have hnw6 := NW6.out
      have z3 := Z3.out
      refine ⟨n5, p5, l5, c5, n6, p6, l6, c6, rfl, ?_, ?_, hnw5.mono (by omega), hnw6.mono (by omega), by (repeat (first | exact Below.refl _ _ | assumption | refine Below.drewN ?_ _ | refine Below.drew ?_ | refine Below.setCell ?_ (by first | exact Nat.le_refl _ | (simp; done) | (simp; omega) | omega) _ | refine Below.alloc ?_ (by first | exact Nat.le_refl _ | (simp; done) | (simp; omega) | omega) _))⟩
      · (repeat (first | assumption | exact NR.drew (by assumption) | refine NR.set ?_ (w0 := w3) (by assumption) _ (by first | omega | (simp; done) | (simp; omega)) _ | refine NR.drew ?_))
      · (repeat (first | assumption | exact NR.drew (by assumption) | refine NR.set ?_ (w0 := w3) (by assumption) _ (by first | omega | (simp; done) | (simp; omega)) _ | refine NR.drew ?_))
end Go.Proofs.YtdaaknfmodbjcaaDoor
