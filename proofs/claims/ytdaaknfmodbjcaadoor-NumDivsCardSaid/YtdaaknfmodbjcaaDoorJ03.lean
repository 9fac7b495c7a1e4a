/- Contracts: num.sum, num.Add, num.Sub. -/
import Derived.Test.YtdaaknfmodbjcaaDoorJ02
set_option linter.unusedVariables false
set_option linter.unusedSimpArgs false

namespace Go.Proofs.YtdaaknfmodbjcaaDoor
open Go.RowKit

/-- A sum, the second number with a sign of its own. -/
def sumP (a b : Nm) (neg : Bool) : Nm × Bool := if a.right && b.right then fit (a.z + (if neg then -(val b.d : Int) else val b.d)) else (zero, false)

theorem NR.len {w : World} {n : Bool} {p : Option Addr} {l c : Nat} {a : Nm} (_h : NR w n p l c a) (hr : a.right = true) : a.d.length ≤ 64 := (a.right_iff.1 hr).1
theorem sumP_left {a b : Nm} {neg : Bool} (ha : a.right = false) : sumP a b neg = (zero, false) := by simp [sumP, ha]
theorem sumP_right {a b : Nm} {neg : Bool} (hb : b.right = false) : sumP a b neg = (zero, false) := by simp [sumP, hb]
theorem sumP_plus {a b : Nm} {neg : Bool} {o : List Nat} (ha : a.right = true) (hb : b.right = true) (hn : a.neg = neg) (hv : val o = val a.d + val b.d) : madeP neg o = sumP a b neg := by
  rw [madeP_fit, sumP, ha, hb, hv, Nm.z, hn]
  cases neg <;> simp <;> congr 1 <;> omega
theorem sumP_minus {a b : Nm} {neg : Bool} {o : List Nat} (ha : a.right = true) (hb : b.right = true) (hn : a.neg ≠ neg) (hle : val b.d ≤ val a.d) (hv : val o = val a.d - val b.d) : madeP a.neg o = sumP a b neg := by
  rw [madeP_fit, sumP, ha, hb, hv, Nm.z]
  cases h : a.neg <;> cases neg <;> simp_all <;> congr 1 <;> omega
theorem sumP_other {a b : Nm} {neg : Bool} {o : List Nat} (ha : a.right = true) (hb : b.right = true) (hn : a.neg ≠ neg) (hle : val a.d ≤ val b.d) (hv : val o = val b.d - val a.d) : madeP neg o = sumP a b neg := by
  rw [madeP_fit, sumP, ha, hb, hv, Nm.z]
  cases h : a.neg <;> cases neg <;> simp_all <;> congr 1 <;> omega
theorem cmp_ge {a b : Nm} (ha : a.right = true) (hb : b.right = true) (da : Dig a.d) (db : Dig b.d) : (0 ≤ cmpL a.d b.d ↔ val b.d ≤ val a.d) := by
  rw [cmpL_tight da db (a.right_iff.1 ha).2.1 (b.right_iff.1 hb).2.1]
  unfold cmpN
  split
  · omega
  · split <;> omega

set_option maxRecDepth 100000 in
set_option maxHeartbeats 1000000 in
theorem sum_same (a b : Nm) (neg na nb : Bool) (pa pb : Option Addr) (la ca lb cb : Nat) (w : World) (ha : NR w na pa la ca a) (hb : NR w nb pb lb cb b) (ra : a.right = true) (rb : b.right = true) (hn : a.neg = neg) :
    Calls Tryd.prog 43 #[.agg #[.bool na, .slice pa la ca], .agg #[.bool nb, .slice pb lb cb], .bool neg] w (RetNum w (sumP a b neg)) := by
  have la64 := ha.len ra
  have lb64 := hb.len rb
  have hq : (na == neg) = true := by rw [ha.1, hn]; simp
  have HN := Lib.hid hn
  clear hn
  go_enter Tryd.func43, Tryd.ntmps43
  go_wp2_with fail
  refine (num_Right a _ _ _ _ _ (ha.ext (by (repeat (first | exact Below.refl _ _ | assumption | refine Below.drewN ?_ _ | refine Below.drew ?_ | refine Below.setCell ?_ (by first | exact Nat.le_refl _ | (simp; done) | (simp; omega) | omega) _ | refine Below.alloc ?_ (by first | exact Nat.le_refl _ | (simp; done) | (simp; omega) | omega) _))))).mono ?_
  rintro e w1 ⟨rfl, hx⟩
  rw [ra]
  have hx0 : Ext w w1 := Ext.step (by (repeat (first | exact Below.refl _ _ | assumption | refine Below.drewN ?_ _ | refine Below.drew ?_ | refine Below.setCell ?_ (by first | exact Nat.le_refl _ | (simp; done) | (simp; omega) | omega) _ | refine Below.alloc ?_ (by first | exact Nat.le_refl _ | (simp; done) | (simp; omega) | omega) _))) hx
  have hz_w1 : w.heap.size + 3 ≤ w1.heap.size := Nat.le_trans (by first | omega | (simp; done) | (simp; omega)) hx.size
  have hl_w1_0 : w.heap.size < w1.heap.size := Nat.lt_of_lt_of_le (by omega) hz_w1
  have hk_w1_0 : ∀ o, w1.cell? ⟨w.heap.size, o, none⟩ = _ := fun o => hx.cell (p := ⟨w.heap.size, o, none⟩) (show w.heap.size < _ from (by first | omega | (simp; done) | (simp; omega)))
  have hf_w1_0 : ∀ o, w1.frozen? ⟨w.heap.size, o, none⟩ = _ := fun o => hx.frozen (p := ⟨w.heap.size, o, none⟩) (show w.heap.size < _ from (by first | omega | (simp; done) | (simp; omega)))
  have hl_w1_1 : w.heap.size + 1 < w1.heap.size := Nat.lt_of_lt_of_le (by omega) hz_w1
  have hk_w1_1 : ∀ o, w1.cell? ⟨w.heap.size + 1, o, none⟩ = _ := fun o => hx.cell (p := ⟨w.heap.size + 1, o, none⟩) (show w.heap.size + 1 < _ from (by first | omega | (simp; done) | (simp; omega)))
  have hf_w1_1 : ∀ o, w1.frozen? ⟨w.heap.size + 1, o, none⟩ = _ := fun o => hx.frozen (p := ⟨w.heap.size + 1, o, none⟩) (show w.heap.size + 1 < _ from (by first | omega | (simp; done) | (simp; omega)))
  have hl_w1_2 : w.heap.size + 2 < w1.heap.size := Nat.lt_of_lt_of_le (by omega) hz_w1
  have hk_w1_2 : ∀ o, w1.cell? ⟨w.heap.size + 2, o, none⟩ = _ := fun o => hx.cell (p := ⟨w.heap.size + 2, o, none⟩) (show w.heap.size + 2 < _ from (by first | omega | (simp; done) | (simp; omega)))
  have hf_w1_2 : ∀ o, w1.frozen? ⟨w.heap.size + 2, o, none⟩ = _ := fun o => hx.frozen (p := ⟨w.heap.size + 2, o, none⟩) (show w.heap.size + 2 < _ from (by first | omega | (simp; done) | (simp; omega)))
  go_wp2_with fail
  refine (num_Right b _ _ _ _ _ (hb.ext (by (repeat (first | exact Below.refl _ _ | assumption | refine Below.drewN ?_ _ | refine Below.drew ?_ | refine Below.setCell ?_ (by first | exact Nat.le_refl _ | (simp; done) | (simp; omega) | omega) _ | refine Below.alloc ?_ (by first | exact Nat.le_refl _ | (simp; done) | (simp; omega) | omega) _))))).mono ?_
  rintro e w2 ⟨rfl, hx2⟩
  rw [rb]
  have hx1 : Ext w w2 := Ext.step hx0 hx2
  have hz_w2 : w.heap.size + 3 ≤ w2.heap.size := Nat.le_trans (by first | omega | (simp; done) | (simp; omega)) hx2.size
  have hl_w2_0 : w.heap.size < w2.heap.size := Nat.lt_of_lt_of_le (by omega) hz_w2
  have hk_w2_0 : ∀ o, w2.cell? ⟨w.heap.size, o, none⟩ = _ := fun o => hx2.cell (p := ⟨w.heap.size, o, none⟩) (show w.heap.size < _ from (by first | omega | (simp; done) | (simp; omega)))
  have hf_w2_0 : ∀ o, w2.frozen? ⟨w.heap.size, o, none⟩ = _ := fun o => hx2.frozen (p := ⟨w.heap.size, o, none⟩) (show w.heap.size < _ from (by first | omega | (simp; done) | (simp; omega)))
  have hl_w2_1 : w.heap.size + 1 < w2.heap.size := Nat.lt_of_lt_of_le (by omega) hz_w2
  have hk_w2_1 : ∀ o, w2.cell? ⟨w.heap.size + 1, o, none⟩ = _ := fun o => hx2.cell (p := ⟨w.heap.size + 1, o, none⟩) (show w.heap.size + 1 < _ from (by first | omega | (simp; done) | (simp; omega)))
  have hf_w2_1 : ∀ o, w2.frozen? ⟨w.heap.size + 1, o, none⟩ = _ := fun o => hx2.frozen (p := ⟨w.heap.size + 1, o, none⟩) (show w.heap.size + 1 < _ from (by first | omega | (simp; done) | (simp; omega)))
  have hl_w2_2 : w.heap.size + 2 < w2.heap.size := Nat.lt_of_lt_of_le (by omega) hz_w2
  have hk_w2_2 : ∀ o, w2.cell? ⟨w.heap.size + 2, o, none⟩ = _ := fun o => hx2.cell (p := ⟨w.heap.size + 2, o, none⟩) (show w.heap.size + 2 < _ from (by first | omega | (simp; done) | (simp; omega)))
  have hf_w2_2 : ∀ o, w2.frozen? ⟨w.heap.size + 2, o, none⟩ = _ := fun o => hx2.frozen (p := ⟨w.heap.size + 2, o, none⟩) (show w.heap.size + 2 < _ from (by first | omega | (simp; done) | (simp; omega)))
  go_wp2_with fail
  refine (num_plus a.d b.d _ _ _ _ _ _ _ (ha.2.2.ext (by (repeat (first | exact Below.refl _ _ | assumption | refine Below.drewN ?_ _ | refine Below.drew ?_ | refine Below.setCell ?_ (by first | exact Nat.le_refl _ | (simp; done) | (simp; omega) | omega) _ | refine Below.alloc ?_ (by first | exact Nat.le_refl _ | (simp; done) | (simp; omega) | omega) _)))) (hb.2.2.ext (by (repeat (first | exact Below.refl _ _ | assumption | refine Below.drewN ?_ _ | refine Below.drew ?_ | refine Below.setCell ?_ (by first | exact Nat.le_refl _ | (simp; done) | (simp; omega) | omega) _ | refine Below.alloc ?_ (by first | exact Nat.le_refl _ | (simp; done) | (simp; omega) | omega) _)))) ha.2.1 hb.2.1 (by omega) (by omega)).mono ?_
  rintro e w3 ⟨o, p, c, rfl, hrow, hnew, hx3, hv⟩
  have hx4 : Ext w w3 := Ext.step hx1 hx3
  have hz_w3 : w.heap.size + 3 ≤ w3.heap.size := Nat.le_trans (by first | omega | (simp; done) | (simp; omega)) hx3.size
  have hl_w3_0 : w.heap.size < w3.heap.size := Nat.lt_of_lt_of_le (by omega) hz_w3
  have hk_w3_0 : ∀ o, w3.cell? ⟨w.heap.size, o, none⟩ = _ := fun o => hx3.cell (p := ⟨w.heap.size, o, none⟩) (show w.heap.size < _ from (by first | omega | (simp; done) | (simp; omega)))
  have hf_w3_0 : ∀ o, w3.frozen? ⟨w.heap.size, o, none⟩ = _ := fun o => hx3.frozen (p := ⟨w.heap.size, o, none⟩) (show w.heap.size < _ from (by first | omega | (simp; done) | (simp; omega)))
  have hl_w3_1 : w.heap.size + 1 < w3.heap.size := Nat.lt_of_lt_of_le (by omega) hz_w3
  have hk_w3_1 : ∀ o, w3.cell? ⟨w.heap.size + 1, o, none⟩ = _ := fun o => hx3.cell (p := ⟨w.heap.size + 1, o, none⟩) (show w.heap.size + 1 < _ from (by first | omega | (simp; done) | (simp; omega)))
  have hf_w3_1 : ∀ o, w3.frozen? ⟨w.heap.size + 1, o, none⟩ = _ := fun o => hx3.frozen (p := ⟨w.heap.size + 1, o, none⟩) (show w.heap.size + 1 < _ from (by first | omega | (simp; done) | (simp; omega)))
  have hl_w3_2 : w.heap.size + 2 < w3.heap.size := Nat.lt_of_lt_of_le (by omega) hz_w3
  have hk_w3_2 : ∀ o, w3.cell? ⟨w.heap.size + 2, o, none⟩ = _ := fun o => hx3.cell (p := ⟨w.heap.size + 2, o, none⟩) (show w.heap.size + 2 < _ from (by first | omega | (simp; done) | (simp; omega)))
  have hf_w3_2 : ∀ o, w3.frozen? ⟨w.heap.size + 2, o, none⟩ = _ := fun o => hx3.frozen (p := ⟨w.heap.size + 2, o, none⟩) (show w.heap.size + 2 < _ from (by first | omega | (simp; done) | (simp; omega)))
  have SP := Lib.hid (sumP_plus ra rb HN.out hv)
  clear hv
  go_wp2_with fail
  refine (num_made neg o _ _ _ _ hrow rfl).mono ?_
  rintro e w4 ⟨n', p', l', c', rfl, hnr, hnew', hx5⟩
  rw [SP.out] at hnr ⊢
  have hx6 : Ext w w4 := Ext.step hx4 hx5
  have hz_w4 : w.heap.size + 3 ≤ w4.heap.size := Nat.le_trans (by first | omega | (simp; done) | (simp; omega)) hx5.size
  have hl_w4_0 : w.heap.size < w4.heap.size := Nat.lt_of_lt_of_le (by omega) hz_w4
  have hk_w4_0 : ∀ o, w4.cell? ⟨w.heap.size, o, none⟩ = _ := fun o => hx5.cell (p := ⟨w.heap.size, o, none⟩) (show w.heap.size < _ from (by first | omega | (simp; done) | (simp; omega)))
  have hf_w4_0 : ∀ o, w4.frozen? ⟨w.heap.size, o, none⟩ = _ := fun o => hx5.frozen (p := ⟨w.heap.size, o, none⟩) (show w.heap.size < _ from (by first | omega | (simp; done) | (simp; omega)))
  have hl_w4_1 : w.heap.size + 1 < w4.heap.size := Nat.lt_of_lt_of_le (by omega) hz_w4
  have hk_w4_1 : ∀ o, w4.cell? ⟨w.heap.size + 1, o, none⟩ = _ := fun o => hx5.cell (p := ⟨w.heap.size + 1, o, none⟩) (show w.heap.size + 1 < _ from (by first | omega | (simp; done) | (simp; omega)))
  have hf_w4_1 : ∀ o, w4.frozen? ⟨w.heap.size + 1, o, none⟩ = _ := fun o => hx5.frozen (p := ⟨w.heap.size + 1, o, none⟩) (show w.heap.size + 1 < _ from (by first | omega | (simp; done) | (simp; omega)))
  have hl_w4_2 : w.heap.size + 2 < w4.heap.size := Nat.lt_of_lt_of_le (by omega) hz_w4
  have hk_w4_2 : ∀ o, w4.cell? ⟨w.heap.size + 2, o, none⟩ = _ := fun o => hx5.cell (p := ⟨w.heap.size + 2, o, none⟩) (show w.heap.size + 2 < _ from (by first | omega | (simp; done) | (simp; omega)))
  have hf_w4_2 : ∀ o, w4.frozen? ⟨w.heap.size + 2, o, none⟩ = _ := fun o => hx5.frozen (p := ⟨w.heap.size + 2, o, none⟩) (show w.heap.size + 2 < _ from (by first | omega | (simp; done) | (simp; omega)))
  go_wp2_with fail
  refine bodyPost_ret (v := .tuple #[.agg #[.bool n', .slice p' l' c'], .bool (sumP a b neg).2]) (by simp [results, Tryd.results43, go_sem, *]) rfl ?_
  exact ⟨n', p', l', c', rfl, ⟨hnr.1, hnr.2.1, hnr.2.2.set hnew' _ (by simp; omega) _ |>.set hnew' _ (by simp; omega) _⟩, hnew'.mono (by omega), by (repeat (first | exact Below.refl _ _ | assumption | refine Below.drewN ?_ _ | refine Below.drew ?_ | refine Below.setCell ?_ (by first | exact Nat.le_refl _ | (simp; done) | (simp; omega) | omega) _ | refine Below.alloc ?_ (by first | exact Nat.le_refl _ | (simp; done) | (simp; omega) | omega) _))⟩

set_option maxRecDepth 100000 in
set_option maxHeartbeats 1000000 in
theorem sum_minus (a b : Nm) (neg na nb : Bool) (pa pb : Option Addr) (la ca lb cb : Nat) (w : World) (ha : NR w na pa la ca a) (hb : NR w nb pb lb cb b) (ra : a.right = true) (rb : b.right = true) (hn : a.neg ≠ neg) (hc : val b.d ≤ val a.d) :
    Calls Tryd.prog 43 #[.agg #[.bool na, .slice pa la ca], .agg #[.bool nb, .slice pb lb cb], .bool neg] w (RetNum w (sumP a b neg)) := by
  have la64 := ha.len ra
  have lb64 := hb.len rb
  have hq : (na == neg) = false := by rw [ha.1]; simpa using hn
  have hge : 0 ≤ cmpL a.d b.d := (cmp_ge ra rb ha.2.2.dig hb.2.2.dig).2 hc
  go_enter Tryd.func43, Tryd.ntmps43
  go_wp2_with fail
  refine (num_Right a _ _ _ _ _ (ha.ext (by (repeat (first | exact Below.refl _ _ | assumption | refine Below.drewN ?_ _ | refine Below.drew ?_ | refine Below.setCell ?_ (by first | exact Nat.le_refl _ | (simp; done) | (simp; omega) | omega) _ | refine Below.alloc ?_ (by first | exact Nat.le_refl _ | (simp; done) | (simp; omega) | omega) _))))).mono ?_
  rintro e w1 ⟨rfl, hx⟩
  rw [ra]
  have hx0 : Ext w w1 := Ext.step (by (repeat (first | exact Below.refl _ _ | assumption | refine Below.drewN ?_ _ | refine Below.drew ?_ | refine Below.setCell ?_ (by first | exact Nat.le_refl _ | (simp; done) | (simp; omega) | omega) _ | refine Below.alloc ?_ (by first | exact Nat.le_refl _ | (simp; done) | (simp; omega) | omega) _))) hx
  have hz_w1 : w.heap.size + 3 ≤ w1.heap.size := Nat.le_trans (by first | omega | (simp; done) | (simp; omega)) hx.size
  have hl_w1_0 : w.heap.size < w1.heap.size := Nat.lt_of_lt_of_le (by omega) hz_w1
  have hk_w1_0 : ∀ o, w1.cell? ⟨w.heap.size, o, none⟩ = _ := fun o => hx.cell (p := ⟨w.heap.size, o, none⟩) (show w.heap.size < _ from (by first | omega | (simp; done) | (simp; omega)))
  have hf_w1_0 : ∀ o, w1.frozen? ⟨w.heap.size, o, none⟩ = _ := fun o => hx.frozen (p := ⟨w.heap.size, o, none⟩) (show w.heap.size < _ from (by first | omega | (simp; done) | (simp; omega)))
  have hl_w1_1 : w.heap.size + 1 < w1.heap.size := Nat.lt_of_lt_of_le (by omega) hz_w1
  have hk_w1_1 : ∀ o, w1.cell? ⟨w.heap.size + 1, o, none⟩ = _ := fun o => hx.cell (p := ⟨w.heap.size + 1, o, none⟩) (show w.heap.size + 1 < _ from (by first | omega | (simp; done) | (simp; omega)))
  have hf_w1_1 : ∀ o, w1.frozen? ⟨w.heap.size + 1, o, none⟩ = _ := fun o => hx.frozen (p := ⟨w.heap.size + 1, o, none⟩) (show w.heap.size + 1 < _ from (by first | omega | (simp; done) | (simp; omega)))
  have hl_w1_2 : w.heap.size + 2 < w1.heap.size := Nat.lt_of_lt_of_le (by omega) hz_w1
  have hk_w1_2 : ∀ o, w1.cell? ⟨w.heap.size + 2, o, none⟩ = _ := fun o => hx.cell (p := ⟨w.heap.size + 2, o, none⟩) (show w.heap.size + 2 < _ from (by first | omega | (simp; done) | (simp; omega)))
  have hf_w1_2 : ∀ o, w1.frozen? ⟨w.heap.size + 2, o, none⟩ = _ := fun o => hx.frozen (p := ⟨w.heap.size + 2, o, none⟩) (show w.heap.size + 2 < _ from (by first | omega | (simp; done) | (simp; omega)))
  go_wp2_with fail
  refine (num_Right b _ _ _ _ _ (hb.ext (by (repeat (first | exact Below.refl _ _ | assumption | refine Below.drewN ?_ _ | refine Below.drew ?_ | refine Below.setCell ?_ (by first | exact Nat.le_refl _ | (simp; done) | (simp; omega) | omega) _ | refine Below.alloc ?_ (by first | exact Nat.le_refl _ | (simp; done) | (simp; omega) | omega) _))))).mono ?_
  rintro e w2 ⟨rfl, hx2⟩
  rw [rb]
  have hx1 : Ext w w2 := Ext.step hx0 hx2
  have hz_w2 : w.heap.size + 3 ≤ w2.heap.size := Nat.le_trans (by first | omega | (simp; done) | (simp; omega)) hx2.size
  have hl_w2_0 : w.heap.size < w2.heap.size := Nat.lt_of_lt_of_le (by omega) hz_w2
  have hk_w2_0 : ∀ o, w2.cell? ⟨w.heap.size, o, none⟩ = _ := fun o => hx2.cell (p := ⟨w.heap.size, o, none⟩) (show w.heap.size < _ from (by first | omega | (simp; done) | (simp; omega)))
  have hf_w2_0 : ∀ o, w2.frozen? ⟨w.heap.size, o, none⟩ = _ := fun o => hx2.frozen (p := ⟨w.heap.size, o, none⟩) (show w.heap.size < _ from (by first | omega | (simp; done) | (simp; omega)))
  have hl_w2_1 : w.heap.size + 1 < w2.heap.size := Nat.lt_of_lt_of_le (by omega) hz_w2
  have hk_w2_1 : ∀ o, w2.cell? ⟨w.heap.size + 1, o, none⟩ = _ := fun o => hx2.cell (p := ⟨w.heap.size + 1, o, none⟩) (show w.heap.size + 1 < _ from (by first | omega | (simp; done) | (simp; omega)))
  have hf_w2_1 : ∀ o, w2.frozen? ⟨w.heap.size + 1, o, none⟩ = _ := fun o => hx2.frozen (p := ⟨w.heap.size + 1, o, none⟩) (show w.heap.size + 1 < _ from (by first | omega | (simp; done) | (simp; omega)))
  have hl_w2_2 : w.heap.size + 2 < w2.heap.size := Nat.lt_of_lt_of_le (by omega) hz_w2
  have hk_w2_2 : ∀ o, w2.cell? ⟨w.heap.size + 2, o, none⟩ = _ := fun o => hx2.cell (p := ⟨w.heap.size + 2, o, none⟩) (show w.heap.size + 2 < _ from (by first | omega | (simp; done) | (simp; omega)))
  have hf_w2_2 : ∀ o, w2.frozen? ⟨w.heap.size + 2, o, none⟩ = _ := fun o => hx2.frozen (p := ⟨w.heap.size + 2, o, none⟩) (show w.heap.size + 2 < _ from (by first | omega | (simp; done) | (simp; omega)))
  go_wp2_with fail
  refine (num_compare a.d b.d _ _ _ _ _ _ _ (ha.2.2.ext (by (repeat (first | exact Below.refl _ _ | assumption | refine Below.drewN ?_ _ | refine Below.drew ?_ | refine Below.setCell ?_ (by first | exact Nat.le_refl _ | (simp; done) | (simp; omega) | omega) _ | refine Below.alloc ?_ (by first | exact Nat.le_refl _ | (simp; done) | (simp; omega) | omega) _)))) (hb.2.2.ext (by (repeat (first | exact Below.refl _ _ | assumption | refine Below.drewN ?_ _ | refine Below.drew ?_ | refine Below.setCell ?_ (by first | exact Nat.le_refl _ | (simp; done) | (simp; omega) | omega) _ | refine Below.alloc ?_ (by first | exact Nat.le_refl _ | (simp; done) | (simp; omega) | omega) _)))) ha.2.1 hb.2.1).mono ?_
  rintro e w3 ⟨rfl, hx3⟩
  have hx4 : Ext w w3 := Ext.step hx1 hx3
  have hz_w3 : w.heap.size + 3 ≤ w3.heap.size := Nat.le_trans (by first | omega | (simp; done) | (simp; omega)) hx3.size
  have hl_w3_0 : w.heap.size < w3.heap.size := Nat.lt_of_lt_of_le (by omega) hz_w3
  have hk_w3_0 : ∀ o, w3.cell? ⟨w.heap.size, o, none⟩ = _ := fun o => hx3.cell (p := ⟨w.heap.size, o, none⟩) (show w.heap.size < _ from (by first | omega | (simp; done) | (simp; omega)))
  have hf_w3_0 : ∀ o, w3.frozen? ⟨w.heap.size, o, none⟩ = _ := fun o => hx3.frozen (p := ⟨w.heap.size, o, none⟩) (show w.heap.size < _ from (by first | omega | (simp; done) | (simp; omega)))
  have hl_w3_1 : w.heap.size + 1 < w3.heap.size := Nat.lt_of_lt_of_le (by omega) hz_w3
  have hk_w3_1 : ∀ o, w3.cell? ⟨w.heap.size + 1, o, none⟩ = _ := fun o => hx3.cell (p := ⟨w.heap.size + 1, o, none⟩) (show w.heap.size + 1 < _ from (by first | omega | (simp; done) | (simp; omega)))
  have hf_w3_1 : ∀ o, w3.frozen? ⟨w.heap.size + 1, o, none⟩ = _ := fun o => hx3.frozen (p := ⟨w.heap.size + 1, o, none⟩) (show w.heap.size + 1 < _ from (by first | omega | (simp; done) | (simp; omega)))
  have hl_w3_2 : w.heap.size + 2 < w3.heap.size := Nat.lt_of_lt_of_le (by omega) hz_w3
  have hk_w3_2 : ∀ o, w3.cell? ⟨w.heap.size + 2, o, none⟩ = _ := fun o => hx3.cell (p := ⟨w.heap.size + 2, o, none⟩) (show w.heap.size + 2 < _ from (by first | omega | (simp; done) | (simp; omega)))
  have hf_w3_2 : ∀ o, w3.frozen? ⟨w.heap.size + 2, o, none⟩ = _ := fun o => hx3.frozen (p := ⟨w.heap.size + 2, o, none⟩) (show w.heap.size + 2 < _ from (by first | omega | (simp; done) | (simp; omega)))
  go_wp2_with fail
  go_region_held3 (fun w' => w'.cell? ⟨w.heap.size, 0, none⟩ = some (.bool na) ∧ w'.cell? ⟨w.heap.size, 1, none⟩ = some (.slice pa la ca) ∧ w'.cell? ⟨w.heap.size + 1, 1, none⟩ = some (.slice pb lb cb)) (refine ⟨?_, ?_, ?_⟩ <;> go_simp) (first | (go_at_call 29; refine (num_minus a.d b.d _ _ _ _ _ _ _ (ha.2.2.ext (by (repeat (first | exact Below.refl _ _ | assumption | refine Below.drewN ?_ _ | refine Below.drew ?_ | refine Below.setCell ?_ (by first | exact Nat.le_refl _ | (simp; done) | (simp; omega) | omega) _ | refine Below.alloc ?_ (by first | exact Nat.le_refl _ | (simp; done) | (simp; omega) | omega) _)))) (hb.2.2.ext (by (repeat (first | exact Below.refl _ _ | assumption | refine Below.drewN ?_ _ | refine Below.drew ?_ | refine Below.setCell ?_ (by first | exact Nat.le_refl _ | (simp; done) | (simp; omega) | omega) _ | refine Below.alloc ?_ (by first | exact Nat.le_refl _ | (simp; done) | (simp; omega) | omega) _)))) ha.2.1 hb.2.1 (by omega) (by omega) hc).mono ?_; rintro e w4 ⟨o, p, c, rfl, hrow, hnew, hx5, hv⟩; (have hx6 : Ext w w4 := Ext.step (by (repeat (first | exact Below.refl _ _ | assumption | refine Below.drewN ?_ _ | refine Below.drew ?_ | refine Below.setCell ?_ (by first | exact Nat.le_refl _ | (simp; done) | (simp; omega) | omega) _ | refine Below.alloc ?_ (by first | exact Nat.le_refl _ | (simp; done) | (simp; omega) | omega) _))) hx5); have hz_w4 : w.heap.size + 3 ≤ w4.heap.size := Nat.le_trans (by first | omega | (simp; done) | (simp; omega)) hx5.size; have hl_w4_0 : w.heap.size < w4.heap.size := Nat.lt_of_lt_of_le (by omega) hz_w4; have hk_w4_0 : ∀ o, w4.cell? ⟨w.heap.size, o, none⟩ = _ := fun o => hx5.cell (p := ⟨w.heap.size, o, none⟩) (show w.heap.size < _ from (by first | omega | (simp; done) | (simp; omega))); have hf_w4_0 : ∀ o, w4.frozen? ⟨w.heap.size, o, none⟩ = _ := fun o => hx5.frozen (p := ⟨w.heap.size, o, none⟩) (show w.heap.size < _ from (by first | omega | (simp; done) | (simp; omega))); have hl_w4_1 : w.heap.size + 1 < w4.heap.size := Nat.lt_of_lt_of_le (by omega) hz_w4; have hk_w4_1 : ∀ o, w4.cell? ⟨w.heap.size + 1, o, none⟩ = _ := fun o => hx5.cell (p := ⟨w.heap.size + 1, o, none⟩) (show w.heap.size + 1 < _ from (by first | omega | (simp; done) | (simp; omega))); have hf_w4_1 : ∀ o, w4.frozen? ⟨w.heap.size + 1, o, none⟩ = _ := fun o => hx5.frozen (p := ⟨w.heap.size + 1, o, none⟩) (show w.heap.size + 1 < _ from (by first | omega | (simp; done) | (simp; omega))); have hl_w4_2 : w.heap.size + 2 < w4.heap.size := Nat.lt_of_lt_of_le (by omega) hz_w4; have hk_w4_2 : ∀ o, w4.cell? ⟨w.heap.size + 2, o, none⟩ = _ := fun o => hx5.cell (p := ⟨w.heap.size + 2, o, none⟩) (show w.heap.size + 2 < _ from (by first | omega | (simp; done) | (simp; omega))); have hf_w4_2 : ∀ o, w4.frozen? ⟨w.heap.size + 2, o, none⟩ = _ := fun o => hx5.frozen (p := ⟨w.heap.size + 2, o, none⟩) (show w.heap.size + 2 < _ from (by first | omega | (simp; done) | (simp; omega))); have SP := Lib.hid (sumP_minus ra rb hn hc hv); clear hv) | (go_at_call 30; refine (num_made na o _ _ _ _ hrow rfl).mono ?_; rintro e w5 ⟨n', p', l', c', rfl, hnr, hnew', hx7⟩; (have hx8 : Ext w w5 := Ext.step hx6 hx7); have hz_w5 : w.heap.size + 3 ≤ w5.heap.size := Nat.le_trans (by first | omega | (simp; done) | (simp; omega)) hx7.size; have hl_w5_0 : w.heap.size < w5.heap.size := Nat.lt_of_lt_of_le (by omega) hz_w5; have hk_w5_0 : ∀ o, w5.cell? ⟨w.heap.size, o, none⟩ = _ := fun o => hx7.cell (p := ⟨w.heap.size, o, none⟩) (show w.heap.size < _ from (by first | omega | (simp; done) | (simp; omega))); have hf_w5_0 : ∀ o, w5.frozen? ⟨w.heap.size, o, none⟩ = _ := fun o => hx7.frozen (p := ⟨w.heap.size, o, none⟩) (show w.heap.size < _ from (by first | omega | (simp; done) | (simp; omega))); have hl_w5_1 : w.heap.size + 1 < w5.heap.size := Nat.lt_of_lt_of_le (by omega) hz_w5; have hk_w5_1 : ∀ o, w5.cell? ⟨w.heap.size + 1, o, none⟩ = _ := fun o => hx7.cell (p := ⟨w.heap.size + 1, o, none⟩) (show w.heap.size + 1 < _ from (by first | omega | (simp; done) | (simp; omega))); have hf_w5_1 : ∀ o, w5.frozen? ⟨w.heap.size + 1, o, none⟩ = _ := fun o => hx7.frozen (p := ⟨w.heap.size + 1, o, none⟩) (show w.heap.size + 1 < _ from (by first | omega | (simp; done) | (simp; omega))); have hl_w5_2 : w.heap.size + 2 < w5.heap.size := Nat.lt_of_lt_of_le (by omega) hz_w5; have hk_w5_2 : ∀ o, w5.cell? ⟨w.heap.size + 2, o, none⟩ = _ := fun o => hx7.cell (p := ⟨w.heap.size + 2, o, none⟩) (show w.heap.size + 2 < _ from (by first | omega | (simp; done) | (simp; omega))); have hf_w5_2 : ∀ o, w5.frozen? ⟨w.heap.size + 2, o, none⟩ = _ := fun o => hx7.frozen (p := ⟨w.heap.size + 2, o, none⟩) (show w.heap.size + 2 < _ from (by first | omega | (simp; done) | (simp; omega)))))
  have hn1 := ha.1
  rw [hn1, SP.out] at hnr
  have HNR := Lib.hid hnr
  rw [hn1, SP.out]
  clear hn1 hnr
  go_wp2_with fail
  refine bodyPost_ret (v := .tuple #[.agg #[.bool n', .slice p' l' c'], .bool (sumP a b neg).2]) (by simp [results, Tryd.results43, go_sem, *]) rfl ?_
  exact ⟨n', p', l', c', rfl, ⟨HNR.out.1, HNR.out.2.1, HNR.out.2.2.set hnew' _ (by simp; omega) _ |>.set hnew' _ (by simp; omega) _⟩, hnew'.mono (by omega), by (repeat (first | exact Below.refl _ _ | assumption | refine Below.drewN ?_ _ | refine Below.drew ?_ | refine Below.setCell ?_ (by first | exact Nat.le_refl _ | (simp; done) | (simp; omega) | omega) _ | refine Below.alloc ?_ (by first | exact Nat.le_refl _ | (simp; done) | (simp; omega) | omega) _))⟩

set_option maxRecDepth 100000 in
set_option maxHeartbeats 1000000 in
theorem sum_other (a b : Nm) (neg na nb : Bool) (pa pb : Option Addr) (la ca lb cb : Nat) (w : World) (ha : NR w na pa la ca a) (hb : NR w nb pb lb cb b) (ra : a.right = true) (rb : b.right = true) (hn : a.neg ≠ neg) (hc : ¬ val b.d ≤ val a.d) :
    Calls Tryd.prog 43 #[.agg #[.bool na, .slice pa la ca], .agg #[.bool nb, .slice pb lb cb], .bool neg] w (RetNum w (sumP a b neg)) := by
  have la64 := ha.len ra
  have lb64 := hb.len rb
  have hq : (na == neg) = false := by rw [ha.1]; simpa using hn
  have hlt : cmpL a.d b.d < 0 := by
    have h1 := cmp_ge ra rb ha.2.2.dig hb.2.2.dig
    rcases Int.lt_or_le (cmpL a.d b.d) 0 with h | h
    · exact h
    · exact absurd (h1.1 h) hc
  go_enter Tryd.func43, Tryd.ntmps43
  go_wp2_with fail
  refine (num_Right a _ _ _ _ _ (ha.ext (by (repeat (first | exact Below.refl _ _ | assumption | refine Below.drewN ?_ _ | refine Below.drew ?_ | refine Below.setCell ?_ (by first | exact Nat.le_refl _ | (simp; done) | (simp; omega) | omega) _ | refine Below.alloc ?_ (by first | exact Nat.le_refl _ | (simp; done) | (simp; omega) | omega) _))))).mono ?_
  rintro e w1 ⟨rfl, hx⟩
  rw [ra]
  have hx0 : Ext w w1 := Ext.step (by (repeat (first | exact Below.refl _ _ | assumption | refine Below.drewN ?_ _ | refine Below.drew ?_ | refine Below.setCell ?_ (by first | exact Nat.le_refl _ | (simp; done) | (simp; omega) | omega) _ | refine Below.alloc ?_ (by first | exact Nat.le_refl _ | (simp; done) | (simp; omega) | omega) _))) hx
  have hz_w1 : w.heap.size + 3 ≤ w1.heap.size := Nat.le_trans (by first | omega | (simp; done) | (simp; omega)) hx.size
  have hl_w1_0 : w.heap.size < w1.heap.size := Nat.lt_of_lt_of_le (by omega) hz_w1
  have hk_w1_0 : ∀ o, w1.cell? ⟨w.heap.size, o, none⟩ = _ := fun o => hx.cell (p := ⟨w.heap.size, o, none⟩) (show w.heap.size < _ from (by first | omega | (simp; done) | (simp; omega)))
  have hf_w1_0 : ∀ o, w1.frozen? ⟨w.heap.size, o, none⟩ = _ := fun o => hx.frozen (p := ⟨w.heap.size, o, none⟩) (show w.heap.size < _ from (by first | omega | (simp; done) | (simp; omega)))
  have hl_w1_1 : w.heap.size + 1 < w1.heap.size := Nat.lt_of_lt_of_le (by omega) hz_w1
  have hk_w1_1 : ∀ o, w1.cell? ⟨w.heap.size + 1, o, none⟩ = _ := fun o => hx.cell (p := ⟨w.heap.size + 1, o, none⟩) (show w.heap.size + 1 < _ from (by first | omega | (simp; done) | (simp; omega)))
  have hf_w1_1 : ∀ o, w1.frozen? ⟨w.heap.size + 1, o, none⟩ = _ := fun o => hx.frozen (p := ⟨w.heap.size + 1, o, none⟩) (show w.heap.size + 1 < _ from (by first | omega | (simp; done) | (simp; omega)))
  have hl_w1_2 : w.heap.size + 2 < w1.heap.size := Nat.lt_of_lt_of_le (by omega) hz_w1
  have hk_w1_2 : ∀ o, w1.cell? ⟨w.heap.size + 2, o, none⟩ = _ := fun o => hx.cell (p := ⟨w.heap.size + 2, o, none⟩) (show w.heap.size + 2 < _ from (by first | omega | (simp; done) | (simp; omega)))
  have hf_w1_2 : ∀ o, w1.frozen? ⟨w.heap.size + 2, o, none⟩ = _ := fun o => hx.frozen (p := ⟨w.heap.size + 2, o, none⟩) (show w.heap.size + 2 < _ from (by first | omega | (simp; done) | (simp; omega)))
  go_wp2_with fail
  refine (num_Right b _ _ _ _ _ (hb.ext (by (repeat (first | exact Below.refl _ _ | assumption | refine Below.drewN ?_ _ | refine Below.drew ?_ | refine Below.setCell ?_ (by first | exact Nat.le_refl _ | (simp; done) | (simp; omega) | omega) _ | refine Below.alloc ?_ (by first | exact Nat.le_refl _ | (simp; done) | (simp; omega) | omega) _))))).mono ?_
  rintro e w2 ⟨rfl, hx2⟩
  rw [rb]
  have hx1 : Ext w w2 := Ext.step hx0 hx2
  have hz_w2 : w.heap.size + 3 ≤ w2.heap.size := Nat.le_trans (by first | omega | (simp; done) | (simp; omega)) hx2.size
  have hl_w2_0 : w.heap.size < w2.heap.size := Nat.lt_of_lt_of_le (by omega) hz_w2
  have hk_w2_0 : ∀ o, w2.cell? ⟨w.heap.size, o, none⟩ = _ := fun o => hx2.cell (p := ⟨w.heap.size, o, none⟩) (show w.heap.size < _ from (by first | omega | (simp; done) | (simp; omega)))
  have hf_w2_0 : ∀ o, w2.frozen? ⟨w.heap.size, o, none⟩ = _ := fun o => hx2.frozen (p := ⟨w.heap.size, o, none⟩) (show w.heap.size < _ from (by first | omega | (simp; done) | (simp; omega)))
  have hl_w2_1 : w.heap.size + 1 < w2.heap.size := Nat.lt_of_lt_of_le (by omega) hz_w2
  have hk_w2_1 : ∀ o, w2.cell? ⟨w.heap.size + 1, o, none⟩ = _ := fun o => hx2.cell (p := ⟨w.heap.size + 1, o, none⟩) (show w.heap.size + 1 < _ from (by first | omega | (simp; done) | (simp; omega)))
  have hf_w2_1 : ∀ o, w2.frozen? ⟨w.heap.size + 1, o, none⟩ = _ := fun o => hx2.frozen (p := ⟨w.heap.size + 1, o, none⟩) (show w.heap.size + 1 < _ from (by first | omega | (simp; done) | (simp; omega)))
  have hl_w2_2 : w.heap.size + 2 < w2.heap.size := Nat.lt_of_lt_of_le (by omega) hz_w2
  have hk_w2_2 : ∀ o, w2.cell? ⟨w.heap.size + 2, o, none⟩ = _ := fun o => hx2.cell (p := ⟨w.heap.size + 2, o, none⟩) (show w.heap.size + 2 < _ from (by first | omega | (simp; done) | (simp; omega)))
  have hf_w2_2 : ∀ o, w2.frozen? ⟨w.heap.size + 2, o, none⟩ = _ := fun o => hx2.frozen (p := ⟨w.heap.size + 2, o, none⟩) (show w.heap.size + 2 < _ from (by first | omega | (simp; done) | (simp; omega)))
  go_wp2_with fail
  refine (num_compare a.d b.d _ _ _ _ _ _ _ (ha.2.2.ext (by (repeat (first | exact Below.refl _ _ | assumption | refine Below.drewN ?_ _ | refine Below.drew ?_ | refine Below.setCell ?_ (by first | exact Nat.le_refl _ | (simp; done) | (simp; omega) | omega) _ | refine Below.alloc ?_ (by first | exact Nat.le_refl _ | (simp; done) | (simp; omega) | omega) _)))) (hb.2.2.ext (by (repeat (first | exact Below.refl _ _ | assumption | refine Below.drewN ?_ _ | refine Below.drew ?_ | refine Below.setCell ?_ (by first | exact Nat.le_refl _ | (simp; done) | (simp; omega) | omega) _ | refine Below.alloc ?_ (by first | exact Nat.le_refl _ | (simp; done) | (simp; omega) | omega) _)))) ha.2.1 hb.2.1).mono ?_
  rintro e w3 ⟨rfl, hx3⟩
  have hx4 : Ext w w3 := Ext.step hx1 hx3
  have hz_w3 : w.heap.size + 3 ≤ w3.heap.size := Nat.le_trans (by first | omega | (simp; done) | (simp; omega)) hx3.size
  have hl_w3_0 : w.heap.size < w3.heap.size := Nat.lt_of_lt_of_le (by omega) hz_w3
  have hk_w3_0 : ∀ o, w3.cell? ⟨w.heap.size, o, none⟩ = _ := fun o => hx3.cell (p := ⟨w.heap.size, o, none⟩) (show w.heap.size < _ from (by first | omega | (simp; done) | (simp; omega)))
  have hf_w3_0 : ∀ o, w3.frozen? ⟨w.heap.size, o, none⟩ = _ := fun o => hx3.frozen (p := ⟨w.heap.size, o, none⟩) (show w.heap.size < _ from (by first | omega | (simp; done) | (simp; omega)))
  have hl_w3_1 : w.heap.size + 1 < w3.heap.size := Nat.lt_of_lt_of_le (by omega) hz_w3
  have hk_w3_1 : ∀ o, w3.cell? ⟨w.heap.size + 1, o, none⟩ = _ := fun o => hx3.cell (p := ⟨w.heap.size + 1, o, none⟩) (show w.heap.size + 1 < _ from (by first | omega | (simp; done) | (simp; omega)))
  have hf_w3_1 : ∀ o, w3.frozen? ⟨w.heap.size + 1, o, none⟩ = _ := fun o => hx3.frozen (p := ⟨w.heap.size + 1, o, none⟩) (show w.heap.size + 1 < _ from (by first | omega | (simp; done) | (simp; omega)))
  have hl_w3_2 : w.heap.size + 2 < w3.heap.size := Nat.lt_of_lt_of_le (by omega) hz_w3
  have hk_w3_2 : ∀ o, w3.cell? ⟨w.heap.size + 2, o, none⟩ = _ := fun o => hx3.cell (p := ⟨w.heap.size + 2, o, none⟩) (show w.heap.size + 2 < _ from (by first | omega | (simp; done) | (simp; omega)))
  have hf_w3_2 : ∀ o, w3.frozen? ⟨w.heap.size + 2, o, none⟩ = _ := fun o => hx3.frozen (p := ⟨w.heap.size + 2, o, none⟩) (show w.heap.size + 2 < _ from (by first | omega | (simp; done) | (simp; omega)))
  go_wp2_with fail
  refine (num_minus b.d a.d _ _ _ _ _ _ _ (hb.2.2.ext (by (repeat (first | exact Below.refl _ _ | assumption | refine Below.drewN ?_ _ | refine Below.drew ?_ | refine Below.setCell ?_ (by first | exact Nat.le_refl _ | (simp; done) | (simp; omega) | omega) _ | refine Below.alloc ?_ (by first | exact Nat.le_refl _ | (simp; done) | (simp; omega) | omega) _)))) (ha.2.2.ext (by (repeat (first | exact Below.refl _ _ | assumption | refine Below.drewN ?_ _ | refine Below.drew ?_ | refine Below.setCell ?_ (by first | exact Nat.le_refl _ | (simp; done) | (simp; omega) | omega) _ | refine Below.alloc ?_ (by first | exact Nat.le_refl _ | (simp; done) | (simp; omega) | omega) _)))) hb.2.1 ha.2.1 (by omega) (by omega) (by omega)).mono ?_
  rintro e w4 ⟨o, p, c, rfl, hrow, hnew, hx5, hv⟩
  have hx6 : Ext w w4 := Ext.step hx4 hx5
  have hz_w4 : w.heap.size + 3 ≤ w4.heap.size := Nat.le_trans (by first | omega | (simp; done) | (simp; omega)) hx5.size
  have hl_w4_0 : w.heap.size < w4.heap.size := Nat.lt_of_lt_of_le (by omega) hz_w4
  have hk_w4_0 : ∀ o, w4.cell? ⟨w.heap.size, o, none⟩ = _ := fun o => hx5.cell (p := ⟨w.heap.size, o, none⟩) (show w.heap.size < _ from (by first | omega | (simp; done) | (simp; omega)))
  have hf_w4_0 : ∀ o, w4.frozen? ⟨w.heap.size, o, none⟩ = _ := fun o => hx5.frozen (p := ⟨w.heap.size, o, none⟩) (show w.heap.size < _ from (by first | omega | (simp; done) | (simp; omega)))
  have hl_w4_1 : w.heap.size + 1 < w4.heap.size := Nat.lt_of_lt_of_le (by omega) hz_w4
  have hk_w4_1 : ∀ o, w4.cell? ⟨w.heap.size + 1, o, none⟩ = _ := fun o => hx5.cell (p := ⟨w.heap.size + 1, o, none⟩) (show w.heap.size + 1 < _ from (by first | omega | (simp; done) | (simp; omega)))
  have hf_w4_1 : ∀ o, w4.frozen? ⟨w.heap.size + 1, o, none⟩ = _ := fun o => hx5.frozen (p := ⟨w.heap.size + 1, o, none⟩) (show w.heap.size + 1 < _ from (by first | omega | (simp; done) | (simp; omega)))
  have hl_w4_2 : w.heap.size + 2 < w4.heap.size := Nat.lt_of_lt_of_le (by omega) hz_w4
  have hk_w4_2 : ∀ o, w4.cell? ⟨w.heap.size + 2, o, none⟩ = _ := fun o => hx5.cell (p := ⟨w.heap.size + 2, o, none⟩) (show w.heap.size + 2 < _ from (by first | omega | (simp; done) | (simp; omega)))
  have hf_w4_2 : ∀ o, w4.frozen? ⟨w.heap.size + 2, o, none⟩ = _ := fun o => hx5.frozen (p := ⟨w.heap.size + 2, o, none⟩) (show w.heap.size + 2 < _ from (by first | omega | (simp; done) | (simp; omega)))
  have SP := Lib.hid (sumP_other ra rb hn (by omega) hv)
  clear hv
  go_wp2_with fail
  refine (num_made neg o _ _ _ _ hrow rfl).mono ?_
  rintro e w6 ⟨n', p', l', c', rfl, hnr, hnew', hx7⟩
  rw [SP.out] at hnr ⊢
  have hx8 : Ext w w6 := Ext.step hx6 hx7
  have hz_w6 : w.heap.size + 3 ≤ w6.heap.size := Nat.le_trans (by first | omega | (simp; done) | (simp; omega)) hx7.size
  have hl_w6_0 : w.heap.size < w6.heap.size := Nat.lt_of_lt_of_le (by omega) hz_w6
  have hk_w6_0 : ∀ o, w6.cell? ⟨w.heap.size, o, none⟩ = _ := fun o => hx7.cell (p := ⟨w.heap.size, o, none⟩) (show w.heap.size < _ from (by first | omega | (simp; done) | (simp; omega)))
  have hf_w6_0 : ∀ o, w6.frozen? ⟨w.heap.size, o, none⟩ = _ := fun o => hx7.frozen (p := ⟨w.heap.size, o, none⟩) (show w.heap.size < _ from (by first | omega | (simp; done) | (simp; omega)))
  have hl_w6_1 : w.heap.size + 1 < w6.heap.size := Nat.lt_of_lt_of_le (by omega) hz_w6
  have hk_w6_1 : ∀ o, w6.cell? ⟨w.heap.size + 1, o, none⟩ = _ := fun o => hx7.cell (p := ⟨w.heap.size + 1, o, none⟩) (show w.heap.size + 1 < _ from (by first | omega | (simp; done) | (simp; omega)))
  have hf_w6_1 : ∀ o, w6.frozen? ⟨w.heap.size + 1, o, none⟩ = _ := fun o => hx7.frozen (p := ⟨w.heap.size + 1, o, none⟩) (show w.heap.size + 1 < _ from (by first | omega | (simp; done) | (simp; omega)))
  have hl_w6_2 : w.heap.size + 2 < w6.heap.size := Nat.lt_of_lt_of_le (by omega) hz_w6
  have hk_w6_2 : ∀ o, w6.cell? ⟨w.heap.size + 2, o, none⟩ = _ := fun o => hx7.cell (p := ⟨w.heap.size + 2, o, none⟩) (show w.heap.size + 2 < _ from (by first | omega | (simp; done) | (simp; omega)))
  have hf_w6_2 : ∀ o, w6.frozen? ⟨w.heap.size + 2, o, none⟩ = _ := fun o => hx7.frozen (p := ⟨w.heap.size + 2, o, none⟩) (show w.heap.size + 2 < _ from (by first | omega | (simp; done) | (simp; omega)))
  go_wp2_with fail
  refine bodyPost_ret (v := .tuple #[.agg #[.bool n', .slice p' l' c'], .bool (sumP a b neg).2]) (by simp [results, Tryd.results43, go_sem, *]) rfl ?_
  exact ⟨n', p', l', c', rfl, ⟨hnr.1, hnr.2.1, hnr.2.2.set hnew' _ (by simp; omega) _ |>.set hnew' _ (by simp; omega) _⟩, hnew'.mono (by omega), by (repeat (first | exact Below.refl _ _ | assumption | refine Below.drewN ?_ _ | refine Below.drew ?_ | refine Below.setCell ?_ (by first | exact Nat.le_refl _ | (simp; done) | (simp; omega) | omega) _ | refine Below.alloc ?_ (by first | exact Nat.le_refl _ | (simp; done) | (simp; omega) | omega) _))⟩

set_option maxRecDepth 100000 in
set_option maxHeartbeats 1000000 in
theorem num_sum (a b : Nm) (neg na nb : Bool) (pa pb : Option Addr) (la ca lb cb : Nat) (w : World) (ha : NR w na pa la ca a) (hb : NR w nb pb lb cb b) :
    Calls Tryd.prog 43 #[.agg #[.bool na, .slice pa la ca], .agg #[.bool nb, .slice pb lb cb], .bool neg] w (RetNum w (sumP a b neg)) := by
  by_cases ra : a.right = true
  · by_cases rb : b.right = true
    · by_cases hn : a.neg = neg
      · exact sum_same a b neg na nb pa pb la ca lb cb w ha hb ra rb hn
      · by_cases hc : val b.d ≤ val a.d
        · exact sum_minus a b neg na nb pa pb la ca lb cb w ha hb ra rb hn hc
        · exact sum_other a b neg na nb pa pb la ca lb cb w ha hb ra rb hn hc
    · have rb : b.right = false := by simpa using rb
      have S := Lib.hid (sumP_right (a := a) (neg := neg) rb)
      go_enter Tryd.func43, Tryd.ntmps43
      go_wp2_with fail
      refine (num_Right a _ _ _ _ _ (ha.ext (by (repeat (first | exact Below.refl _ _ | assumption | refine Below.drewN ?_ _ | refine Below.drew ?_ | refine Below.setCell ?_ (by first | exact Nat.le_refl _ | (simp; done) | (simp; omega) | omega) _ | refine Below.alloc ?_ (by first | exact Nat.le_refl _ | (simp; done) | (simp; omega) | omega) _))))).mono ?_
      rintro e w1 ⟨rfl, hx⟩
      rw [ra]
      have hx0 : Ext w w1 := Ext.step (by (repeat (first | exact Below.refl _ _ | assumption | refine Below.drewN ?_ _ | refine Below.drew ?_ | refine Below.setCell ?_ (by first | exact Nat.le_refl _ | (simp; done) | (simp; omega) | omega) _ | refine Below.alloc ?_ (by first | exact Nat.le_refl _ | (simp; done) | (simp; omega) | omega) _))) hx
      have hz_w1 : w.heap.size + 3 ≤ w1.heap.size := Nat.le_trans (by first | omega | (simp; done) | (simp; omega)) hx.size
      have hl_w1_0 : w.heap.size < w1.heap.size := Nat.lt_of_lt_of_le (by omega) hz_w1
      have hk_w1_0 : ∀ o, w1.cell? ⟨w.heap.size, o, none⟩ = _ := fun o => hx.cell (p := ⟨w.heap.size, o, none⟩) (show w.heap.size < _ from (by first | omega | (simp; done) | (simp; omega)))
      have hf_w1_0 : ∀ o, w1.frozen? ⟨w.heap.size, o, none⟩ = _ := fun o => hx.frozen (p := ⟨w.heap.size, o, none⟩) (show w.heap.size < _ from (by first | omega | (simp; done) | (simp; omega)))
      have hl_w1_1 : w.heap.size + 1 < w1.heap.size := Nat.lt_of_lt_of_le (by omega) hz_w1
      have hk_w1_1 : ∀ o, w1.cell? ⟨w.heap.size + 1, o, none⟩ = _ := fun o => hx.cell (p := ⟨w.heap.size + 1, o, none⟩) (show w.heap.size + 1 < _ from (by first | omega | (simp; done) | (simp; omega)))
      have hf_w1_1 : ∀ o, w1.frozen? ⟨w.heap.size + 1, o, none⟩ = _ := fun o => hx.frozen (p := ⟨w.heap.size + 1, o, none⟩) (show w.heap.size + 1 < _ from (by first | omega | (simp; done) | (simp; omega)))
      have hl_w1_2 : w.heap.size + 2 < w1.heap.size := Nat.lt_of_lt_of_le (by omega) hz_w1
      have hk_w1_2 : ∀ o, w1.cell? ⟨w.heap.size + 2, o, none⟩ = _ := fun o => hx.cell (p := ⟨w.heap.size + 2, o, none⟩) (show w.heap.size + 2 < _ from (by first | omega | (simp; done) | (simp; omega)))
      have hf_w1_2 : ∀ o, w1.frozen? ⟨w.heap.size + 2, o, none⟩ = _ := fun o => hx.frozen (p := ⟨w.heap.size + 2, o, none⟩) (show w.heap.size + 2 < _ from (by first | omega | (simp; done) | (simp; omega)))
      go_wp2_with fail
      refine (num_Right b _ _ _ _ _ (hb.ext (by (repeat (first | exact Below.refl _ _ | assumption | refine Below.drewN ?_ _ | refine Below.drew ?_ | refine Below.setCell ?_ (by first | exact Nat.le_refl _ | (simp; done) | (simp; omega) | omega) _ | refine Below.alloc ?_ (by first | exact Nat.le_refl _ | (simp; done) | (simp; omega) | omega) _))))).mono ?_
      rintro e w2 ⟨rfl, hx2⟩
      rw [rb]
      have hx1 : Ext w w2 := Ext.step hx0 hx2
      have hz_w2 : w.heap.size + 3 ≤ w2.heap.size := Nat.le_trans (by first | omega | (simp; done) | (simp; omega)) hx2.size
      have hl_w2_0 : w.heap.size < w2.heap.size := Nat.lt_of_lt_of_le (by omega) hz_w2
      have hk_w2_0 : ∀ o, w2.cell? ⟨w.heap.size, o, none⟩ = _ := fun o => hx2.cell (p := ⟨w.heap.size, o, none⟩) (show w.heap.size < _ from (by first | omega | (simp; done) | (simp; omega)))
      have hf_w2_0 : ∀ o, w2.frozen? ⟨w.heap.size, o, none⟩ = _ := fun o => hx2.frozen (p := ⟨w.heap.size, o, none⟩) (show w.heap.size < _ from (by first | omega | (simp; done) | (simp; omega)))
      have hl_w2_1 : w.heap.size + 1 < w2.heap.size := Nat.lt_of_lt_of_le (by omega) hz_w2
      have hk_w2_1 : ∀ o, w2.cell? ⟨w.heap.size + 1, o, none⟩ = _ := fun o => hx2.cell (p := ⟨w.heap.size + 1, o, none⟩) (show w.heap.size + 1 < _ from (by first | omega | (simp; done) | (simp; omega)))
      have hf_w2_1 : ∀ o, w2.frozen? ⟨w.heap.size + 1, o, none⟩ = _ := fun o => hx2.frozen (p := ⟨w.heap.size + 1, o, none⟩) (show w.heap.size + 1 < _ from (by first | omega | (simp; done) | (simp; omega)))
      have hl_w2_2 : w.heap.size + 2 < w2.heap.size := Nat.lt_of_lt_of_le (by omega) hz_w2
      have hk_w2_2 : ∀ o, w2.cell? ⟨w.heap.size + 2, o, none⟩ = _ := fun o => hx2.cell (p := ⟨w.heap.size + 2, o, none⟩) (show w.heap.size + 2 < _ from (by first | omega | (simp; done) | (simp; omega)))
      have hf_w2_2 : ∀ o, w2.frozen? ⟨w.heap.size + 2, o, none⟩ = _ := fun o => hx2.frozen (p := ⟨w.heap.size + 2, o, none⟩) (show w.heap.size + 2 < _ from (by first | omega | (simp; done) | (simp; omega)))
      go_wp2_with fail
      refine bodyPost_ret (v := .tuple #[.agg #[.bool false, .slice none 0 0], .bool false]) (by simp [results, Tryd.results43, go_sem, *]) rfl ?_
      rw [S.out]
      exact ⟨false, none, 0, 0, rfl, ⟨rfl, rfl, Row.nil _⟩, New.none _, by (repeat (first | exact Below.refl _ _ | assumption | refine Below.drewN ?_ _ | refine Below.drew ?_ | refine Below.setCell ?_ (by first | exact Nat.le_refl _ | (simp; done) | (simp; omega) | omega) _ | refine Below.alloc ?_ (by first | exact Nat.le_refl _ | (simp; done) | (simp; omega) | omega) _))⟩
  · have ra : a.right = false := by simpa using ra
    have S := Lib.hid (sumP_left (b := b) (neg := neg) ra)
    go_enter Tryd.func43, Tryd.ntmps43
    go_wp2_with fail
    refine (num_Right a _ _ _ _ _ (ha.ext (by (repeat (first | exact Below.refl _ _ | assumption | refine Below.drewN ?_ _ | refine Below.drew ?_ | refine Below.setCell ?_ (by first | exact Nat.le_refl _ | (simp; done) | (simp; omega) | omega) _ | refine Below.alloc ?_ (by first | exact Nat.le_refl _ | (simp; done) | (simp; omega) | omega) _))))).mono ?_
    rintro e w1 ⟨rfl, hx⟩
    rw [ra]
    have hx0 : Ext w w1 := Ext.step (by (repeat (first | exact Below.refl _ _ | assumption | refine Below.drewN ?_ _ | refine Below.drew ?_ | refine Below.setCell ?_ (by first | exact Nat.le_refl _ | (simp; done) | (simp; omega) | omega) _ | refine Below.alloc ?_ (by first | exact Nat.le_refl _ | (simp; done) | (simp; omega) | omega) _))) hx
    have hz_w1 : w.heap.size + 3 ≤ w1.heap.size := Nat.le_trans (by first | omega | (simp; done) | (simp; omega)) hx.size
    have hl_w1_0 : w.heap.size < w1.heap.size := Nat.lt_of_lt_of_le (by omega) hz_w1
    have hk_w1_0 : ∀ o, w1.cell? ⟨w.heap.size, o, none⟩ = _ := fun o => hx.cell (p := ⟨w.heap.size, o, none⟩) (show w.heap.size < _ from (by first | omega | (simp; done) | (simp; omega)))
    have hf_w1_0 : ∀ o, w1.frozen? ⟨w.heap.size, o, none⟩ = _ := fun o => hx.frozen (p := ⟨w.heap.size, o, none⟩) (show w.heap.size < _ from (by first | omega | (simp; done) | (simp; omega)))
    have hl_w1_1 : w.heap.size + 1 < w1.heap.size := Nat.lt_of_lt_of_le (by omega) hz_w1
    have hk_w1_1 : ∀ o, w1.cell? ⟨w.heap.size + 1, o, none⟩ = _ := fun o => hx.cell (p := ⟨w.heap.size + 1, o, none⟩) (show w.heap.size + 1 < _ from (by first | omega | (simp; done) | (simp; omega)))
    have hf_w1_1 : ∀ o, w1.frozen? ⟨w.heap.size + 1, o, none⟩ = _ := fun o => hx.frozen (p := ⟨w.heap.size + 1, o, none⟩) (show w.heap.size + 1 < _ from (by first | omega | (simp; done) | (simp; omega)))
    have hl_w1_2 : w.heap.size + 2 < w1.heap.size := Nat.lt_of_lt_of_le (by omega) hz_w1
    have hk_w1_2 : ∀ o, w1.cell? ⟨w.heap.size + 2, o, none⟩ = _ := fun o => hx.cell (p := ⟨w.heap.size + 2, o, none⟩) (show w.heap.size + 2 < _ from (by first | omega | (simp; done) | (simp; omega)))
    have hf_w1_2 : ∀ o, w1.frozen? ⟨w.heap.size + 2, o, none⟩ = _ := fun o => hx.frozen (p := ⟨w.heap.size + 2, o, none⟩) (show w.heap.size + 2 < _ from (by first | omega | (simp; done) | (simp; omega)))
    go_wp2_with fail
    refine bodyPost_ret (v := .tuple #[.agg #[.bool false, .slice none 0 0], .bool false]) (by simp [results, Tryd.results43, go_sem, *]) rfl ?_
    rw [S.out]
    exact ⟨false, none, 0, 0, rfl, ⟨rfl, rfl, Row.nil _⟩, New.none _, by (repeat (first | exact Below.refl _ _ | assumption | refine Below.drewN ?_ _ | refine Below.drew ?_ | refine Below.setCell ?_ (by first | exact Nat.le_refl _ | (simp; done) | (simp; omega) | omega) _ | refine Below.alloc ?_ (by first | exact Nat.le_refl _ | (simp; done) | (simp; omega) | omega) _))⟩
end Go.Proofs.YtdaaknfmodbjcaaDoor
