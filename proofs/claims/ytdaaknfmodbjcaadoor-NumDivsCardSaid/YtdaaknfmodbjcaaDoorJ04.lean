/- Contracts: num.Add, num.Sub, num.Cmp, num.Of. | Contracts: num.Of, etchantref01.Of. -/
import Derived.Test.YtdaaknfmodbjcaaDoorJ03
set_option linter.unusedVariables false
set_option linter.unusedSimpArgs false

namespace Go.Proofs.YtdaaknfmodbjcaaDoor
open Go.RowKit

theorem sumP_sub (a b : Nm) : sumP a b (!b.neg) = subP a b := by
  unfold sumP subP
  have e : (if (!b.neg) = true then -(val b.d : Int) else (val b.d : Int)) = -b.z := by
    unfold Nm.z
    cases b.neg <;> simp
  rw [e]
  rfl
theorem sumP_add (a b : Nm) : sumP a b b.neg = addP a b := rfl
/-- A number that was stored elsewhere. -/
theorem NR.set {w w0 : World} {n : Bool} {p : Option Addr} {l c : Nat} {a : Nm} (h : NR w n p l c a) (hn : New w0 p) (x : Addr) (hx : x.block < w0.heap.size) (v : Value) : NR (w.setCell x v) n p l c a :=
  ⟨h.1, h.2.1, h.2.2.set hn x hx v⟩

set_option maxRecDepth 100000 in
set_option maxHeartbeats 1000000 in
theorem num_Sub (a b : Nm) (na nb : Bool) (pa pb : Option Addr) (la ca lb cb : Nat) (w : World) (ha : NR w na pa la ca a) (hb : NR w nb pb lb cb b) :
    Calls Tryd.prog 20 #[.agg #[.bool na, .slice pa la ca], .agg #[.bool nb, .slice pb lb cb]] w (RetNum w (subP a b)) := by
  have S := Lib.hid (sumP_sub a b)
  have hn1 := hb.1
  subst hn1
  go_enter Tryd.func20, Tryd.ntmps20
  go_wp2_with fail
  refine (num_sum a b _ _ _ _ _ _ _ _ _ _ (ha.ext (by (repeat (first | exact Below.refl _ _ | assumption | refine Below.drewN ?_ _ | refine Below.drew ?_ | refine Below.setCell ?_ (by first | exact Nat.le_refl _ | (simp; done) | (simp; omega) | omega) _ | refine Below.alloc ?_ (by first | exact Nat.le_refl _ | (simp; done) | (simp; omega) | omega) _)))) (hb.ext (by (repeat (first | exact Below.refl _ _ | assumption | refine Below.drewN ?_ _ | refine Below.drew ?_ | refine Below.setCell ?_ (by first | exact Nat.le_refl _ | (simp; done) | (simp; omega) | omega) _ | refine Below.alloc ?_ (by first | exact Nat.le_refl _ | (simp; done) | (simp; omega) | omega) _))))).mono ?_
  rintro e w1 ⟨n', p', l', c', rfl, hnr, hnew, hx⟩
  rw [S.out] at hnr ⊢
  have hx0 : Ext w w1 := Ext.step (by (repeat (first | exact Below.refl _ _ | assumption | refine Below.drewN ?_ _ | refine Below.drew ?_ | refine Below.setCell ?_ (by first | exact Nat.le_refl _ | (simp; done) | (simp; omega) | omega) _ | refine Below.alloc ?_ (by first | exact Nat.le_refl _ | (simp; done) | (simp; omega) | omega) _))) hx
  have hz_w1 : w.heap.size + 3 ≤ w1.heap.size := Nat.le_trans (by first | omega | (simp; done) | (simp; omega)) hx.size
  have hl_w1_0 : w.heap.size < w1.heap.size := Nat.lt_of_lt_of_le (by omega) hz_w1
  have hk_w1_0 : ∀ o, w1.cell? ⟨w.heap.size, o, none⟩ = _ := fun o => hx.cell (p := ⟨w.heap.size, o, none⟩) (show w.heap.size < _ from (by first | omega | (simp; done) | (simp; omega)))
  have hf_w1_0 : ∀ o, w1.frozen? ⟨w.heap.size, o, none⟩ = _ := fun o => hx.frozen (p := ⟨w.heap.size, o, none⟩) (show w.heap.size < _ from (by first | omega | (simp; done) | (simp; omega)))
  have hl_w1_1 : w.heap.size + 1 < w1.heap.size := Nat.lt_of_lt_of_le (by omega) hz_w1
  have hk_w1_1 : ∀ o, w1.cell? ⟨w.heap.size + 1, o, none⟩ = _ := fun o => hx.cell (p := ⟨w.heap.size + 1, o, none⟩) (show w.heap.size + 1 < _ from (by first | omega | (simp; done) | (simp; omega)))
  have hf_w1_1 : ∀ o, w1.frozen? ⟨w.heap.size + 1, o, none⟩ = _ := fun o => hx.frozen (p := ⟨w.heap.size + 1, o, none⟩) (show w.heap.size + 1 < _ from (by first | omega | (simp; done) | (simp; omega)))
  have hl_w1_2 : w.heap.size + 2 < w1.heap.size := Nat.lt_of_lt_of_le (by omega) hz_w1
  have hk_w1_2 : ∀ o, w1.cell? ⟨w.heap.size + 2, o, none⟩ = _ := fun o => hx.cell (p := ⟨w.heap.size + 2, o, none⟩) (show w.heap.size + 2 < _ from (by first | omega | (simp; done) | (simp; omega)))
  have hf_w1_2 : ∀ o, w1.frozen? ⟨w.heap.size + 2, o, none⟩ = _ := fun o => hx.frozen (p := ⟨w.heap.size + 2, o, none⟩) (show w.heap.size + 2 < _ from (by first | omega | (simp; done) | (simp; omega)))
  go_wp2_with fail
  refine bodyPost_ret (v := .tuple #[.agg #[.bool n', .slice p' l' c'], .bool (subP a b).2]) (by simp [results, Tryd.results20, go_sem, *]) rfl ?_
  exact ⟨n', p', l', c', rfl, (hnr.set hnew _ (by simp) _).set hnew _ (by simp) _, hnew.mono (by simp; omega), by (repeat (first | exact Below.refl _ _ | assumption | refine Below.drewN ?_ _ | refine Below.drew ?_ | refine Below.setCell ?_ (by first | exact Nat.le_refl _ | (simp; done) | (simp; omega) | omega) _ | refine Below.alloc ?_ (by first | exact Nat.le_refl _ | (simp; done) | (simp; omega) | omega) _))⟩

set_option maxRecDepth 100000 in
set_option maxHeartbeats 1000000 in
theorem num_Add (a b : Nm) (na nb : Bool) (pa pb : Option Addr) (la ca lb cb : Nat) (w : World) (ha : NR w na pa la ca a) (hb : NR w nb pb lb cb b) :
    Calls Tryd.prog 19 #[.agg #[.bool na, .slice pa la ca], .agg #[.bool nb, .slice pb lb cb]] w (RetNum w (addP a b)) := by
  have S := Lib.hid (sumP_add a b)
  have hn1 := hb.1
  subst hn1
  go_enter Tryd.func19, Tryd.ntmps19
  go_wp2_with fail
  refine (num_sum a b _ _ _ _ _ _ _ _ _ _ (ha.ext (by (repeat (first | exact Below.refl _ _ | assumption | refine Below.drewN ?_ _ | refine Below.drew ?_ | refine Below.setCell ?_ (by first | exact Nat.le_refl _ | (simp; done) | (simp; omega) | omega) _ | refine Below.alloc ?_ (by first | exact Nat.le_refl _ | (simp; done) | (simp; omega) | omega) _)))) (hb.ext (by (repeat (first | exact Below.refl _ _ | assumption | refine Below.drewN ?_ _ | refine Below.drew ?_ | refine Below.setCell ?_ (by first | exact Nat.le_refl _ | (simp; done) | (simp; omega) | omega) _ | refine Below.alloc ?_ (by first | exact Nat.le_refl _ | (simp; done) | (simp; omega) | omega) _))))).mono ?_
  rintro e w1 ⟨n', p', l', c', rfl, hnr, hnew, hx⟩
  rw [S.out] at hnr ⊢
  have hx0 : Ext w w1 := Ext.step (by (repeat (first | exact Below.refl _ _ | assumption | refine Below.drewN ?_ _ | refine Below.drew ?_ | refine Below.setCell ?_ (by first | exact Nat.le_refl _ | (simp; done) | (simp; omega) | omega) _ | refine Below.alloc ?_ (by first | exact Nat.le_refl _ | (simp; done) | (simp; omega) | omega) _))) hx
  have hz_w1 : w.heap.size + 3 ≤ w1.heap.size := Nat.le_trans (by first | omega | (simp; done) | (simp; omega)) hx.size
  have hl_w1_0 : w.heap.size < w1.heap.size := Nat.lt_of_lt_of_le (by omega) hz_w1
  have hk_w1_0 : ∀ o, w1.cell? ⟨w.heap.size, o, none⟩ = _ := fun o => hx.cell (p := ⟨w.heap.size, o, none⟩) (show w.heap.size < _ from (by first | omega | (simp; done) | (simp; omega)))
  have hf_w1_0 : ∀ o, w1.frozen? ⟨w.heap.size, o, none⟩ = _ := fun o => hx.frozen (p := ⟨w.heap.size, o, none⟩) (show w.heap.size < _ from (by first | omega | (simp; done) | (simp; omega)))
  have hl_w1_1 : w.heap.size + 1 < w1.heap.size := Nat.lt_of_lt_of_le (by omega) hz_w1
  have hk_w1_1 : ∀ o, w1.cell? ⟨w.heap.size + 1, o, none⟩ = _ := fun o => hx.cell (p := ⟨w.heap.size + 1, o, none⟩) (show w.heap.size + 1 < _ from (by first | omega | (simp; done) | (simp; omega)))
  have hf_w1_1 : ∀ o, w1.frozen? ⟨w.heap.size + 1, o, none⟩ = _ := fun o => hx.frozen (p := ⟨w.heap.size + 1, o, none⟩) (show w.heap.size + 1 < _ from (by first | omega | (simp; done) | (simp; omega)))
  have hl_w1_2 : w.heap.size + 2 < w1.heap.size := Nat.lt_of_lt_of_le (by omega) hz_w1
  have hk_w1_2 : ∀ o, w1.cell? ⟨w.heap.size + 2, o, none⟩ = _ := fun o => hx.cell (p := ⟨w.heap.size + 2, o, none⟩) (show w.heap.size + 2 < _ from (by first | omega | (simp; done) | (simp; omega)))
  have hf_w1_2 : ∀ o, w1.frozen? ⟨w.heap.size + 2, o, none⟩ = _ := fun o => hx.frozen (p := ⟨w.heap.size + 2, o, none⟩) (show w.heap.size + 2 < _ from (by first | omega | (simp; done) | (simp; omega)))
  go_wp2_with fail
  refine bodyPost_ret (v := .tuple #[.agg #[.bool n', .slice p' l' c'], .bool (addP a b).2]) (by simp [results, Tryd.results19, go_sem, *]) rfl ?_
  exact ⟨n', p', l', c', rfl, (hnr.set hnew _ (by simp) _).set hnew _ (by simp) _, hnew.mono (by simp; omega), by (repeat (first | exact Below.refl _ _ | assumption | refine Below.drewN ?_ _ | refine Below.drew ?_ | refine Below.setCell ?_ (by first | exact Nat.le_refl _ | (simp; done) | (simp; omega) | omega) _ | refine Below.alloc ?_ (by first | exact Nat.le_refl _ | (simp; done) | (simp; omega) | omega) _))⟩

theorem cmpP_none {a b : Nm} (h : a.right = false ∨ b.right = false) : cmpP a b = 0 := by
  unfold cmpP
  rcases h with h | h <;> simp [h]
theorem cmpP_negs {a b : Nm} (ra : a.right = true) (rb : b.right = true) (da : Dig a.d) (db : Dig b.d) (ha : a.neg = true) (hb : b.neg = true) : cmpP a b = cmpL b.d a.d := by
  rw [cmpL_tight db da (b.right_iff.1 rb).2.1 (a.right_iff.1 ra).2.1, cmpP, ra, rb, Nm.z, Nm.z, ha, hb]
  unfold cmpZ cmpN
  simp only [Bool.and_self, ↓reduceIte]
  repeat' split
  all_goals omega
theorem val_pos_of_neg {a : Nm} (ra : a.right = true) (da : Dig a.d) (ha : a.neg = true) : 0 < val a.d := by
  rcases Nat.eq_zero_or_pos (val a.d) with h | h
  · have hd := digs_val da (a.right_iff.1 ra).2.1
    rw [h, digs_zero] at hd
    have := (a.right_iff.1 ra).2.2 hd.symm
    rw [ha] at this
    cases this
  · exact h
theorem cmpP_less {a b : Nm} (ra : a.right = true) (rb : b.right = true) (da : Dig a.d) (ha : a.neg = true) (hb : b.neg = false) : cmpP a b = -1 := by
  have h0 := val_pos_of_neg ra da ha
  rw [cmpP, ra, rb, Nm.z, Nm.z, ha, hb]
  unfold cmpZ
  simp only [Bool.and_self, ↓reduceIte]
  rw [if_pos (by simp; omega)]
theorem cmpP_more {a b : Nm} (ra : a.right = true) (rb : b.right = true) (db : Dig b.d) (ha : a.neg = false) (hb : b.neg = true) : cmpP a b = 1 := by
  have h0 := val_pos_of_neg rb db hb
  rw [cmpP, ra, rb, Nm.z, Nm.z, ha, hb]
  unfold cmpZ
  simp only [Bool.and_self, ↓reduceIte]
  rw [if_neg (by first | (simp; done) | (simp; omega)), if_neg (by first | (simp; done) | (simp; omega))]
theorem cmpP_pos {a b : Nm} (ra : a.right = true) (rb : b.right = true) (da : Dig a.d) (db : Dig b.d) (ha : a.neg = false) (hb : b.neg = false) : cmpP a b = cmpL a.d b.d := by
  rw [cmpL_tight da db (a.right_iff.1 ra).2.1 (b.right_iff.1 rb).2.1, cmpP, ra, rb, Nm.z, Nm.z, ha, hb]
  unfold cmpZ cmpN
  simp only [Bool.and_self, ↓reduceIte, Bool.false_eq_true]
  repeat' split
  all_goals omega

set_option maxRecDepth 100000 in
set_option maxHeartbeats 1000000 in
theorem num_Cmp (a b : Nm) (na nb : Bool) (pa pb : Option Addr) (la ca lb cb : Nat) (w : World) (ha : NR w na pa la ca a) (hb : NR w nb pb lb cb b) :
    Calls Tryd.prog 23 #[.agg #[.bool na, .slice pa la ca], .agg #[.bool nb, .slice pb lb cb]] w fun e w' => e = .returned (.int .i64 (cmpP a b)) ∧ Ext w w' := by
  by_cases ra : a.right = true
  · by_cases rb : b.right = true
    · have n1 := ha.1
      have n2 := hb.1
      have da := ha.2.2.dig
      have db := hb.2.2.dig
      cases h1 : a.neg <;> cases h2 : b.neg <;> rw [h1] at n1 <;> rw [h2] at n2 <;> subst n1 n2
      · have S := Lib.hid (cmpP_pos ra rb da db h1 h2)
        clear h1 h2
        go_enter Tryd.func23, Tryd.ntmps23
        go_wp2_with fail
        refine (num_Right a _ _ _ _ _ (ha.ext (by (repeat (first | exact Below.refl _ _ | assumption | refine Below.drewN ?_ _ | refine Below.drew ?_ | refine Below.setCell ?_ (by first | exact Nat.le_refl _ | (simp; done) | (simp; omega) | omega) _ | refine Below.alloc ?_ (by first | exact Nat.le_refl _ | (simp; done) | (simp; omega) | omega) _))))).mono ?_
        rintro e w1 ⟨rfl, hx⟩
        rw [ra]
        have hx0 : Ext w w1 := Ext.step (by (repeat (first | exact Below.refl _ _ | assumption | refine Below.drewN ?_ _ | refine Below.drew ?_ | refine Below.setCell ?_ (by first | exact Nat.le_refl _ | (simp; done) | (simp; omega) | omega) _ | refine Below.alloc ?_ (by first | exact Nat.le_refl _ | (simp; done) | (simp; omega) | omega) _))) hx
        have hz_w1 : w.heap.size + 2 ≤ w1.heap.size := Nat.le_trans (by first | omega | (simp; done) | (simp; omega)) hx.size
        have hl_w1_0 : w.heap.size < w1.heap.size := Nat.lt_of_lt_of_le (by omega) hz_w1
        have hk_w1_0 : ∀ o, w1.cell? ⟨w.heap.size, o, none⟩ = _ := fun o => hx.cell (p := ⟨w.heap.size, o, none⟩) (show w.heap.size < _ from (by first | omega | (simp; done) | (simp; omega)))
        have hf_w1_0 : ∀ o, w1.frozen? ⟨w.heap.size, o, none⟩ = _ := fun o => hx.frozen (p := ⟨w.heap.size, o, none⟩) (show w.heap.size < _ from (by first | omega | (simp; done) | (simp; omega)))
        have hl_w1_1 : w.heap.size + 1 < w1.heap.size := Nat.lt_of_lt_of_le (by omega) hz_w1
        have hk_w1_1 : ∀ o, w1.cell? ⟨w.heap.size + 1, o, none⟩ = _ := fun o => hx.cell (p := ⟨w.heap.size + 1, o, none⟩) (show w.heap.size + 1 < _ from (by first | omega | (simp; done) | (simp; omega)))
        have hf_w1_1 : ∀ o, w1.frozen? ⟨w.heap.size + 1, o, none⟩ = _ := fun o => hx.frozen (p := ⟨w.heap.size + 1, o, none⟩) (show w.heap.size + 1 < _ from (by first | omega | (simp; done) | (simp; omega)))
        go_wp2_with fail
        refine (num_Right b _ _ _ _ _ (hb.ext (by (repeat (first | exact Below.refl _ _ | assumption | refine Below.drewN ?_ _ | refine Below.drew ?_ | refine Below.setCell ?_ (by first | exact Nat.le_refl _ | (simp; done) | (simp; omega) | omega) _ | refine Below.alloc ?_ (by first | exact Nat.le_refl _ | (simp; done) | (simp; omega) | omega) _))))).mono ?_
        rintro e w2 ⟨rfl, hx2⟩
        rw [rb]
        have hx1 : Ext w w2 := Ext.step hx0 hx2
        have hz_w2 : w.heap.size + 2 ≤ w2.heap.size := Nat.le_trans (by first | omega | (simp; done) | (simp; omega)) hx2.size
        have hl_w2_0 : w.heap.size < w2.heap.size := Nat.lt_of_lt_of_le (by omega) hz_w2
        have hk_w2_0 : ∀ o, w2.cell? ⟨w.heap.size, o, none⟩ = _ := fun o => hx2.cell (p := ⟨w.heap.size, o, none⟩) (show w.heap.size < _ from (by first | omega | (simp; done) | (simp; omega)))
        have hf_w2_0 : ∀ o, w2.frozen? ⟨w.heap.size, o, none⟩ = _ := fun o => hx2.frozen (p := ⟨w.heap.size, o, none⟩) (show w.heap.size < _ from (by first | omega | (simp; done) | (simp; omega)))
        have hl_w2_1 : w.heap.size + 1 < w2.heap.size := Nat.lt_of_lt_of_le (by omega) hz_w2
        have hk_w2_1 : ∀ o, w2.cell? ⟨w.heap.size + 1, o, none⟩ = _ := fun o => hx2.cell (p := ⟨w.heap.size + 1, o, none⟩) (show w.heap.size + 1 < _ from (by first | omega | (simp; done) | (simp; omega)))
        have hf_w2_1 : ∀ o, w2.frozen? ⟨w.heap.size + 1, o, none⟩ = _ := fun o => hx2.frozen (p := ⟨w.heap.size + 1, o, none⟩) (show w.heap.size + 1 < _ from (by first | omega | (simp; done) | (simp; omega)))
        go_wp2_with fail
        refine (num_compare a.d b.d _ _ _ _ _ _ _ (ha.2.2.ext (by (repeat (first | exact Below.refl _ _ | assumption | refine Below.drewN ?_ _ | refine Below.drew ?_ | refine Below.setCell ?_ (by first | exact Nat.le_refl _ | (simp; done) | (simp; omega) | omega) _ | refine Below.alloc ?_ (by first | exact Nat.le_refl _ | (simp; done) | (simp; omega) | omega) _)))) (hb.2.2.ext (by (repeat (first | exact Below.refl _ _ | assumption | refine Below.drewN ?_ _ | refine Below.drew ?_ | refine Below.setCell ?_ (by first | exact Nat.le_refl _ | (simp; done) | (simp; omega) | omega) _ | refine Below.alloc ?_ (by first | exact Nat.le_refl _ | (simp; done) | (simp; omega) | omega) _)))) ha.2.1 hb.2.1).mono ?_
        rintro e w3 ⟨rfl, hx3⟩
        have hx4 : Ext w w3 := Ext.step hx1 hx3
        go_wp2
        go_ret
        exact ⟨by rw [S.out]; rfl, hx4⟩
      · have S := Lib.hid (cmpP_more ra rb db h1 h2)
        clear h1 h2
        go_enter Tryd.func23, Tryd.ntmps23
        go_wp2_with fail
        refine (num_Right a _ _ _ _ _ (ha.ext (by (repeat (first | exact Below.refl _ _ | assumption | refine Below.drewN ?_ _ | refine Below.drew ?_ | refine Below.setCell ?_ (by first | exact Nat.le_refl _ | (simp; done) | (simp; omega) | omega) _ | refine Below.alloc ?_ (by first | exact Nat.le_refl _ | (simp; done) | (simp; omega) | omega) _))))).mono ?_
        rintro e w1 ⟨rfl, hx⟩
        rw [ra]
        have hx0 : Ext w w1 := Ext.step (by (repeat (first | exact Below.refl _ _ | assumption | refine Below.drewN ?_ _ | refine Below.drew ?_ | refine Below.setCell ?_ (by first | exact Nat.le_refl _ | (simp; done) | (simp; omega) | omega) _ | refine Below.alloc ?_ (by first | exact Nat.le_refl _ | (simp; done) | (simp; omega) | omega) _))) hx
        have hz_w1 : w.heap.size + 2 ≤ w1.heap.size := Nat.le_trans (by first | omega | (simp; done) | (simp; omega)) hx.size
        have hl_w1_0 : w.heap.size < w1.heap.size := Nat.lt_of_lt_of_le (by omega) hz_w1
        have hk_w1_0 : ∀ o, w1.cell? ⟨w.heap.size, o, none⟩ = _ := fun o => hx.cell (p := ⟨w.heap.size, o, none⟩) (show w.heap.size < _ from (by first | omega | (simp; done) | (simp; omega)))
        have hf_w1_0 : ∀ o, w1.frozen? ⟨w.heap.size, o, none⟩ = _ := fun o => hx.frozen (p := ⟨w.heap.size, o, none⟩) (show w.heap.size < _ from (by first | omega | (simp; done) | (simp; omega)))
        have hl_w1_1 : w.heap.size + 1 < w1.heap.size := Nat.lt_of_lt_of_le (by omega) hz_w1
        have hk_w1_1 : ∀ o, w1.cell? ⟨w.heap.size + 1, o, none⟩ = _ := fun o => hx.cell (p := ⟨w.heap.size + 1, o, none⟩) (show w.heap.size + 1 < _ from (by first | omega | (simp; done) | (simp; omega)))
        have hf_w1_1 : ∀ o, w1.frozen? ⟨w.heap.size + 1, o, none⟩ = _ := fun o => hx.frozen (p := ⟨w.heap.size + 1, o, none⟩) (show w.heap.size + 1 < _ from (by first | omega | (simp; done) | (simp; omega)))
        go_wp2_with fail
        refine (num_Right b _ _ _ _ _ (hb.ext (by (repeat (first | exact Below.refl _ _ | assumption | refine Below.drewN ?_ _ | refine Below.drew ?_ | refine Below.setCell ?_ (by first | exact Nat.le_refl _ | (simp; done) | (simp; omega) | omega) _ | refine Below.alloc ?_ (by first | exact Nat.le_refl _ | (simp; done) | (simp; omega) | omega) _))))).mono ?_
        rintro e w2 ⟨rfl, hx2⟩
        rw [rb]
        have hx1 : Ext w w2 := Ext.step hx0 hx2
        have hz_w2 : w.heap.size + 2 ≤ w2.heap.size := Nat.le_trans (by first | omega | (simp; done) | (simp; omega)) hx2.size
        have hl_w2_0 : w.heap.size < w2.heap.size := Nat.lt_of_lt_of_le (by omega) hz_w2
        have hk_w2_0 : ∀ o, w2.cell? ⟨w.heap.size, o, none⟩ = _ := fun o => hx2.cell (p := ⟨w.heap.size, o, none⟩) (show w.heap.size < _ from (by first | omega | (simp; done) | (simp; omega)))
        have hf_w2_0 : ∀ o, w2.frozen? ⟨w.heap.size, o, none⟩ = _ := fun o => hx2.frozen (p := ⟨w.heap.size, o, none⟩) (show w.heap.size < _ from (by first | omega | (simp; done) | (simp; omega)))
        have hl_w2_1 : w.heap.size + 1 < w2.heap.size := Nat.lt_of_lt_of_le (by omega) hz_w2
        have hk_w2_1 : ∀ o, w2.cell? ⟨w.heap.size + 1, o, none⟩ = _ := fun o => hx2.cell (p := ⟨w.heap.size + 1, o, none⟩) (show w.heap.size + 1 < _ from (by first | omega | (simp; done) | (simp; omega)))
        have hf_w2_1 : ∀ o, w2.frozen? ⟨w.heap.size + 1, o, none⟩ = _ := fun o => hx2.frozen (p := ⟨w.heap.size + 1, o, none⟩) (show w.heap.size + 1 < _ from (by first | omega | (simp; done) | (simp; omega)))
        go_wp2
        go_ret
        exact ⟨by rw [S.out]; rfl, hx1⟩
      · have S := Lib.hid (cmpP_less ra rb da h1 h2)
        clear h1 h2
        go_enter Tryd.func23, Tryd.ntmps23
        go_wp2_with fail
        refine (num_Right a _ _ _ _ _ (ha.ext (by (repeat (first | exact Below.refl _ _ | assumption | refine Below.drewN ?_ _ | refine Below.drew ?_ | refine Below.setCell ?_ (by first | exact Nat.le_refl _ | (simp; done) | (simp; omega) | omega) _ | refine Below.alloc ?_ (by first | exact Nat.le_refl _ | (simp; done) | (simp; omega) | omega) _))))).mono ?_
        rintro e w1 ⟨rfl, hx⟩
        rw [ra]
        have hx0 : Ext w w1 := Ext.step (by (repeat (first | exact Below.refl _ _ | assumption | refine Below.drewN ?_ _ | refine Below.drew ?_ | refine Below.setCell ?_ (by first | exact Nat.le_refl _ | (simp; done) | (simp; omega) | omega) _ | refine Below.alloc ?_ (by first | exact Nat.le_refl _ | (simp; done) | (simp; omega) | omega) _))) hx
        have hz_w1 : w.heap.size + 2 ≤ w1.heap.size := Nat.le_trans (by first | omega | (simp; done) | (simp; omega)) hx.size
        have hl_w1_0 : w.heap.size < w1.heap.size := Nat.lt_of_lt_of_le (by omega) hz_w1
        have hk_w1_0 : ∀ o, w1.cell? ⟨w.heap.size, o, none⟩ = _ := fun o => hx.cell (p := ⟨w.heap.size, o, none⟩) (show w.heap.size < _ from (by first | omega | (simp; done) | (simp; omega)))
        have hf_w1_0 : ∀ o, w1.frozen? ⟨w.heap.size, o, none⟩ = _ := fun o => hx.frozen (p := ⟨w.heap.size, o, none⟩) (show w.heap.size < _ from (by first | omega | (simp; done) | (simp; omega)))
        have hl_w1_1 : w.heap.size + 1 < w1.heap.size := Nat.lt_of_lt_of_le (by omega) hz_w1
        have hk_w1_1 : ∀ o, w1.cell? ⟨w.heap.size + 1, o, none⟩ = _ := fun o => hx.cell (p := ⟨w.heap.size + 1, o, none⟩) (show w.heap.size + 1 < _ from (by first | omega | (simp; done) | (simp; omega)))
        have hf_w1_1 : ∀ o, w1.frozen? ⟨w.heap.size + 1, o, none⟩ = _ := fun o => hx.frozen (p := ⟨w.heap.size + 1, o, none⟩) (show w.heap.size + 1 < _ from (by first | omega | (simp; done) | (simp; omega)))
        go_wp2_with fail
        refine (num_Right b _ _ _ _ _ (hb.ext (by (repeat (first | exact Below.refl _ _ | assumption | refine Below.drewN ?_ _ | refine Below.drew ?_ | refine Below.setCell ?_ (by first | exact Nat.le_refl _ | (simp; done) | (simp; omega) | omega) _ | refine Below.alloc ?_ (by first | exact Nat.le_refl _ | (simp; done) | (simp; omega) | omega) _))))).mono ?_
        rintro e w2 ⟨rfl, hx2⟩
        rw [rb]
        have hx1 : Ext w w2 := Ext.step hx0 hx2
        have hz_w2 : w.heap.size + 2 ≤ w2.heap.size := Nat.le_trans (by first | omega | (simp; done) | (simp; omega)) hx2.size
        have hl_w2_0 : w.heap.size < w2.heap.size := Nat.lt_of_lt_of_le (by omega) hz_w2
        have hk_w2_0 : ∀ o, w2.cell? ⟨w.heap.size, o, none⟩ = _ := fun o => hx2.cell (p := ⟨w.heap.size, o, none⟩) (show w.heap.size < _ from (by first | omega | (simp; done) | (simp; omega)))
        have hf_w2_0 : ∀ o, w2.frozen? ⟨w.heap.size, o, none⟩ = _ := fun o => hx2.frozen (p := ⟨w.heap.size, o, none⟩) (show w.heap.size < _ from (by first | omega | (simp; done) | (simp; omega)))
        have hl_w2_1 : w.heap.size + 1 < w2.heap.size := Nat.lt_of_lt_of_le (by omega) hz_w2
        have hk_w2_1 : ∀ o, w2.cell? ⟨w.heap.size + 1, o, none⟩ = _ := fun o => hx2.cell (p := ⟨w.heap.size + 1, o, none⟩) (show w.heap.size + 1 < _ from (by first | omega | (simp; done) | (simp; omega)))
        have hf_w2_1 : ∀ o, w2.frozen? ⟨w.heap.size + 1, o, none⟩ = _ := fun o => hx2.frozen (p := ⟨w.heap.size + 1, o, none⟩) (show w.heap.size + 1 < _ from (by first | omega | (simp; done) | (simp; omega)))
        go_wp2
        go_ret
        exact ⟨by rw [S.out]; rfl, hx1⟩
      · have S := Lib.hid (cmpP_negs ra rb da db h1 h2)
        clear h1 h2
        go_enter Tryd.func23, Tryd.ntmps23
        go_wp2_with fail
        refine (num_Right a _ _ _ _ _ (ha.ext (by (repeat (first | exact Below.refl _ _ | assumption | refine Below.drewN ?_ _ | refine Below.drew ?_ | refine Below.setCell ?_ (by first | exact Nat.le_refl _ | (simp; done) | (simp; omega) | omega) _ | refine Below.alloc ?_ (by first | exact Nat.le_refl _ | (simp; done) | (simp; omega) | omega) _))))).mono ?_
        rintro e w1 ⟨rfl, hx⟩
        rw [ra]
        have hx0 : Ext w w1 := Ext.step (by (repeat (first | exact Below.refl _ _ | assumption | refine Below.drewN ?_ _ | refine Below.drew ?_ | refine Below.setCell ?_ (by first | exact Nat.le_refl _ | (simp; done) | (simp; omega) | omega) _ | refine Below.alloc ?_ (by first | exact Nat.le_refl _ | (simp; done) | (simp; omega) | omega) _))) hx
        have hz_w1 : w.heap.size + 2 ≤ w1.heap.size := Nat.le_trans (by first | omega | (simp; done) | (simp; omega)) hx.size
        have hl_w1_0 : w.heap.size < w1.heap.size := Nat.lt_of_lt_of_le (by omega) hz_w1
        have hk_w1_0 : ∀ o, w1.cell? ⟨w.heap.size, o, none⟩ = _ := fun o => hx.cell (p := ⟨w.heap.size, o, none⟩) (show w.heap.size < _ from (by first | omega | (simp; done) | (simp; omega)))
        have hf_w1_0 : ∀ o, w1.frozen? ⟨w.heap.size, o, none⟩ = _ := fun o => hx.frozen (p := ⟨w.heap.size, o, none⟩) (show w.heap.size < _ from (by first | omega | (simp; done) | (simp; omega)))
        have hl_w1_1 : w.heap.size + 1 < w1.heap.size := Nat.lt_of_lt_of_le (by omega) hz_w1
        have hk_w1_1 : ∀ o, w1.cell? ⟨w.heap.size + 1, o, none⟩ = _ := fun o => hx.cell (p := ⟨w.heap.size + 1, o, none⟩) (show w.heap.size + 1 < _ from (by first | omega | (simp; done) | (simp; omega)))
        have hf_w1_1 : ∀ o, w1.frozen? ⟨w.heap.size + 1, o, none⟩ = _ := fun o => hx.frozen (p := ⟨w.heap.size + 1, o, none⟩) (show w.heap.size + 1 < _ from (by first | omega | (simp; done) | (simp; omega)))
        go_wp2_with fail
        refine (num_Right b _ _ _ _ _ (hb.ext (by (repeat (first | exact Below.refl _ _ | assumption | refine Below.drewN ?_ _ | refine Below.drew ?_ | refine Below.setCell ?_ (by first | exact Nat.le_refl _ | (simp; done) | (simp; omega) | omega) _ | refine Below.alloc ?_ (by first | exact Nat.le_refl _ | (simp; done) | (simp; omega) | omega) _))))).mono ?_
        rintro e w2 ⟨rfl, hx2⟩
        rw [rb]
        have hx1 : Ext w w2 := Ext.step hx0 hx2
        have hz_w2 : w.heap.size + 2 ≤ w2.heap.size := Nat.le_trans (by first | omega | (simp; done) | (simp; omega)) hx2.size
        have hl_w2_0 : w.heap.size < w2.heap.size := Nat.lt_of_lt_of_le (by omega) hz_w2
        have hk_w2_0 : ∀ o, w2.cell? ⟨w.heap.size, o, none⟩ = _ := fun o => hx2.cell (p := ⟨w.heap.size, o, none⟩) (show w.heap.size < _ from (by first | omega | (simp; done) | (simp; omega)))
        have hf_w2_0 : ∀ o, w2.frozen? ⟨w.heap.size, o, none⟩ = _ := fun o => hx2.frozen (p := ⟨w.heap.size, o, none⟩) (show w.heap.size < _ from (by first | omega | (simp; done) | (simp; omega)))
        have hl_w2_1 : w.heap.size + 1 < w2.heap.size := Nat.lt_of_lt_of_le (by omega) hz_w2
        have hk_w2_1 : ∀ o, w2.cell? ⟨w.heap.size + 1, o, none⟩ = _ := fun o => hx2.cell (p := ⟨w.heap.size + 1, o, none⟩) (show w.heap.size + 1 < _ from (by first | omega | (simp; done) | (simp; omega)))
        have hf_w2_1 : ∀ o, w2.frozen? ⟨w.heap.size + 1, o, none⟩ = _ := fun o => hx2.frozen (p := ⟨w.heap.size + 1, o, none⟩) (show w.heap.size + 1 < _ from (by first | omega | (simp; done) | (simp; omega)))
        go_wp2_with fail
        refine (num_compare b.d a.d _ _ _ _ _ _ _ (hb.2.2.ext (by (repeat (first | exact Below.refl _ _ | assumption | refine Below.drewN ?_ _ | refine Below.drew ?_ | refine Below.setCell ?_ (by first | exact Nat.le_refl _ | (simp; done) | (simp; omega) | omega) _ | refine Below.alloc ?_ (by first | exact Nat.le_refl _ | (simp; done) | (simp; omega) | omega) _)))) (ha.2.2.ext (by (repeat (first | exact Below.refl _ _ | assumption | refine Below.drewN ?_ _ | refine Below.drew ?_ | refine Below.setCell ?_ (by first | exact Nat.le_refl _ | (simp; done) | (simp; omega) | omega) _ | refine Below.alloc ?_ (by first | exact Nat.le_refl _ | (simp; done) | (simp; omega) | omega) _)))) hb.2.1 ha.2.1).mono ?_
        rintro e w3 ⟨rfl, hx3⟩
        have hx4 : Ext w w3 := Ext.step hx1 hx3
        go_wp2
        go_ret
        exact ⟨by rw [S.out]; rfl, hx4⟩
    · have rb : b.right = false := by simpa using rb
      have S := Lib.hid (cmpP_none (a := a) (.inr rb))
      go_enter Tryd.func23, Tryd.ntmps23
      go_wp2_with fail
      refine (num_Right a _ _ _ _ _ (ha.ext (by (repeat (first | exact Below.refl _ _ | assumption | refine Below.drewN ?_ _ | refine Below.drew ?_ | refine Below.setCell ?_ (by first | exact Nat.le_refl _ | (simp; done) | (simp; omega) | omega) _ | refine Below.alloc ?_ (by first | exact Nat.le_refl _ | (simp; done) | (simp; omega) | omega) _))))).mono ?_
      rintro e w1 ⟨rfl, hx⟩
      rw [ra]
      have hx0 : Ext w w1 := Ext.step (by (repeat (first | exact Below.refl _ _ | assumption | refine Below.drewN ?_ _ | refine Below.drew ?_ | refine Below.setCell ?_ (by first | exact Nat.le_refl _ | (simp; done) | (simp; omega) | omega) _ | refine Below.alloc ?_ (by first | exact Nat.le_refl _ | (simp; done) | (simp; omega) | omega) _))) hx
      have hz_w1 : w.heap.size + 2 ≤ w1.heap.size := Nat.le_trans (by first | omega | (simp; done) | (simp; omega)) hx.size
      have hl_w1_0 : w.heap.size < w1.heap.size := Nat.lt_of_lt_of_le (by omega) hz_w1
      have hk_w1_0 : ∀ o, w1.cell? ⟨w.heap.size, o, none⟩ = _ := fun o => hx.cell (p := ⟨w.heap.size, o, none⟩) (show w.heap.size < _ from (by first | omega | (simp; done) | (simp; omega)))
      have hf_w1_0 : ∀ o, w1.frozen? ⟨w.heap.size, o, none⟩ = _ := fun o => hx.frozen (p := ⟨w.heap.size, o, none⟩) (show w.heap.size < _ from (by first | omega | (simp; done) | (simp; omega)))
      have hl_w1_1 : w.heap.size + 1 < w1.heap.size := Nat.lt_of_lt_of_le (by omega) hz_w1
      have hk_w1_1 : ∀ o, w1.cell? ⟨w.heap.size + 1, o, none⟩ = _ := fun o => hx.cell (p := ⟨w.heap.size + 1, o, none⟩) (show w.heap.size + 1 < _ from (by first | omega | (simp; done) | (simp; omega)))
      have hf_w1_1 : ∀ o, w1.frozen? ⟨w.heap.size + 1, o, none⟩ = _ := fun o => hx.frozen (p := ⟨w.heap.size + 1, o, none⟩) (show w.heap.size + 1 < _ from (by first | omega | (simp; done) | (simp; omega)))
      go_wp2_with fail
      refine (num_Right b _ _ _ _ _ (hb.ext (by (repeat (first | exact Below.refl _ _ | assumption | refine Below.drewN ?_ _ | refine Below.drew ?_ | refine Below.setCell ?_ (by first | exact Nat.le_refl _ | (simp; done) | (simp; omega) | omega) _ | refine Below.alloc ?_ (by first | exact Nat.le_refl _ | (simp; done) | (simp; omega) | omega) _))))).mono ?_
      rintro e w2 ⟨rfl, hx2⟩
      rw [rb]
      have hx1 : Ext w w2 := Ext.step hx0 hx2
      have hz_w2 : w.heap.size + 2 ≤ w2.heap.size := Nat.le_trans (by first | omega | (simp; done) | (simp; omega)) hx2.size
      have hl_w2_0 : w.heap.size < w2.heap.size := Nat.lt_of_lt_of_le (by omega) hz_w2
      have hk_w2_0 : ∀ o, w2.cell? ⟨w.heap.size, o, none⟩ = _ := fun o => hx2.cell (p := ⟨w.heap.size, o, none⟩) (show w.heap.size < _ from (by first | omega | (simp; done) | (simp; omega)))
      have hf_w2_0 : ∀ o, w2.frozen? ⟨w.heap.size, o, none⟩ = _ := fun o => hx2.frozen (p := ⟨w.heap.size, o, none⟩) (show w.heap.size < _ from (by first | omega | (simp; done) | (simp; omega)))
      have hl_w2_1 : w.heap.size + 1 < w2.heap.size := Nat.lt_of_lt_of_le (by omega) hz_w2
      have hk_w2_1 : ∀ o, w2.cell? ⟨w.heap.size + 1, o, none⟩ = _ := fun o => hx2.cell (p := ⟨w.heap.size + 1, o, none⟩) (show w.heap.size + 1 < _ from (by first | omega | (simp; done) | (simp; omega)))
      have hf_w2_1 : ∀ o, w2.frozen? ⟨w.heap.size + 1, o, none⟩ = _ := fun o => hx2.frozen (p := ⟨w.heap.size + 1, o, none⟩) (show w.heap.size + 1 < _ from (by first | omega | (simp; done) | (simp; omega)))
      go_wp2
      go_ret
      exact ⟨by rw [S.out]; rfl, hx1⟩
  · have ra : a.right = false := by simpa using ra
    have S := Lib.hid (cmpP_none (b := b) (.inl ra))
    go_enter Tryd.func23, Tryd.ntmps23
    go_wp2_with fail
    refine (num_Right a _ _ _ _ _ (ha.ext (by (repeat (first | exact Below.refl _ _ | assumption | refine Below.drewN ?_ _ | refine Below.drew ?_ | refine Below.setCell ?_ (by first | exact Nat.le_refl _ | (simp; done) | (simp; omega) | omega) _ | refine Below.alloc ?_ (by first | exact Nat.le_refl _ | (simp; done) | (simp; omega) | omega) _))))).mono ?_
    rintro e w1 ⟨rfl, hx⟩
    rw [ra]
    have hx0 : Ext w w1 := Ext.step (by (repeat (first | exact Below.refl _ _ | assumption | refine Below.drewN ?_ _ | refine Below.drew ?_ | refine Below.setCell ?_ (by first | exact Nat.le_refl _ | (simp; done) | (simp; omega) | omega) _ | refine Below.alloc ?_ (by first | exact Nat.le_refl _ | (simp; done) | (simp; omega) | omega) _))) hx
    have hz_w1 : w.heap.size + 2 ≤ w1.heap.size := Nat.le_trans (by first | omega | (simp; done) | (simp; omega)) hx.size
    have hl_w1_0 : w.heap.size < w1.heap.size := Nat.lt_of_lt_of_le (by omega) hz_w1
    have hk_w1_0 : ∀ o, w1.cell? ⟨w.heap.size, o, none⟩ = _ := fun o => hx.cell (p := ⟨w.heap.size, o, none⟩) (show w.heap.size < _ from (by first | omega | (simp; done) | (simp; omega)))
    have hf_w1_0 : ∀ o, w1.frozen? ⟨w.heap.size, o, none⟩ = _ := fun o => hx.frozen (p := ⟨w.heap.size, o, none⟩) (show w.heap.size < _ from (by first | omega | (simp; done) | (simp; omega)))
    have hl_w1_1 : w.heap.size + 1 < w1.heap.size := Nat.lt_of_lt_of_le (by omega) hz_w1
    have hk_w1_1 : ∀ o, w1.cell? ⟨w.heap.size + 1, o, none⟩ = _ := fun o => hx.cell (p := ⟨w.heap.size + 1, o, none⟩) (show w.heap.size + 1 < _ from (by first | omega | (simp; done) | (simp; omega)))
    have hf_w1_1 : ∀ o, w1.frozen? ⟨w.heap.size + 1, o, none⟩ = _ := fun o => hx.frozen (p := ⟨w.heap.size + 1, o, none⟩) (show w.heap.size + 1 < _ from (by first | omega | (simp; done) | (simp; omega)))
    go_wp2
    go_ret
    exact ⟨by rw [S.out]; rfl, hx0⟩
end Go.Proofs.YtdaaknfmodbjcaaDoor

namespace Go.Proofs.YtdaaknfmodbjcaaDoor
open Go.RowKit

/-- A number alone is returned. -/
def RetN (w : World) (a : Nm) (e : Ending) (w' : World) : Prop :=
  ∃ n p l c, e = .returned (.agg #[.bool n, .slice p l c]) ∧ NR w' n p l c a ∧ New w p ∧ Ext w w'

theorem made_of (n : Int) (lo hi : Nat) (neg : Bool) (hn : neg = decide (n < 0)) (hv : lo + 4294967296 * hi = n.natAbs) (hs : n.natAbs < 4294967296 ^ 64) : madeP neg [lo, hi] = (ofZ n, true) := by
  rw [madeP_fit]
  have e : (if neg = true then -(val [lo, hi] : Int) else (val [lo, hi] : Int)) = n := by
    have : val [lo, hi] = n.natAbs := by simp [val]; omega
    rw [this, hn]
    simp only [decide_eq_true_eq]
    split <;> omega
  rw [e, fit, small, if_pos (by simpa using hs)]

theorem row_two (W : World) (x y : Int) (lo hi B : Nat) (T : TypeId) (hx : x = (lo : Int)) (hy : y = (hi : Int)) (h1 : lo < 4294967296) (h2 : hi < 4294967296) (hB : B = W.heap.size) :
    Row (W.alloc (.cells #[.int .u32 x, .int .u32 y] T)) (some ⟨B, 0, none⟩) 2 [lo, hi] := by
  subst hx hy hB
  refine ⟨by simp, by omega, Dig.cons h1 (Dig.cons h2 Dig.nil), fun _ => ⟨_, 0, rfl, by simp, fun i hi' => ?_⟩⟩
  have h := heap_alloc_new W (.cells #[.int .u32 (lo : Int), .int .u32 (hi : Int)] T)
  rw [cell_of_row _ _ (0 + i) _ _ _ h]
  simp only [List.length_cons, List.length_nil] at hi'
  match i, hi' with
  | 0, _ => rfl
  | 1, _ => rfl

set_option maxRecDepth 100000 in
set_option maxHeartbeats 1000000 in
theorem num_Of (n : Int) (w : World) (h1 : -9223372036854775808 ≤ n) (h2 : n ≤ 9223372036854775807) :
    Calls Tryd.prog 21 #[.int .i64 n] w (RetN w (ofZ n)) := by
  have hp : (18446744073709551616 : Nat) ≤ 4294967296 ^ 64 := Nat.le_trans (by decide) (Nat.pow_le_pow_right (n := 4294967296) (i := 2) (by decide) (by decide))
  have HS : Hid (n.natAbs < 4294967296 ^ 64) := Nat.lt_of_lt_of_le (show n.natAbs < 18446744073709551616 by omega) hp
  clear hp
  by_cases hn : n < 0
  · go_enter Tryd.func21, Tryd.ntmps21
    go_wp2_with fail
    have e0 : IntKind.u64.wrap n = n + 18446744073709551616 := u64_neg _ (by omega)
    have e1 : IntKind.u64.wrap (-(n + 18446744073709551616)) = -n := by rw [u64_neg _ (by omega)]; omega
    rw [e0, e1]
    clear e0 e1
    have M := Lib.hid (made_of n (n.natAbs % 4294967296) (n.natAbs / 4294967296) true (by simp [hn]) (by omega) HS.out)
    refine (num_made true [n.natAbs % 4294967296, n.natAbs / 4294967296] _ _ _ _ (row_two _ _ _ _ _ _ _ (by omega) (by omega) (by omega) (by omega) (by simp)) rfl).mono ?_
    rintro e w1 ⟨n', p', l', c', rfl, hnr, hnew, hx⟩
    rw [M.out] at hnr ⊢
    have hx0 : Ext w w1 := Ext.step (by (repeat (first | exact Below.refl _ _ | assumption | refine Below.drewN ?_ _ | refine Below.drew ?_ | refine Below.setCell ?_ (by first | exact Nat.le_refl _ | (simp; done) | (simp; omega) | omega) _ | refine Below.alloc ?_ (by first | exact Nat.le_refl _ | (simp; done) | (simp; omega) | omega) _))) hx
    have hz_w1 : w.heap.size + 2 ≤ w1.heap.size := Nat.le_trans (by first | omega | (simp; done) | (simp; omega)) hx.size
    have hl_w1_0 : w.heap.size < w1.heap.size := Nat.lt_of_lt_of_le (by omega) hz_w1
    have hk_w1_0 : ∀ o, w1.cell? ⟨w.heap.size, o, none⟩ = _ := fun o => hx.cell (p := ⟨w.heap.size, o, none⟩) (show w.heap.size < _ from (by first | omega | (simp; done) | (simp; omega)))
    have hf_w1_0 : ∀ o, w1.frozen? ⟨w.heap.size, o, none⟩ = _ := fun o => hx.frozen (p := ⟨w.heap.size, o, none⟩) (show w.heap.size < _ from (by first | omega | (simp; done) | (simp; omega)))
    have hl_w1_1 : w.heap.size + 1 < w1.heap.size := Nat.lt_of_lt_of_le (by omega) hz_w1
    have hk_w1_1 : ∀ o, w1.cell? ⟨w.heap.size + 1, o, none⟩ = _ := fun o => hx.cell (p := ⟨w.heap.size + 1, o, none⟩) (show w.heap.size + 1 < _ from (by first | omega | (simp; done) | (simp; omega)))
    have hf_w1_1 : ∀ o, w1.frozen? ⟨w.heap.size + 1, o, none⟩ = _ := fun o => hx.frozen (p := ⟨w.heap.size + 1, o, none⟩) (show w.heap.size + 1 < _ from (by first | omega | (simp; done) | (simp; omega)))
    go_wp2
    refine bodyPost_ret (v := .agg #[.bool n', .slice p' l' c']) (by simp [results, Tryd.results21, go_sem, *]) rfl ?_
    exact ⟨n', p', l', c', rfl, (by repeat (first | assumption | refine NR.set ?_ (by assumption) _ (by first | (simp; done) | (simp; omega) | omega) _ | refine NR.alloc ?_ _)), hnew.mono (by simp; omega), by (repeat (first | exact Below.refl _ _ | assumption | refine Below.drewN ?_ _ | refine Below.drew ?_ | refine Below.setCell ?_ (by first | exact Nat.le_refl _ | (simp; done) | (simp; omega) | omega) _ | refine Below.alloc ?_ (by first | exact Nat.le_refl _ | (simp; done) | (simp; omega) | omega) _))⟩
  · go_enter Tryd.func21, Tryd.ntmps21
    go_wp2_with fail
    have M := Lib.hid (made_of n (n.natAbs % 4294967296) (n.natAbs / 4294967296) false (by simp [hn]) (by omega) HS.out)
    refine (num_made false [n.natAbs % 4294967296, n.natAbs / 4294967296] _ _ _ _ (row_two _ _ _ _ _ _ _ (by omega) (by omega) (by omega) (by omega) (by simp)) rfl).mono ?_
    rintro e w1 ⟨n', p', l', c', rfl, hnr, hnew, hx⟩
    rw [M.out] at hnr ⊢
    have hx0 : Ext w w1 := Ext.step (by (repeat (first | exact Below.refl _ _ | assumption | refine Below.drewN ?_ _ | refine Below.drew ?_ | refine Below.setCell ?_ (by first | exact Nat.le_refl _ | (simp; done) | (simp; omega) | omega) _ | refine Below.alloc ?_ (by first | exact Nat.le_refl _ | (simp; done) | (simp; omega) | omega) _))) hx
    have hz_w1 : w.heap.size + 2 ≤ w1.heap.size := Nat.le_trans (by first | omega | (simp; done) | (simp; omega)) hx.size
    have hl_w1_0 : w.heap.size < w1.heap.size := Nat.lt_of_lt_of_le (by omega) hz_w1
    have hk_w1_0 : ∀ o, w1.cell? ⟨w.heap.size, o, none⟩ = _ := fun o => hx.cell (p := ⟨w.heap.size, o, none⟩) (show w.heap.size < _ from (by first | omega | (simp; done) | (simp; omega)))
    have hf_w1_0 : ∀ o, w1.frozen? ⟨w.heap.size, o, none⟩ = _ := fun o => hx.frozen (p := ⟨w.heap.size, o, none⟩) (show w.heap.size < _ from (by first | omega | (simp; done) | (simp; omega)))
    have hl_w1_1 : w.heap.size + 1 < w1.heap.size := Nat.lt_of_lt_of_le (by omega) hz_w1
    have hk_w1_1 : ∀ o, w1.cell? ⟨w.heap.size + 1, o, none⟩ = _ := fun o => hx.cell (p := ⟨w.heap.size + 1, o, none⟩) (show w.heap.size + 1 < _ from (by first | omega | (simp; done) | (simp; omega)))
    have hf_w1_1 : ∀ o, w1.frozen? ⟨w.heap.size + 1, o, none⟩ = _ := fun o => hx.frozen (p := ⟨w.heap.size + 1, o, none⟩) (show w.heap.size + 1 < _ from (by first | omega | (simp; done) | (simp; omega)))
    go_wp2
    refine bodyPost_ret (v := .agg #[.bool n', .slice p' l' c']) (by simp [results, Tryd.results21, go_sem, *]) rfl ?_
    exact ⟨n', p', l', c', rfl, (by repeat (first | assumption | refine NR.set ?_ (by assumption) _ (by first | (simp; done) | (simp; omega) | omega) _ | refine NR.alloc ?_ _)), hnew.mono (by simp; omega), by (repeat (first | exact Below.refl _ _ | assumption | refine Below.drewN ?_ _ | refine Below.drew ?_ | refine Below.setCell ?_ (by first | exact Nat.le_refl _ | (simp; done) | (simp; omega) | omega) _ | refine Below.alloc ?_ (by first | exact Nat.le_refl _ | (simp; done) | (simp; omega) | omega) _))⟩

end Go.Proofs.YtdaaknfmodbjcaaDoor
