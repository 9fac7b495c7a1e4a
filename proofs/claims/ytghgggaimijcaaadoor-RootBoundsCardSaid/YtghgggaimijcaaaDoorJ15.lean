/- Contracts: etchantref02: zero, times, plus, minus, side, Sign. -/
import Derived.Test.YtghgggaimijcaaaDoorJ09
import Derived.Test.YtghgggaimijcaaaDoorJ14
import Derived.Deep.DeepCutAuto
set_option linter.unusedVariables false
set_option linter.unusedSimpArgs false

namespace Go.Proofs.YtghgggaimijcaaaDoor
open Go.RowKit
attribute [local go_sem] Gives givesU

/-- The sign of a + b √c, as the reference finds it. -/
def sideR (a b c : Int) : Int := if sgn c = 0 ∨ sgn b = 0 then sgn a else if sgn a = 0 ∨ sgn a = sgn b then sgn b else sgn a * cmpZ (a * a) (b * b * c)
theorem sgn_nonneg {c : Int} (h : 0 ≤ c) : sgn c = 0 ∨ sgn c = 1 := by
  unfold sgn cmpZ
  rw [if_neg (by omega)]
  split
  · exact .inl rfl
  · exact .inr rfl
theorem side_eq (a b c : Int) (h : 0 ≤ c) : sideR a b c = sideZ a b c := by
  unfold sideR sideZ
  have ha := sgn_bd a
  have hb := sgn_bd b
  have hc := sgn_nonneg h
  generalize sgn a * cmpZ (a * a) (b * b * c) = r
  generalize sgn a = x at *
  generalize sgn b = y at *
  generalize sgn c = z at *
  obtain rfl | rfl | rfl : x = -1 ∨ x = 0 ∨ x = 1 := by omega
  all_goals obtain rfl | rfl | rfl : y = -1 ∨ y = 0 ∨ y = 1 := by omega
  all_goals rcases hc with rfl | rfl
  all_goals (simp <;> omega)
set_option maxRecDepth 100000 in
set_option maxHeartbeats 1000000 in
theorem r02_zero (w : World) : Calls Tryd.prog 68 #[] w (RetN w zero) := by
  have e0 : Hid (ofZ 0 = zero) := by show ofZ 0 = zero; unfold ofZ zero; simp [digs_zero]
  go_enter Tryd.func68, Tryd.ntmps68
  go_wp2_with fail
  refine (r01_Of 0 _ (by omega) (by omega)).mono ?_
  rintro e w1 ⟨n1, p1, l1, c1, rfl, hnr, hnew, hx⟩
  rw [e0.out] at hnr
  have hx0 : Ext w w1 := Ext.step bxx hx
  have hz_w1 : w.heap.size + 1 ≤ w1.heap.size := Nat.le_trans omm hx.size
  obtain ⟨hl_w1_0, hk_w1_0, hf_w1_0⟩ := extK hx (w.heap.size)
  go_wp2_with fail
  refine bodyPost_ret (v := .agg #[.bool n1, .slice p1 l1 c1]) (by simp [results, Tryd.results68, go_sem, *]) rfl ?_
  exact ⟨n1, p1, l1, c1, rfl, (by repeat (first | assumption | refine NR.set ?_ (by assumption) _ (by first | (simp; done) | (simp; omega) | omega) _ | refine NR.alloc ?_ _)), hnew.mono (by simp), bxx⟩
/-- A variable that holds a number. -/
def VB2 (W : World) (B : Nat) (n : Bool) (p : Option Addr) (l c : Nat) (X : Nm) : Prop := B < W.heap.size ∧ W.cell? ⟨B, 0, none⟩ = some (.bool n) ∧ W.cell? ⟨B, 1, none⟩ = some (.slice p l c) ∧ NR W n p l c X
theorem VB2.ext {W W' : World} {B : Nat} {n : Bool} {p : Option Addr} {l c : Nat} {X : Nm} (h : VB2 W B n p l c X) (hx : Ext W W') : VB2 W' B n p l c X :=
  ⟨Nat.lt_of_lt_of_le h.1 hx.size, (hx.cell (p := ⟨B, 0, none⟩) h.1).trans h.2.1, (hx.cell (p := ⟨B, 1, none⟩) h.1).trans h.2.2.1, h.2.2.2.ext hx⟩
theorem VB2.heap {W : World} {g : Nat} {n : Bool} {p : Option Addr} {l c : Nat} {X : Nm} {T : TypeId} (hg : W.heap[g]? = some (.cells #[.bool n, .slice p l c] T)) (h : NR W n p l c X) : VB2 W g n p l c X := by
  obtain ⟨c0, c1, _, hlt⟩ := pt_block hg
  exact ⟨hlt, c0, c1, h⟩
theorem r01_sgn (a : Nm) (na nz : Bool) (pa pz : Option Addr) (la ca lz cz : Nat) (w : World) (ha : NR w na pa la ca a) (hz : NR w nz pz lz cz zero) (ra : a.right = true) (s : Int) (hs : sgn a.z = s) :
    Calls Tryd.prog 67 #[.agg #[.bool na, .slice pa la ca], .agg #[.bool nz, .slice pz lz cz]] w fun e w' => e = .returned (.int .i64 s) ∧ Ext w w' := by
  have := r01_Cmp a zero na nz pa pz la ca lz cz w ha hz
  rw [cmpP_zero ra, hs] at this
  exact this
theorem r01_cmp (x y : Int) (na nz : Bool) (pa pz : Option Addr) (la ca lz cz : Nat) (w : World) (ha : NR w na pa la ca (ofZ x)) (hz : NR w nz pz lz cz (ofZ y)) (hx : small x = true) (hy : small y = true) (s : Int) (hs : cmpZ x y = s) :
    Calls Tryd.prog 67 #[.agg #[.bool na, .slice pa la ca], .agg #[.bool nz, .slice pz lz cz]] w fun e w' => e = .returned (.int .i64 s) ∧ Ext w w' := by
  have := r01_Cmp (ofZ x) (ofZ y) na nz pa pz la ca lz cz w ha hz
  rw [cmpP_side hx hy, hs] at this
  exact this
theorem mul_ofZ {a b : Nm} {z : Int} (ra : a.right = true) (rb : b.right = true) (hz : a.z * b.z = z) (hs : small z = true) : (mulP a b).1 = ofZ z := by rw [mulP_small ra rb hz hs]
end Go.Proofs.YtghgggaimijcaaaDoor
