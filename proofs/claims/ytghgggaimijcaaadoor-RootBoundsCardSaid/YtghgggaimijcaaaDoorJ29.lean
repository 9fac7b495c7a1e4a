/- Plain: the law of order; a number added to both roots. -/
import Derived.Test.YtghgggaimijcaaaDoorJ23
import Derived.Test.YtghgggaimijcaaaDoorJ22
import Derived.Test.YtghgggaimijcaaaDoorJ28
import Derived.Test.YtghgggaimijcaaaDoorJ24
set_option linter.unusedVariables false
set_option linter.unusedSimpArgs false

namespace Go.Proofs.YtghgggaimijcaaaDoor
open Go.RowKit

/-- A right root, and all that is known of it. -/
def Rt.Gd (a : Rt) : Prop := a.Ok ∧ a.right = true ∧ Dig a.n.d ∧ Dig a.d.d
theorem made_gd (q0 q1 q2 q3 : Int) (h : -9223372036854775808 ≤ q2 ∧ q2 ≤ 9223372036854775807) : (madeR q0 q1 q2 q3).Gd := made_ok q0 q1 q2 q3 h
theorem cmpRt_gd {A B : Rt} (ha : A.Gd) (hb : B.Gd) : cmpRt A B = cmpR (A.add - B.add) A.s A.n.z A.d.z B.s B.n.z B.d.z := by
  unfold cmpRt
  rw [ha.2.1, hb.2.1]
  rfl
theorem order_law {A B C : Rt} (hA : A.Gd) (hB : B.Gd) (hC : C.Gd) {a b c : Int} (ha : cmpRt A B = a) (hb : cmpRt B C = b) (hc : cmpRt A C = c) :
    cmpRt B A = -a ∧ cmpRt A A = 0 ∧ (a = 1 ∨ a = 0 ∨ a = -1) ∧ (b = 1 ∨ b = 0 ∨ b = -1) ∧ (c = 1 ∨ c = 0 ∨ c = -1) ∧
    (a ≤ 0 → b ≤ 0 → c ≤ 0 ∧ (c = 0 → a = 0 ∧ b = 0)) ∧ (0 ≤ a → 0 ≤ b → 0 ≤ c ∧ (c = 0 → a = 0 ∧ b = 0)) := by
  rw [cmpRt_gd hA hB] at ha
  rw [cmpRt_gd hB hC] at hb
  rw [cmpRt_gd hA hC] at hc
  have t := cmp_trans hA.1 hB.1 hC.1 (cmpRt_sg hA.1 hB.1) (cmpRt_sg hB.1 hC.1) (cmpRt_sg hA.1 hC.1)
  rw [ha, hb, hc] at t
  refine ⟨by rw [cmpRt_gd hB hA, cmp_anti hA.1 hB.1, ha], by rw [cmpRt_gd hA hA, cmp_same hA.1], ?_, ?_, ?_, t⟩
  · rw [← ha]; exact cmp_bd hA.1 hB.1
  · rw [← hb]; exact cmp_bd hB.1 hC.1
  · rw [← hc]; exact cmp_bd hA.1 hC.1
theorem plus_gd {A : Rt} (h : A.Gd) (z : Int) : (Rt.mk z A.s A.n A.d).Gd := by
  obtain ⟨h1, h2, h3, h4⟩ := h
  have hp := ofP_plus (right_ok h3 h4 h2).2 z
  obtain ⟨k1, k2, _⟩ := ofP_ok h3 h4 hp
  exact ⟨k1, right_of k2 k1.nr k1.dr, h3, h4⟩
theorem plus_cmp {A B : Rt} (hA : A.Gd) (hB : B.Gd) (n : Int) : cmpRt ⟨A.add + n, A.s, A.n, A.d⟩ ⟨B.add + n, B.s, B.n, B.d⟩ = cmpRt A B := by
  rw [cmpRt_gd (plus_gd hA _) (plus_gd hB _), cmpRt_gd hA hB]
  show cmpR (A.add + n - (B.add + n)) _ _ _ _ _ _ = _
  rw [show A.add + n - (B.add + n) = A.add - B.add by omega]
theorem plus_sign {A : Rt} (hA : A.Gd) (n : Int) : cmpRt A ⟨A.add + n, A.s, A.n, A.d⟩ = sgn (-n) := by
  rw [cmpRt_gd hA (plus_gd hA _)]
  exact cmp_plus hA.1 (plus_gd hA (A.add + n)).1 n rfl rfl rfl rfl
theorem plus_back {A : Rt} (hA : A.Gd) (n : Int) (hi : inI A.add = true) : plusR ⟨A.add + n, A.s, A.n, A.d⟩ (-n) = (A, true) := by
  unfold plusR
  rw [(plus_gd hA _).2.1]
  show (if (true && inI (A.add + n + -n)) = true then ((⟨A.add + n + -n, A.s, A.n, A.d⟩ : Rt), true) else _) = _
  rw [show A.add + n + -n = A.add by omega, hi]
  rfl
theorem plus_ok {A : Rt} (hA : A.Gd) (n : Int) : plusR A n = if inI (A.add + n) then (⟨A.add + n, A.s, A.n, A.d⟩, true) else (Rt.no, false) := by
  unfold plusR
  rw [hA.2.1, Bool.true_and]
end Go.Proofs.YtghgggaimijcaaaDoor
