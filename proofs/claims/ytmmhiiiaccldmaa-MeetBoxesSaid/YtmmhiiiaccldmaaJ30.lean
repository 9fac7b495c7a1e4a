/- MeetThrough, its plain part: lines through a point; a ray from the centre of an arc. | More steps: new variables of seven cells (an edge) that a statement makes and fills. -/
import Derived.Test.YtmmhiiiaccldmaaJ21
import Derived.Test.YtmmhiiiaccldmaaJ03
set_option linter.unusedVariables false
set_option linter.unusedSimpArgs false

namespace Go.Proofs.Ytmmhiiiaccldmaa
open Go.RowKit

theorem line_ok {ax ay bx by' : Int} (h1 : Co ax) (h2 : Co ay) (h3 : Co bx) (h4 : Co by') : (Ed.mk 1 ax ay bx by' 0 0).ok = true := by
  simp only [Ed.ok, Ed.right, Bool.and_eq_true]
  exact ⟨⟨⟨coordB_iff.2 ⟨h1, h2⟩, coordB_iff.2 ⟨h3, h4⟩⟩, coordB_iff.2 (by unfold Co; omega)⟩, by simp [Ed.lone]⟩
theorem sideI_pos {n : Int} (h : 0 < n) : sideI n = 1 := by unfold sideI; (repeat' split) <;> omega
theorem sideI_neg {n : Int} (h : n < 0) : sideI n = -1 := by unfold sideI; (repeat' split) <;> omega
theorem sgn_pos {n : Int} (h : 0 < n) : sgn n = 1 := by unfold sgn cmpZ; (repeat' split) <;> omega
theorem sgn_neg {n : Int} (h : n < 0) : sgn n = -1 := by unfold sgn cmpZ; (repeat' split) <;> omega
theorem sgn_zero : sgn 0 = 0 := rfl

theorem thru_lines {px py ux uy vx vy : Int} (p1 : -999 ≤ px ∧ px ≤ 999) (p2 : -999 ≤ py ∧ py ≤ 999) (u1 : -49 ≤ ux ∧ ux ≤ 49) (u2 : -49 ≤ uy ∧ uy ≤ 49) (v1 : -49 ≤ vx ∧ vx ≤ 49) (v2 : -49 ≤ vy ∧ vy ≤ 49) (hc : ux * vy - uy * vx ≠ 0) :
    countE ⟨1, px - ux, py - uy, px + ux, py + uy, 0, 0⟩ ⟨1, px - vx, py - vy, px + vx, py + vy, 0, 0⟩ = 1 := by
  have o1 : (Ed.mk 1 (px - ux) (py - uy) (px + ux) (py + uy) 0 0).ok = true := line_ok (by unfold Co; omega) (by unfold Co; omega) (by unfold Co; omega) (by unfold Co; omega)
  have o2 : (Ed.mk 1 (px - vx) (py - vy) (px + vx) (py + vy) 0 0).ok = true := line_ok (by unfold Co; omega) (by unfold Co; omega) (by unfold Co; omega) (by unfold Co; omega)
  have q1 : (Ed.mk 1 (px - ux) (py - uy) (px + ux) (py + uy) 0 0).pt = false := by
    rw [Bool.eq_false_iff]
    simp only [Ed.pt, ne_eq, Bool.and_eq_true, beq_iff_eq]
    rintro ⟨a, b⟩
    have e1 : ux = 0 := by omega
    have e2 : uy = 0 := by omega
    subst e1 e2
    simp at hc
  have q2 : (Ed.mk 1 (px - vx) (py - vy) (px + vx) (py + vy) 0 0).pt = false := by
    rw [Bool.eq_false_iff]
    simp only [Ed.pt, ne_eq, Bool.and_eq_true, beq_iff_eq]
    rintro ⟨a, b⟩
    have e1 : vx = 0 := by omega
    have e2 : vy = 0 := by omega
    subst e1 e2
    simp at hc
  unfold countE
  rw [o1, o2, q1, q2]
  simp only [Bool.and_self, Bool.not_true, Bool.false_eq_true, if_false, if_true]
  obtain ⟨X, hX⟩ : ∃ X, ux * vy - uy * vx = X := ⟨_, rfl⟩
  have e1 : (px + ux - (px - ux)) * (py + vy - (py - vy)) - (py + uy - (py - uy)) * (px + vx - (px - vx)) = 4 * X := by grind
  have e2 : crI (px - ux) (py - uy) (px + ux) (py + uy) (px - vx) (py - vy) = -2 * X := by unfold crI; grind
  have e3 : crI (px - ux) (py - uy) (px + ux) (py + uy) (px + vx) (py + vy) = 2 * X := by unfold crI; grind
  have e4 : crI (px - vx) (py - vy) (px + vx) (py + vy) (px - ux) (py - uy) = 2 * X := by unfold crI; grind
  have e5 : crI (px - vx) (py - vy) (px + vx) (py + vy) (px + ux) (py + uy) = -2 * X := by unfold crI; grind
  rw [hX] at hc
  unfold linesZ
  rw [e1, e2, e3, e4, e5, if_pos (by omega)]
  rcases Int.lt_or_gt_of_ne hc with h | h
  · rw [sideI_pos (show 0 < -2 * X by omega), sideI_neg (show 2 * X < 0 by omega)]
    rfl
  · rw [sideI_neg (show -2 * X < 0 by omega), sideI_pos (show 0 < 2 * X by omega)]
    rfl

theorem sideZ_zero {y d : Int} (hd : 0 < d) : sideZ 0 y d = sgn y := by
  unfold sideZ
  rw [sgn_zero, sgn_pos hd]
  have := sgn_bd y
  simp only [Int.zero_mul, Int.le_refl, if_true, Int.mul_one, Int.zero_add]
  omega
theorem ray_good {S r dx dy : Int} (hr : 0 < r) (hS : r * r ≤ S) (h1 : 0 ≤ dx) (h2 : 0 ≤ dy) : countC (S * (r * r)) [(0, 1), (S, -1), (0, dx), (0, dy)] = 1 := by
  have hrr : 0 < r * r := Int.mul_pos hr hr
  have hS0 : 0 < S := by omega
  have hd : 0 < S * (r * r) := Int.mul_pos hS0 hrr
  have n1 : 0 ≤ sgn dx := by unfold sgn cmpZ; (repeat' split) <;> omega
  have n2 : 0 ≤ sgn dy := by unfold sgn cmpZ; (repeat' split) <;> omega
  have k2 : 0 ≤ sideZ S (-1) (S * (r * r)) := by
    unfold sideZ
    rw [sgn_pos hS0, sgn_pos hd, sgn_neg (show (-1 : Int) < 0 by omega)]
    rw [if_neg (by decide)]
    have := Int.mul_le_mul_of_nonneg_left hS (show 0 ≤ S by omega)
    have e : (-1 : Int) * -1 * (S * (r * r)) = S * (r * r) := by omega
    rw [e]
    unfold cmpZ
    (repeat' split) <;> omega
  have q1 : sgn 1 = 1 := sgn_pos (by omega)
  have q2 : sgn (-1) = -1 := sgn_neg (by omega)
  have g1 : goodS (S * (r * r)) 1 [(0, 1), (S, -1), (0, dx), (0, dy)] = true := by
    simp [goodS, sideZ_zero hd, q1, k2, n1, n2]
  have g2 : goodS (S * (r * r)) (-1) [(0, 1), (S, -1), (0, dx), (0, dy)] = false := by
    simp [goodS, sideZ_zero hd, q2]
  unfold countC
  rw [if_neg (by omega), g1, g2, if_neg (show ¬ S * (r * r) = 0 by omega)]
  rfl
theorem thru_ray {px py mx my r : Int} (p1 : -999 ≤ px ∧ px ≤ 999) (p2 : -999 ≤ py ∧ py ≤ 999) (u1 : 0 ≤ mx ∧ mx ≤ 49) (u2 : 0 ≤ my ∧ my ≤ 49) (hr : 1 ≤ r ∧ r ≤ 60) :
    (Ed.mk 2 (px + r) py px (py + r) px py).ok = true ∧ countE ⟨1, px, py, px + 60 * mx, py + 60 * my, 0, 0⟩ ⟨2, px + r, py, px, py + r, px, py⟩ = if mx = 0 ∧ my = 0 then 0 else 1 := by
  have o1 : (Ed.mk 1 px py (px + 60 * mx) (py + 60 * my) 0 0).ok = true := line_ok (by unfold Co; omega) (by unfold Co; omega) (by unfold Co; omega) (by unfold Co; omega)
  have ca : ∀ a b : Int, a + b - a = b := fun a b => by omega
  have o2 : (Ed.mk 2 (px + r) py px (py + r) px py).ok = true := by
    simp only [Ed.ok, Ed.right, Bool.and_eq_true]
    refine ⟨⟨⟨coordB_iff.2 ?_, coordB_iff.2 ?_⟩, coordB_iff.2 ?_⟩, ?_⟩
    · unfold Co; omega
    · unfold Co; omega
    · unfold Co; omega
    · have n0 : ¬ r = 0 := by omega
      simp [Ed.quarter, quarterB, rot, ca, n0]
  refine ⟨o2, ?_⟩
  have hR : radZ (Ed.mk 2 (px + r) py px (py + r) px py) = r := by
    unfold radZ
    rw [o2]
    simp only [ca]
    simp
    omega
  have r1 : r.tdiv r = 1 := tdiv_self (by omega)
  have r0 : (0 : Int).tdiv r = 0 := Int.zero_tdiv r
  unfold countE
  rw [o1, o2]
  simp only [Bool.and_self, Bool.not_true, Bool.false_eq_true, if_false, if_true]
  by_cases hz : mx = 0 ∧ my = 0
  · obtain ⟨rfl, rfl⟩ := hz
    have : (Ed.mk 1 px py (px + 60 * 0) (py + 60 * 0) 0 0).pt = true := by simp [Ed.pt]
    rw [this]
    simp only [if_true]
    have hon : onE (Ed.mk 2 (px + r) py px (py + r) px py) px py = false := by
      unfold onE
      rw [o2]
      have hrr : 0 < r * r := Int.mul_pos (by omega) (by omega)
      simp [powerI, ca]
      omega
    simp [onZ, hon]
  · have : (Ed.mk 1 px py (px + 60 * mx) (py + 60 * my) 0 0).pt = false := by
      rw [Bool.eq_false_iff]; simp only [Ed.pt, ne_eq, Bool.and_eq_true, beq_iff_eq]; omega
    rw [this, if_neg hz]
    simp only [Bool.false_eq_true, if_false]
    rw [if_neg (by decide)]
    unfold crossZ
    rw [countZ_eq]
    have eL : laE (Ed.mk 1 px py (px + 60 * mx) (py + 60 * my) 0 0) (Ed.mk 2 (px + r) py px (py + r) px py) = ⟨60 * mx * (60 * mx) + 60 * my * (60 * my), 0, 0, r, 0, 60 * mx, 0, 60 * my⟩ := by
      unfold laE Ed.ux Ed.uy Ed.vx Ed.vy
      simp only [hR, ca, r1, r0, Int.sub_self, Int.zero_mul, Int.mul_one, Int.mul_zero, Int.add_zero, Int.zero_add]
    rw [eL]
    have hS : r * r ≤ 60 * mx * (60 * mx) + 60 * my * (60 * my) := by
      have a1 : r * r ≤ 60 * 60 := Int.mul_le_mul hr.2 hr.2 (by omega) (by omega)
      rcases Int.lt_or_eq_of_le u1.1 with h | h
      · have b1 : (60 : Int) * 60 ≤ 60 * mx * (60 * mx) := Int.mul_le_mul (by omega) (by omega) (by omega) (by omega)
        have b2 : 0 ≤ 60 * my * (60 * my) := Int.mul_nonneg (by omega) (by omega)
        omega
      · have hm : 1 ≤ my := by omega
        have b1 : (60 : Int) * 60 ≤ 60 * my * (60 * my) := Int.mul_le_mul (by omega) (by omega) (by omega) (by omega)
        have b2 : 0 ≤ 60 * mx * (60 * mx) := Int.mul_nonneg (by omega) (by omega)
        omega
    have := ray_good (S := 60 * mx * (60 * mx) + 60 * my * (60 * my)) (r := r) (dx := 60 * mx) (dy := 60 * my) (by omega) hS (by omega) (by omega)
    unfold LA.delta LA.list
    simp only [Int.mul_zero, Int.zero_mul, Int.sub_zero, Int.zero_sub, Int.sub_neg, Int.zero_add, Int.neg_zero, Int.mul_neg, Int.sub_self, Int.add_zero]
    exact this
end Go.Proofs.Ytmmhiiiaccldmaa

namespace Go.Proofs.Ytmmhiiiaccldmaa
open Go.RowKit

theorem cells7 {W : World} {g : Nat} {a0 a1 a2 a3 a4 a5 a6 : Value} {T : TypeId} (h : W.heap[g]? = some (.cells #[a0, a1, a2, a3, a4, a5, a6] T)) :
    (W.cell? ⟨g, 0, none⟩ = some a0 ∧ W.cell? ⟨g, 1, none⟩ = some a1 ∧ W.cell? ⟨g, 2, none⟩ = some a2 ∧ W.cell? ⟨g, 3, none⟩ = some a3 ∧ W.cell? ⟨g, 4, none⟩ = some a4 ∧ W.cell? ⟨g, 5, none⟩ = some a5 ∧ W.cell? ⟨g, 6, none⟩ = some a6) ∧
      (∀ o, W.frozen? ⟨g, o, none⟩ = false) ∧ g < W.heap.size := by
  refine ⟨⟨?_, ?_, ?_, ?_, ?_, ?_, ?_⟩, fun o => ?_, (Array.getElem?_eq_some_iff.1 h).1⟩
  all_goals first | (rw [cell_of_row _ _ _ _ _ _ h]; rfl) | simp [World.frozen?, h]
theorem store1 {W : World} {g j : Nat} {cs : Array Value} {v : Value} {T : TypeId} (h : W.heap[g]? = some (.cells cs T)) :
    OnlyB g W (W.setCell ⟨g, j, none⟩ v) ∧ (W.setCell ⟨g, j, none⟩ v).heap[g]? = some (.cells (cs.setIfInBounds j v) T) := by
  have hlt := (Array.getElem?_eq_some_iff.1 h).1
  refine ⟨⟨rfl, rfl, rfl, by simp [World.setCell], fun k hk => Below.heap_setCell _ _ _ _ (by simpa using hk)⟩, ?_⟩
  have e : W.heap[g] = .cells cs T := by
    rw [Array.getElem?_eq_getElem hlt] at h; simpa using h
  simp [World.setCell, hlt, Array.getElem_modify, e]
theorem OnlyB.step {g : Nat} {a b c : World} (h : OnlyB g a b) (k : OnlyB g b c) : OnlyB g a c :=
  ⟨k.os.trans h.os, k.tape.trans h.tape, k.output.trans h.output, k.size.trans h.size, fun i hi => (k.block i hi).trans (h.block i hi)⟩
theorem store7 {W : World} {g : Nat} {a0 a1 a2 a3 a4 a5 a6 x0 x1 x2 x3 x4 x5 x6 : Value} {T : TypeId} (h : W.heap[g]? = some (.cells #[a0, a1, a2, a3, a4, a5, a6] T)) :
    OnlyB g W (((((((W.setCell ⟨g, 0, none⟩ x0).setCell ⟨g, 1, none⟩ x1).setCell ⟨g, 2, none⟩ x2).setCell ⟨g, 3, none⟩ x3).setCell ⟨g, 4, none⟩ x4).setCell ⟨g, 5, none⟩ x5).setCell ⟨g, 6, none⟩ x6) ∧
      (((((((W.setCell ⟨g, 0, none⟩ x0).setCell ⟨g, 1, none⟩ x1).setCell ⟨g, 2, none⟩ x2).setCell ⟨g, 3, none⟩ x3).setCell ⟨g, 4, none⟩ x4).setCell ⟨g, 5, none⟩ x5).setCell ⟨g, 6, none⟩ x6).heap[g]? = some (.cells #[x0, x1, x2, x3, x4, x5, x6] T) := by
  obtain ⟨h0, k0⟩ := store1 (j := 0) (v := x0) h
  obtain ⟨h1, k1⟩ := store1 (j := 1) (v := x1) k0
  obtain ⟨h2, k2⟩ := store1 (j := 2) (v := x2) k1
  obtain ⟨h3, k3⟩ := store1 (j := 3) (v := x3) k2
  obtain ⟨h4, k4⟩ := store1 (j := 4) (v := x4) k3
  obtain ⟨h5, k5⟩ := store1 (j := 5) (v := x5) k4
  obtain ⟨h6, k6⟩ := store1 (j := 6) (v := x6) k5
  refine ⟨(((((h0.step h1).step h2).step h3).step h4).step h5).step h6, k6.trans ?_⟩
  simp
section
variable {P : Program} {ops : Array Oper} {S : World → Prop} {Q : Act → World → Prop} {o : Oper} {l : List Oper} {a : Act} {own : List Nat} {F : World → Prop}
/-- A store into a new variable of seven cells. -/
theorem F_store7 (R : World → Prop) (g : Nat) (a0 a1 a2 a3 a4 a5 a6 x0 x1 x2 x3 x4 x5 x6 : Value) (T : TypeId) (hk : fkind o = 3) (hw : Region.wanted o (yielded ops a.tmps) = true)
    (hrun : ∀ W : World, W.cell? ⟨g, 0, none⟩ = some a0 → W.cell? ⟨g, 1, none⟩ = some a1 → W.cell? ⟨g, 2, none⟩ = some a2 → W.cell? ⟨g, 3, none⟩ = some a3 → W.cell? ⟨g, 4, none⟩ = some a4 → W.cell? ⟨g, 5, none⟩ = some a5 → W.cell? ⟨g, 6, none⟩ = some a6 → (∀ o, W.frozen? ⟨g, o, none⟩ = false) →
      (execOp a.eval o).run P W = .ok .skip (((((((W.setCell ⟨g, 0, none⟩ x0).setCell ⟨g, 1, none⟩ x1).setCell ⟨g, 2, none⟩ x2).setCell ⟨g, 3, none⟩ x3).setCell ⟨g, 4, none⟩ x4).setCell ⟨g, 5, none⟩ x5).setCell ⟨g, 6, none⟩ x6))
    (hF : ∀ W, F W → R W ∧ W.heap[g]? = some (.cells #[a0, a1, a2, a3, a4, a5, a6] T)) (hR : RK g (.cells #[a0, a1, a2, a3, a4, a5, a6] T) R) (hm : FMono R) (hs : ∀ W, R W → S W)
    (h : WpF P ops S Q l (a.put o.dst undef) own (fun W => (R W ∧ W.heap[g]? = some (.cells #[x0, x1, x2, x3, x4, x5, x6] T)) ∧ ∀ g ∈ own, g < W.heap.size)) : WpF P ops S Q (o :: l) a own F := by
  refine F_store (fun W => R W ∧ W.heap[g]? = some (.cells #[x0, x1, x2, x3, x4, x5, x6] T)) (hm.and (fmono_obj _ _)) (fun W h => hs W h.1) hk hw (fun W hf => ?_) h
  obtain ⟨hr, hb⟩ := hF W hf
  obtain ⟨⟨c0, c1, c2, c3, c4, c5, c6⟩, cf, hlt⟩ := cells7 hb
  unfold Gives
  rw [hrun W c0 c1 c2 c3 c4 c5 c6 cf]
  obtain ⟨k1, k2⟩ := store7 (x0 := x0) (x1 := x1) (x2 := x2) (x3 := x3) (x4 := x4) (x5 := x5) (x6 := x6) hb
  exact ⟨rfl, by rw [k1.size]; exact Nat.le_refl _, hR W _ hr hb k1, k2⟩
end
end Go.Proofs.Ytmmhiiiaccldmaa
