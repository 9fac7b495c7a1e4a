/- Numbers x + y √d that are not negative: sums and products of such are such. | MeetBoxes, its plain part: edges between which an upright or level strip lies have no point in common. | MeetBoxes, its plain part: edges whose boxes have no common point have no point in common. -/
import Derived.Test.YtmmhiiiaccldmaaJ33
import Derived.Test.YtmmhiiiaccldmaaJ36
set_option linter.unusedVariables false
set_option linter.unusedSimpArgs false

namespace Go.Proofs.Ytmmhiiiaccldmaa
open Go.RowKit

/-- x + y √d is not negative (d not negative). -/
def Sp (d x y : Int) : Prop := (0 ≤ x ∧ y * y * d ≤ x * x) ∨ (0 ≤ y ∧ x * x ≤ y * y * d)
theorem sq_nn (x : Int) : 0 ≤ x * x := by rw [← Int.natAbs_mul_self]; omega
theorem abs_le_of_sq {x y : Int} (hy : 0 ≤ y) (h : x * x ≤ y * y) : -y ≤ x ∧ x ≤ y := by
  constructor
  · rcases (show -y ≤ x ∨ x < -y by omega) with g | g
    · exact g
    · have := Int.mul_lt_mul_of_pos_right (show y < -x by omega) (show 0 < -x by omega)
      have := Int.mul_le_mul_of_nonneg_left (show y ≤ -x by omega) hy
      have e : -x * -x = x * x := by grind
      omega
  · rcases (show x ≤ y ∨ y < x by omega) with g | g
    · exact g
    · have := Int.mul_lt_mul_of_pos_right (show y < x by omega) (show 0 < x by omega)
      have := Int.mul_le_mul_of_nonneg_left (show y ≤ x by omega) hy
      omega
/-- A product of squares is at most another: so are the numbers. -/
theorem sq_mul_le {a b c e : Int} (ha : 0 ≤ a) (hb : 0 ≤ b) (hce : c * c * (e * e) ≤ a * a * (b * b)) : -(a * b) ≤ c * e ∧ c * e ≤ a * b := by
  refine abs_le_of_sq (Int.mul_nonneg ha hb) ?_
  have e1 : c * e * (c * e) = c * c * (e * e) := by grind
  have e2 : a * b * (a * b) = a * a * (b * b) := by grind
  omega
theorem mul_le2 {a b c e : Int} (h1 : a ≤ b) (h2 : c ≤ e) (ha : 0 ≤ a) (hc : 0 ≤ c) : a * c ≤ b * e := Int.mul_le_mul h1 h2 hc (by omega)
theorem Sp.int {d x : Int} (h : 0 ≤ x) : Sp d x 0 := by
  left
  refine ⟨h, ?_⟩
  have := sq_nn x
  simpa using this
theorem not_sp {d x : Int} (h : x < 0) : ¬ Sp d x 0 := by
  rintro (⟨h1, _⟩ | ⟨_, h2⟩)
  · omega
  · have := Int.mul_pos_of_neg_of_neg h h
    simp at h2
    omega
theorem sp_total (d x y : Int) : Sp d x y ∨ Sp d (-x) (-y) := by
  unfold Sp
  rw [Int.neg_mul_neg, Int.neg_mul_neg]
  omega
theorem sp_of_side {d x y : Int} (hd : 0 ≤ d) (h : 0 ≤ sideZ x y d) : Sp d x y := by
  unfold sideZ at h
  rcases Int.lt_or_eq_of_le hd with h0 | h0
  · rw [sgn_pos h0, Int.mul_one] at h
    rcases Int.lt_trichotomy x 0 with hx | hx | hx
    · rw [sgn_neg hx] at h
      rcases Int.lt_trichotomy y 0 with hy | hy | hy
      · rw [sgn_neg hy, if_pos (by decide)] at h; exfalso; revert h; decide
      · subst hy; rw [sgn_zero, if_pos (by decide)] at h; exfalso; revert h; decide
      · rw [sgn_pos hy, if_neg (by decide)] at h
        right
        refine ⟨by omega, ?_⟩
        unfold cmpZ at h
        (repeat' split at h) <;> omega
    · subst hx
      rw [sgn_zero, Int.zero_mul, if_pos (Int.le_refl _)] at h
      right
      refine ⟨?_, by have := Int.mul_nonneg (sq_nn y) hd; omega⟩
      rcases (show y < 0 ∨ 0 ≤ y by omega) with hy | hy
      · rw [sgn_neg hy] at h; exfalso; revert h; decide
      · exact hy
    · rw [sgn_pos hx] at h
      rcases Int.lt_trichotomy y 0 with hy | hy | hy
      · rw [sgn_neg hy, if_neg (by decide)] at h
        left
        refine ⟨by omega, ?_⟩
        unfold cmpZ at h
        (repeat' split at h) <;> omega
      · subst hy
        exact Sp.int (by omega)
      · unfold Sp
        omega
  · subst h0
    rw [sgn_zero, Int.mul_zero, Int.mul_zero, if_pos (Int.le_refl _)] at h
    left
    refine ⟨?_, by have := sq_nn x; simpa using this⟩
    rcases (show x < 0 ∨ 0 ≤ x by omega) with hx | hx
    · rw [sgn_neg hx] at h; exfalso; revert h; decide
    · exact hx
theorem Sp.mul {d a b x y : Int} (hd : 0 ≤ d) (h : Sp d a b) (k : Sp d x y) : Sp d (a * x + b * y * d) (a * y + b * x) := by
  have hn : (a * x + b * y * d) * (a * x + b * y * d) - (a * y + b * x) * (a * y + b * x) * d = (a * a - b * b * d) * (x * x - y * y * d) := by grind
  have sb := Int.mul_nonneg (sq_nn b) hd
  have sy := Int.mul_nonneg (sq_nn y) hd
  rcases h with ⟨h1, h2⟩ | ⟨h1, h2⟩ <;> rcases k with ⟨k1, k2⟩ | ⟨k1, k2⟩
  · left
    have := Int.mul_nonneg (show 0 ≤ a * a - b * b * d by omega) (show 0 ≤ x * x - y * y * d by omega)
    refine ⟨?_, by omega⟩
    have q := mul_le2 h2 k2 sb sy
    have := (sq_mul_le (c := b * y) (e := d) h1 k1 (by have e : b * y * (b * y) * (d * d) = b * b * d * (y * y * d) := by grind
                                                       omega)).1
    omega
  · right
    have := Int.mul_nonneg (show 0 ≤ a * a - b * b * d by omega) (show 0 ≤ y * y * d - x * x by omega)
    have e3 : (a * a - b * b * d) * (x * x - y * y * d) = -((a * a - b * b * d) * (y * y * d - x * x)) := by grind
    refine ⟨?_, by omega⟩
    rcases Int.lt_or_eq_of_le hd with h0 | h0
    · have q := mul_le2 h2 k2 sb (sq_nn x)
      have q2 : b * b * (x * x) ≤ a * a * (y * y) := by
        refine Int.le_of_mul_le_mul_left (a := d) ?_ h0
        have e1 : d * (b * b * (x * x)) = b * b * d * (x * x) := by grind
        have e2 : d * (a * a * (y * y)) = a * a * (y * y * d) := by grind
        omega
      have := (sq_mul_le (c := b) (e := x) h1 k1 q2).1
      omega
    · subst h0
      have hx : x = 0 := by
        simp at k2
        rcases (show x = 0 ∨ x ≠ 0 by omega) with g | g
        · exact g
        · have := sq_pos (x := x) (y := 0) (by omega)
          omega
      subst hx
      have := Int.mul_nonneg h1 k1
      omega
  · right
    have := Int.mul_nonneg (show 0 ≤ b * b * d - a * a by omega) (show 0 ≤ x * x - y * y * d by omega)
    have e3 : (a * a - b * b * d) * (x * x - y * y * d) = -((b * b * d - a * a) * (x * x - y * y * d)) := by grind
    refine ⟨?_, by omega⟩
    rcases Int.lt_or_eq_of_le hd with h0 | h0
    · have q := mul_le2 k2 h2 sy (sq_nn a)
      have q2 : y * y * (a * a) ≤ x * x * (b * b) := by
        refine Int.le_of_mul_le_mul_left (a := d) ?_ h0
        have e1 : d * (y * y * (a * a)) = y * y * d * (a * a) := by grind
        have e2 : d * (x * x * (b * b)) = x * x * (b * b * d) := by grind
        omega
      have := (sq_mul_le (c := y) (e := a) k1 h1 q2).1
      have e1 : x * b = b * x := Int.mul_comm ..
      have e2 : y * a = a * y := Int.mul_comm ..
      omega
    · subst h0
      have hx : a = 0 := by
        simp at h2
        rcases (show a = 0 ∨ a ≠ 0 by omega) with g | g
        · exact g
        · have := sq_pos (x := a) (y := 0) (by omega)
          omega
      subst hx
      have := Int.mul_nonneg h1 k1
      omega
  · left
    have := Int.mul_nonneg (show 0 ≤ b * b * d - a * a by omega) (show 0 ≤ y * y * d - x * x by omega)
    have e3 : (a * a - b * b * d) * (x * x - y * y * d) = (b * b * d - a * a) * (y * y * d - x * x) := by grind
    refine ⟨?_, by omega⟩
    have q := mul_le2 h2 k2 (sq_nn a) (sq_nn x)
    have := (sq_mul_le (a := b * y) (b := d) (c := a) (e := x) (Int.mul_nonneg h1 k1) hd (by have e : b * y * (b * y) * (d * d) = b * b * d * (y * y * d) := by grind
                                                                                             omega)).1
    omega
theorem Sp.add {d a b x y : Int} (hd : 0 ≤ d) (h : Sp d a b) (k : Sp d x y) : Sp d (a + x) (b + y) := by
  have ex : (a + x) * (a + x) = a * a + 2 * (a * x) + x * x := by grind
  have ey : (b + y) * (b + y) * d = b * b * d + 2 * (b * y * d) + y * y * d := by grind
  have sb := Int.mul_nonneg (sq_nn b) hd
  have sy := Int.mul_nonneg (sq_nn y) hd
  -- the mixed case: a number with a great whole part and one with a great root part
  have mixed {a b x y : Int} (h1 : 0 ≤ a) (h2 : b * b * d ≤ a * a) (k1 : 0 ≤ y) (k2 : x * x ≤ y * y * d) : Sp d (a + x) (b + y) := by
    have sb := Int.mul_nonneg (sq_nn b) hd
    have sy := Int.mul_nonneg (sq_nn y) hd
    have e2 : y * y * d = (b + y) * (b + y) * d - 2 * ((b + y) * b * d) + b * b * d := by grind
    have e1 : x * x = (a + x) * (a + x) + 2 * (-(a + x) * a) + a * a := by grind
    rcases (show 0 ≤ b + y ∨ b + y < 0 by omega) with g | g
    · rcases (show (a + x) * (a + x) ≤ (b + y) * (b + y) * d ∨ (b + y) * (b + y) * d < (a + x) * (a + x) by omega) with g1 | g1
      · exact .inr ⟨g, g1⟩
      · rcases (show 0 ≤ a + x ∨ a + x < 0 by omega) with g2 | g2
        · exact .inl ⟨g2, by omega⟩
        · exfalso
          have q := mul_le2 (Int.le_of_lt g1) h2 (Int.mul_nonneg (sq_nn _) hd) sb
          have q' := sq_mul_le (a := -(a + x)) (b := a) (c := (b + y) * b) (e := d) (by omega) h1 (by
            have e : (b + y) * b * ((b + y) * b) * (d * d) = (b + y) * (b + y) * d * (b * b * d) := by grind
            have e2 : -(a + x) * -(a + x) * (a * a) = (a + x) * (a + x) * (a * a) := by grind
            omega)
          omega
    · rcases (show 0 ≤ a + x ∨ a + x < 0 by omega) with g2 | g2
      · rcases (show (b + y) * (b + y) * d ≤ (a + x) * (a + x) ∨ (a + x) * (a + x) < (b + y) * (b + y) * d by omega) with g1 | g1
        · exact .inl ⟨g2, g1⟩
        · exfalso
          have q := mul_le2 (Int.le_of_lt g1) k2 (sq_nn _) (sq_nn _)
          have q' := sq_mul_le (a := -(b + y) * y) (b := d) (c := a + x) (e := x) (Int.mul_nonneg (by omega) k1) hd (by
            have e : -(b + y) * y * (-(b + y) * y) * (d * d) = (b + y) * (b + y) * d * (y * y * d) := by grind
            omega)
          have e3 : a * a = (a + x) * (a + x) - 2 * ((a + x) * x) + x * x := by grind
          have e4 : b * b * d = (b + y) * (b + y) * d + 2 * (-(b + y) * y * d) + y * y * d := by grind
          omega
      · exfalso
        have h3 := Int.mul_nonneg (show 0 ≤ -(a + x) by omega) h1
        have h4 := Int.mul_pos_of_neg_of_neg g2 g2
        have h5 := Int.mul_nonneg (Int.mul_nonneg (show 0 ≤ -(b + y) by omega) k1) hd
        have h6 := Int.mul_nonneg (sq_nn (b + y)) hd
        have e4 : b * b * d = (b + y) * (b + y) * d + 2 * (-(b + y) * y * d) + y * y * d := by grind
        omega
  rcases h with ⟨h1, h2⟩ | ⟨h1, h2⟩ <;> rcases k with ⟨k1, k2⟩ | ⟨k1, k2⟩
  · left
    refine ⟨by omega, ?_⟩
    have q := mul_le2 h2 k2 sb sy
    have := (sq_mul_le (c := b * y) (e := d) h1 k1 (by have e : b * y * (b * y) * (d * d) = b * b * d * (y * y * d) := by grind
                                                       omega)).2
    omega
  · exact mixed h1 h2 k1 k2
  · have := mixed k1 k2 h1 h2
    rw [Int.add_comm x, Int.add_comm y] at this
    exact this
  · right
    refine ⟨by omega, ?_⟩
    have q := mul_le2 h2 k2 (sq_nn a) (sq_nn x)
    have := (sq_mul_le (a := b * y) (b := d) (c := a) (e := x) (Int.mul_nonneg h1 k1) hd (by have e : b * y * (b * y) * (d * d) = b * b * d * (y * y * d) := by grind
                                                                                             omega)).2
    omega
end Go.Proofs.Ytmmhiiiaccldmaa

namespace Go.Proofs.Ytmmhiiiaccldmaa
open Go.RowKit

theorem Sp.smul {d n a b : Int} (hd : 0 ≤ d) (hn : 0 ≤ n) (h : Sp d a b) : Sp d (n * a) (n * b) := by
  have := Sp.mul hd (Sp.int hn) h
  simpa using this
theorem Sp.cast {d a b x y : Int} (h : Sp d a b) (h1 : a = x) (h2 : b = y) : Sp d x y := by subst h1 h2; exact h

/-- A quarter of a circle: what is known of its numbers; a and b: the parts of a point on it along the axes, n times. -/
structure Qtr (d R a1 a2 b1 b2 : Int) : Prop where
  a : Sp d a1 a2
  b : Sp d b1 b2
  sq : a1 * a1 + a2 * a2 * d + (b1 * b1 + b2 * b2 * d) = R * R
  mix : a1 * a2 + b1 * b2 = 0
theorem Qtr.swap {d R a1 a2 b1 b2 : Int} (h : Qtr d R a1 a2 b1 b2) : Qtr d R b1 b2 a1 a2 := ⟨h.b, h.a, by have := h.sq; omega, by have := h.mix; omega⟩
/-- Along an axis a point of a quarter is at most as far as the radius. -/
theorem Qtr.le {d R a1 a2 b1 b2 : Int} (hd : 0 ≤ d) (hR : 0 ≤ R) (h : Qtr d R a1 a2 b1 b2) : Sp d (2 * R + 1 - 2 * a1) (-(2 * a2)) := by
  rcases sp_total d (2 * R + 1 - 2 * a1) (-(2 * a2)) with g | g
  · exact g
  · exfalso
    have k := (h.a.smul hd (show 0 ≤ 2 by decide)).add hd (Sp.int (show 0 ≤ 2 * R + 1 by omega))
    have m := g.mul hd k
    have bb := (h.b.mul hd h.b).smul hd (show 0 ≤ 4 by decide)
    have z := m.add hd bb
    have hs := h.sq
    have hm := h.mix
    have := z.cast (x := 4 * (R * R) - (2 * R + 1) * (2 * R + 1)) (y := 0) (by grind) (by grind)
    refine not_sp ?_ this
    have e : (2 * R + 1) * (2 * R + 1) = 4 * (R * R) + 4 * R + 1 := by grind
    omega
/-- A direction along an axis, seen from the axes of a quarter. -/
def Unit2 (p q : Int) : Prop := (q = 0 ∧ (p = 1 ∨ p = -1)) ∨ (p = 0 ∧ (q = 1 ∨ q = -1))
theorem Unit2.neg {p q : Int} (h : Unit2 p q) : Unit2 (-p) (-q) := by unfold Unit2 at *; omega
theorem Qtr.ub {d n r a1 a2 b1 b2 p q m : Int} (hd : 0 ≤ d) (hn : 0 < n) (hr : 0 ≤ r) (h : Qtr d (n * r) a1 a2 b1 b2) (hu : Unit2 p q) (h1 : r * p ≤ m) (h2 : r * q ≤ m) :
    Sp d (2 * (n * m) + 1 - 2 * (p * a1 + q * b1)) (-(2 * (p * a2 + q * b2))) := by
  have hR : 0 ≤ n * r := Int.mul_nonneg (by omega) hr
  rcases hu with ⟨rfl, rfl | rfl⟩ | ⟨rfl, rfl | rfl⟩
  · have k := (h.le hd hR).add hd (Sp.int (show 0 ≤ 2 * (n * (m - r)) from Int.mul_nonneg (by decide) (Int.mul_nonneg (by omega) (by omega))))
    exact k.cast (by grind) (by grind)
  · have k := (h.a.smul hd (show 0 ≤ 2 by decide)).add hd (Sp.int (show 0 ≤ 2 * (n * m) + 1 by have := Int.mul_nonneg (show 0 ≤ n by omega) (show 0 ≤ m by omega); omega))
    exact k.cast (by grind) (by grind)
  · have k := (h.swap.le hd hR).add hd (Sp.int (show 0 ≤ 2 * (n * (m - r)) from Int.mul_nonneg (by decide) (Int.mul_nonneg (by omega) (by omega))))
    exact k.cast (by grind) (by grind)
  · have k := (h.b.smul hd (show 0 ≤ 2 by decide)).add hd (Sp.int (show 0 ≤ 2 * (n * m) + 1 by have := Int.mul_nonneg (show 0 ≤ n by omega) (show 0 ≤ m by omega); omega))
    exact k.cast (by grind) (by grind)

/-- Counted: there is a sign for which all are not negative. -/
theorem countC_ex {d : Int} {l : List (Int × Int)} (h : countC d l ≠ 0) : 0 ≤ d ∧ ∃ s : Int, s * s = 1 ∧ ∀ p ∈ l, Sp d p.1 (s * p.2) := by
  unfold countC at h
  by_cases hd : d < 0
  · rw [if_pos hd] at h; exact absurd rfl h
  · rw [if_neg hd] at h
    have hd0 : 0 ≤ d := by omega
    refine ⟨hd0, ?_⟩
    have key (s : Int) (hs : s * s = 1) (hg : goodS d s l = true) : ∃ s : Int, s * s = 1 ∧ ∀ p ∈ l, Sp d p.1 (s * p.2) := by
      refine ⟨s, hs, fun p hp => ?_⟩
      unfold goodS at hg
      rw [List.all_eq_true] at hg
      exact sp_of_side hd0 (by simpa using hg p hp)
    by_cases g : goodS d 1 l = true
    · exact key 1 (by decide) g
    · rw [if_neg g] at h
      by_cases h0 : d = 0
      · rw [if_pos h0] at h; exact absurd rfl h
      · rw [if_neg h0] at h
        by_cases g' : goodS d (-1) l = true
        · exact key (-1) (by decide) g'
        · rw [if_neg g'] at h; exact absurd rfl h

/-- A direction along an axis of the plane. -/
def Dir (w1 w2 : Int) : Prop := Unit2 w1 w2
def fi (w1 w2 x y : Int) : Int := w1 * x + w2 * y
theorem axes_unit {ux uy vx vy w1 w2 : Int} (hw : Dir w1 w2) (hu : (ux = 1 ∧ uy = 0) ∨ (ux = -1 ∧ uy = 0) ∨ (ux = 0 ∧ uy = 1) ∨ (ux = 0 ∧ uy = -1)) (hv : (vx = -uy ∧ vy = ux) ∨ (vx = uy ∧ vy = -ux)) : Unit2 (fi w1 w2 ux uy) (fi w1 w2 vx vy) := by
  unfold Dir Unit2 fi at *
  rcases hw with ⟨rfl, rfl | rfl⟩ | ⟨rfl, rfl | rfl⟩ <;> omega
/-- The axes are at right angles, and of the length 1. -/
theorem axes_orth {ux uy vx vy : Int} (hu : (ux = 1 ∧ uy = 0) ∨ (ux = -1 ∧ uy = 0) ∨ (ux = 0 ∧ uy = 1) ∨ (ux = 0 ∧ uy = -1)) (hv : (vx = -uy ∧ vy = ux) ∨ (vx = uy ∧ vy = -ux)) :
    ux * ux + vx * vx = 1 ∧ uy * uy + vy * vy = 1 ∧ ux * uy + vx * vy = 0 := by
  rcases hu with ⟨rfl, rfl⟩ | ⟨rfl, rfl⟩ | ⟨rfl, rfl⟩ | ⟨rfl, rfl⟩ <;> rcases hv with ⟨rfl, rfl⟩ | ⟨rfl, rfl⟩ <;> decide

/-- Products with the axes make up a product. -/
theorem orth_dot {ux uy vx vy : Int} (q : ux * ux + vx * vx = 1 ∧ uy * uy + vy * vy = 1 ∧ ux * uy + vx * vy = 0) (x y z w : Int) : (x * ux + y * uy) * (z * ux + w * uy) + (x * vx + y * vy) * (z * vx + w * vy) = x * z + y * w := by
  obtain ⟨q1, q2, q3⟩ := q
  have e : (x * ux + y * uy) * (z * ux + w * uy) + (x * vx + y * vy) * (z * vx + w * vy) = x * z * (ux * ux + vx * vx) + y * w * (uy * uy + vy * vy) + (x * w + y * z) * (ux * uy + vx * vy) := by grind
  rw [e, q1, q2, q3]
  omega
theorem cross_alg {D S h F r s fu fv du dv pu pv pf pd N : Int} (hd : 0 ≤ D) (hS : 0 < S) (hr : 0 ≤ r) (hs : s * s = 1) (hdl : D = h * h - S * (F - r * r))
    (o1 : fu * fu + fv * fv = F) (o2 : fu * du + fv * dv = h) (o3 : du * du + dv * dv = S) (o4 : pu * fu + pv * fv = pf) (o5 : pu * du + pv * dv = pd) (hU : Unit2 pu pv)
    (p1 : Sp D (0 - h) (s * 1)) (p2 : Sp D (S - (0 - h)) (s * -1)) (p3 : Sp D (S * fu - h * du) (s * du)) (p4 : Sp D (S * fv - h * dv) (s * dv))
    (b1 : pf ≤ N) (b2 : pf + pd ≤ N) (b3 : r * -pu ≤ -(N + 1)) (b4 : r * -pv ≤ -(N + 1)) : False := by
  have e1 : (S * fu - h * du) * (S * fu - h * du) + s * du * (s * du) * D + ((S * fv - h * dv) * (S * fv - h * dv) + s * dv * (s * dv) * D) = S * r * (S * r) := by
    have e : (S * fu - h * du) * (S * fu - h * du) + s * du * (s * du) * D + ((S * fv - h * dv) * (S * fv - h * dv) + s * dv * (s * dv) * D) = S * S * (fu * fu + fv * fv) - 2 * (S * h * (fu * du + fv * dv)) + h * h * (du * du + dv * dv) + s * s * ((du * du + dv * dv) * D) := by grind
    rw [e, o1, o2, o3, hs, hdl]
    grind
  have e2 : (S * fu - h * du) * (s * du) + (S * fv - h * dv) * (s * dv) = 0 := by
    have e : (S * fu - h * du) * (s * du) + (S * fv - h * dv) * (s * dv) = s * (S * (fu * du + fv * dv) - h * (du * du + dv * dv)) := by grind
    rw [e, o2, o3]
    grind
  have hQ : Qtr D (S * r) (S * fu - h * du) (s * du) (S * fv - h * dv) (s * dv) := ⟨p3, p4, e1, e2⟩
  have hub := hQ.ub hd hS hr hU.neg b3 b4
  have k1 := p1.smul hd (show 0 ≤ 2 * (N - (pf + pd)) by omega)
  have k2 := p2.smul hd (show 0 ≤ 2 * (N - pf) by omega)
  have z := (k1.add hd k2).add hd hub
  refine not_sp (d := D) (x := 1 - 2 * S) (by omega) (z.cast ?_ ?_)
  · have e : -pu * (S * fu - h * du) + -pv * (S * fv - h * dv) = -(S * (pu * fu + pv * fv) - h * (pu * du + pv * dv)) := by grind
    rw [e, o4, o5]
    grind
  · have e : -pu * (s * du) + -pv * (s * dv) = -(s * (pu * du + pv * dv)) := by grind
    rw [e, o5]
    grind
/-- A line and an arc, a strip between them: the line below. -/
theorem cross_strip {l e : Ed} {w1 w2 M : Int} (hn : ¬ (l.ax = l.bx ∧ l.ay = l.by')) (oe : e.ok = true) (ke : ¬ e.k = 1) (hw : Dir w1 w2) (h1 : fi w1 w2 l.ax l.ay ≤ M) (h2 : fi w1 w2 l.bx l.by' ≤ M)
    (h3 : M + 1 ≤ fi w1 w2 e.ax e.ay) (h4 : M + 1 ≤ fi w1 w2 e.bx e.by') : crossZ l e = 0 := by
  rcases (show crossZ l e = 0 ∨ crossZ l e ≠ 0 by omega) with g | g
  · exact g
  exfalso
  unfold crossZ at g
  rw [countZ_eq] at g
  obtain ⟨hd, s, hs, hp⟩ := countC_ex g
  obtain ⟨hr, hu, _, a1, a2, a3, a4⟩ := arc_axes oe ke
  obtain ⟨_, hv⟩ := arc_axes' oe ke
  have hU := axes_unit hw hu hv
  have q := axes_orth hu hv
  have p1 := hp _ (show (0 - (laE l e).h, 1) ∈ (laE l e).list by simp [LA.list])
  have p2 := hp _ (show ((laE l e).S - (0 - (laE l e).h), -1) ∈ (laE l e).list by simp [LA.list])
  have p3 := hp _ (show ((laE l e).S * (laE l e).u1 - (laE l e).h * (laE l e).u2, (laE l e).u2) ∈ (laE l e).list by simp [LA.list])
  have p4 := hp _ (show ((laE l e).S * (laE l e).v1 - (laE l e).h * (laE l e).v2, (laE l e).v2) ∈ (laE l e).list by simp [LA.list])
  have hS0 : 0 < (laE l e).S := sq_pos (x := l.bx - l.ax) (y := l.by' - l.ay) (by omega)
  have sub1 (x y z w : Int) : fi w1 w2 (x - z) (y - w) = fi w1 w2 x y - fi w1 w2 z w := by unfold fi; grind
  have mul1 (x y z w t : Int) : fi w1 w2 (x + t * z) (y + t * w) = fi w1 w2 x y + t * fi w1 w2 z w := by unfold fi; grind
  rw [a1, a2, mul1] at h3
  rw [a3, a4, mul1] at h4
  exact cross_alg (N := M - fi w1 w2 e.cx e.cy) (r := (laE l e).r) (F := (laE l e).F) hd hS0 (Int.le_of_lt hr) hs rfl (orth_dot q ..) (orth_dot q ..) (orth_dot q ..) (orth_dot q w1 w2 (l.ax - e.cx) (l.ay - e.cy)) (orth_dot q w1 w2 (l.bx - l.ax) (l.by' - l.ay)) hU p1 p2 p3 p4
    (by show fi w1 w2 _ _ ≤ _; rw [sub1]; omega) (by show fi w1 w2 (l.ax - e.cx) (l.ay - e.cy) + fi w1 w2 (l.bx - l.ax) (l.by' - l.ay) ≤ _; rw [sub1, sub1]; omega)
    (by show radZ e * -fi w1 w2 e.ux e.uy ≤ _; rw [Int.mul_neg]; omega) (by show radZ e * -fi w1 w2 e.vx e.vy ≤ _; rw [Int.mul_neg]; omega)
/-- The same, the arc below. -/
theorem cross_strip' {l e : Ed} {w1 w2 M : Int} (hn : ¬ (l.ax = l.bx ∧ l.ay = l.by')) (oe : e.ok = true) (ke : ¬ e.k = 1) (hw : Dir w1 w2) (h1 : M + 1 ≤ fi w1 w2 l.ax l.ay) (h2 : M + 1 ≤ fi w1 w2 l.bx l.by')
    (h3 : fi w1 w2 e.ax e.ay ≤ M) (h4 : fi w1 w2 e.bx e.by' ≤ M) : crossZ l e = 0 := by
  have ng (x y : Int) : fi (-w1) (-w2) x y = -fi w1 w2 x y := by unfold fi; grind
  exact cross_strip (w1 := -w1) (w2 := -w2) (M := -(M + 1)) hn oe ke hw.neg (by rw [ng]; omega) (by rw [ng]; omega) (by rw [ng]; omega) (by rw [ng]; omega)
theorem apart_alg {D S k r q s du dv ds dt pu pv ps pt fu fv fs ft fd M Ce : Int} (hd : 0 ≤ D) (hS : 0 < S) (hr : 0 ≤ r) (hq : 0 ≤ q) (hs : s * s = 1) (hdl : D = 4 * S * (r * r) - k * k) (hkk : k = S - (q * q - r * r))
    (o1 : du * du + dv * dv = S) (o2 : pu * pu + pv * pv = S) (o3 : du * pu + dv * pv = 0) (o4 : ds * ds + dt * dt = S) (o5 : ps * ps + pt * pt = S) (o6 : ds * ps + dt * pt = 0)
    (o7 : fu * du + fv * dv = fs * ds + ft * dt) (o8 : fu * pu + fv * pv = fs * ps + ft * pt) (o9 : fs * ds + ft * dt = fd) (hU : Unit2 fu fv) (hV : Unit2 fs ft)
    (p1 : Sp D (k * du) (s * pu)) (p2 : Sp D (k * dv) (s * pv)) (p3 : Sp D ((k - 2 * S) * ds) (s * ps)) (p4 : Sp D ((k - 2 * S) * dt) (s * pt))
    (b1 : r * fu ≤ M - Ce) (b2 : r * fv ≤ M - Ce) (b3 : q * -fs ≤ -(M + 1) + (Ce + fd)) (b4 : q * -ft ≤ -(M + 1) + (Ce + fd)) : False := by
  have hQ : Qtr D (2 * S * r) (k * du) (s * pu) (k * dv) (s * pv) := by
    refine ⟨p1, p2, ?_, ?_⟩
    · have e : k * du * (k * du) + s * pu * (s * pu) * D + (k * dv * (k * dv) + s * pv * (s * pv) * D) = k * k * (du * du + dv * dv) + s * s * ((pu * pu + pv * pv) * D) := by grind
      rw [e, o1, o2, hs, hdl]
      grind
    · have e : k * du * (s * pu) + k * dv * (s * pv) = k * s * (du * pu + dv * pv) := by grind
      rw [e, o3, Int.mul_zero]
  have hP : Qtr D (2 * S * q) ((k - 2 * S) * ds) (s * ps) ((k - 2 * S) * dt) (s * pt) := by
    refine ⟨p3, p4, ?_, ?_⟩
    · have e : (k - 2 * S) * ds * ((k - 2 * S) * ds) + s * ps * (s * ps) * D + ((k - 2 * S) * dt * ((k - 2 * S) * dt) + s * pt * (s * pt) * D) = (k - 2 * S) * (k - 2 * S) * (ds * ds + dt * dt) + s * s * ((ps * ps + pt * pt) * D) := by grind
      rw [e, o4, o5, hs, hdl, hkk]
      grind
    · have e : (k - 2 * S) * ds * (s * ps) + (k - 2 * S) * dt * (s * pt) = (k - 2 * S) * s * (ds * ps + dt * pt) := by grind
      rw [e, o6, Int.mul_zero]
  have u1 := hQ.ub hd (show 0 < 2 * S by omega) hr hU b1 b2
  have u2 := hP.ub hd (show 0 < 2 * S by omega) hq hV.neg b3 b4
  have z := u1.add hd u2
  refine not_sp (d := D) (x := 2 - 4 * S) (by omega) (z.cast ?_ ?_)
  · have e1 : fu * (k * du) + fv * (k * dv) = k * (fu * du + fv * dv) := by grind
    have e2 : -fs * ((k - 2 * S) * ds) + -ft * ((k - 2 * S) * dt) = -((k - 2 * S) * (fs * ds + ft * dt)) := by grind
    rw [e1, e2, o7, o9]
    grind
  · have e1 : fu * (s * pu) + fv * (s * pv) = s * (fu * pu + fv * pv) := by grind
    have e2 : -fs * (s * ps) + -ft * (s * pt) = -(s * (fs * ps + ft * pt)) := by grind
    rw [e1, e2, o8]
    grind
/-- Arcs of different circles, a strip between them. -/
theorem apart_strip {e f : Ed} {w1 w2 M : Int} (oe : e.ok = true) (of : f.ok = true) (ke : ¬ e.k = 1) (kf : ¬ f.k = 1) (hc : ¬ (e.cx = f.cx ∧ e.cy = f.cy)) (hw : Dir w1 w2) (h1 : fi w1 w2 e.ax e.ay ≤ M) (h2 : fi w1 w2 e.bx e.by' ≤ M)
    (h3 : M + 1 ≤ fi w1 w2 f.ax f.ay) (h4 : M + 1 ≤ fi w1 w2 f.bx f.by') : countZ (aaE e f).delta (aaE e f).list = 0 := by
  rcases (show countZ (aaE e f).delta (aaE e f).list = 0 ∨ countZ (aaE e f).delta (aaE e f).list ≠ 0 by omega) with g | g
  · exact g
  exfalso
  rw [countZ_eq] at g
  obtain ⟨hd, s, hs, hp⟩ := countC_ex g
  obtain ⟨hr, hu, _, a1, a2, a3, a4⟩ := arc_axes oe ke
  obtain ⟨_, hv⟩ := arc_axes' oe ke
  obtain ⟨hq, hs', _, c1, c2, c3, c4⟩ := arc_axes of kf
  obtain ⟨_, ht⟩ := arc_axes' of kf
  have hU := axes_unit hw hu hv
  have hV := axes_unit hw hs' ht
  have q := axes_orth hu hv
  have t := axes_orth hs' ht
  have p1 := hp _ (show ((aaE e f).k * (aaE e f).du, (aaE e f).pu) ∈ (aaE e f).list by simp [AA.list])
  have p2 := hp _ (show ((aaE e f).k * (aaE e f).dv, (aaE e f).pv) ∈ (aaE e f).list by simp [AA.list])
  have p3 := hp _ (show (((aaE e f).k - 2 * (aaE e f).S) * (aaE e f).ds, (aaE e f).ps) ∈ (aaE e f).list by simp [AA.list])
  have p4 := hp _ (show (((aaE e f).k - 2 * (aaE e f).S) * (aaE e f).dt, (aaE e f).pt) ∈ (aaE e f).list by simp [AA.list])
  have hS0 : 0 < (aaE e f).S := sq_pos (x := f.cx - e.cx) (y := f.cy - e.cy) (by omega)
  have sub1 (x y z w : Int) : fi w1 w2 (x - z) (y - w) = fi w1 w2 x y - fi w1 w2 z w := by unfold fi; grind
  have mul1 (x y z w t : Int) : fi w1 w2 (x + t * z) (y + t * w) = fi w1 w2 x y + t * fi w1 w2 z w := by unfold fi; grind
  rw [a1, a2, mul1] at h1
  rw [a3, a4, mul1] at h2
  rw [c1, c2, mul1] at h3
  rw [c3, c4, mul1] at h4
  have fd := sub1 f.cx f.cy e.cx e.cy
  obtain ⟨dx, D1⟩ : ∃ z, f.cx - e.cx = z := ⟨_, rfl⟩
  obtain ⟨dy, D2⟩ : ∃ z, f.cy - e.cy = z := ⟨_, rfl⟩
  rw [D1, D2] at fd
  have hS1 : (aaE e f).S = dx * dx + dy * dy := by rw [← D1, ← D2]; rfl
  have g1 : (aaE e f).du = dx * e.ux + dy * e.uy := by rw [← D1, ← D2]; rfl
  have g2 : (aaE e f).dv = dx * e.vx + dy * e.vy := by rw [← D1, ← D2]; rfl
  have g3 : (aaE e f).ds = dx * f.ux + dy * f.uy := by rw [← D1, ← D2]; rfl
  have g4 : (aaE e f).dt = dx * f.vx + dy * f.vy := by rw [← D1, ← D2]; rfl
  have g5 : (aaE e f).pu = -dy * e.ux + dx * e.uy := by rw [← D1, ← D2]; rfl
  have g6 : (aaE e f).pv = -dy * e.vx + dx * e.vy := by rw [← D1, ← D2]; rfl
  have g7 : (aaE e f).ps = -dy * f.ux + dx * f.uy := by rw [← D1, ← D2]; rfl
  have g8 : (aaE e f).pt = -dy * f.vx + dx * f.vy := by rw [← D1, ← D2]; rfl
  refine apart_alg (M := M) (Ce := fi w1 w2 e.cx e.cy) (fu := fi w1 w2 e.ux e.uy) (fv := fi w1 w2 e.vx e.vy) (fs := fi w1 w2 f.ux f.uy) (ft := fi w1 w2 f.vx f.vy) (fd := fi w1 w2 dx dy) (r := radZ e) (q := radZ f) hd hS0 (Int.le_of_lt hr) (Int.le_of_lt hq) hs rfl rfl ?_ ?_ ?_ ?_ ?_ ?_ ?_ ?_ ?_ hU hV p1 p2 p3 p4 (by omega) (by omega) (by rw [Int.mul_neg]; omega) (by rw [Int.mul_neg]; omega)
  · rw [g1, g2, hS1]; exact orth_dot q ..
  · rw [g5, g6, hS1, orth_dot q]; grind
  · rw [g1, g2, g5, g6, orth_dot q]; grind
  · rw [g3, g4, hS1]; exact orth_dot t ..
  · rw [g7, g8, hS1, orth_dot t]; grind
  · rw [g3, g4, g7, g8, orth_dot t]; grind
  · rw [g1, g2, g3, g4]; unfold fi; rw [orth_dot q, orth_dot t]
  · rw [g5, g6, g7, g8]; unfold fi; rw [orth_dot q, orth_dot t]
  · rw [g3, g4]; unfold fi; rw [orth_dot t]
end Go.Proofs.Ytmmhiiiaccldmaa

namespace Go.Proofs.Ytmmhiiiaccldmaa
open Go.RowKit

theorem fi_neg (w1 w2 x y : Int) : fi (-w1) (-w2) x y = -fi w1 w2 x y := by unfold fi; grind
/-- Signs that are not alike: products of sides. -/
theorem side_pair {a b : Int} (h : ¬ 0 < sideI a * sideI b) : (0 ≤ a ∧ b ≤ 0) ∨ (a ≤ 0 ∧ 0 ≤ b) := by
  rcases Int.lt_trichotomy a 0 with ha | ha | ha <;> rcases Int.lt_trichotomy b 0 with hb | hb | hb <;> first | omega | skip
  · rw [sideI_neg ha, sideI_neg hb] at h; exact absurd (by decide) h
  · rw [sideI_pos ha, sideI_pos hb] at h; exact absurd (by decide) h
theorem lines_alg {a b g e f1 f2 f3 f4 M : Int} (h1 : f1 ≤ M) (h2 : f2 ≤ M) (h3 : M + 1 ≤ f3) (h4 : M + 1 ≤ f4) (hD : a - b ≠ 0) (hE : e - g = a - b) (k1 : ¬ 0 < sideI g * sideI e) (k2 : ¬ 0 < sideI a * sideI b)
    (hi : -b * f1 + a * f2 = e * f3 - g * f4) : False := by
  have p1 := side_pair k1
  have p2 := side_pair k2
  rcases Int.lt_or_gt_of_ne hD with hd | hd
  · have a1 : a ≤ 0 ∧ 0 ≤ b := by omega
    have a2 : e ≤ 0 ∧ 0 ≤ g := by omega
    have q1 := Int.mul_nonneg (show 0 ≤ b by omega) (show 0 ≤ M - f1 by omega)
    have q2 := Int.mul_nonneg (show 0 ≤ -a by omega) (show 0 ≤ M - f2 by omega)
    have q3 := Int.mul_nonneg (show 0 ≤ -e by omega) (show 0 ≤ f3 - (M + 1) by omega)
    have q4 := Int.mul_nonneg (show 0 ≤ g by omega) (show 0 ≤ f4 - (M + 1) by omega)
    have e1 : b * (M - f1) + -a * (M - f2) + -e * (f3 - (M + 1)) + g * (f4 - (M + 1)) = (b - a) * M + (-b * f1 + a * f2) - (e * f3 - g * f4) + (e - g) * (M + 1) - 2 * (-b * f1 + a * f2) + 2 * (a * f2 - b * f1) := by grind
    rw [hi, hE] at e1
    have e2 : (b - a) * M + (a - b) * (M + 1) = a - b := by grind
    have e3 : -b * f1 = -(b * f1) := by grind
    omega
  · have a1 : 0 ≤ a ∧ b ≤ 0 := by omega
    have a2 : 0 ≤ e ∧ g ≤ 0 := by omega
    have q1 := Int.mul_nonneg (show 0 ≤ -b by omega) (show 0 ≤ M - f1 by omega)
    have q2 := Int.mul_nonneg (show 0 ≤ a by omega) (show 0 ≤ M - f2 by omega)
    have q3 := Int.mul_nonneg (show 0 ≤ e by omega) (show 0 ≤ f3 - (M + 1) by omega)
    have q4 := Int.mul_nonneg (show 0 ≤ -g by omega) (show 0 ≤ f4 - (M + 1) by omega)
    have e1 : -b * (M - f1) + a * (M - f2) + e * (f3 - (M + 1)) + -g * (f4 - (M + 1)) = (a - b) * M - (-b * f1 + a * f2) + (e * f3 - g * f4) - (e - g) * (M + 1) := by grind
    rw [hi, hE] at e1
    have e2 : (a - b) * M - (a - b) * (M + 1) = b - a := by grind
    omega
theorem ov_alg {S lo hi fp fd fr fs M : Int} (hS : 0 ≤ S) (h : ov 0 S lo hi ≠ 0) (h1 : fp ≤ M) (h2 : fp + fd ≤ M) (h3 : M + 1 ≤ fr) (h4 : M + 1 ≤ fs) (k1 : S * (fr - fp) = lo * fd) (k2 : S * (fs - fp) = hi * fd) (hS0 : 0 < S) : False := by
  obtain ⟨t, t1, t2, t3⟩ : ∃ t, 0 ≤ t ∧ t ≤ S ∧ ((lo ≤ t ∧ t ≤ hi) ∨ (hi ≤ t ∧ t ≤ lo)) := by
    refine ⟨max 0 (min lo hi), ?_⟩
    unfold ov at h
    (repeat' split at h) <;> first | omega | exact absurd rfl h
  have q1 := Int.mul_nonneg (show 0 ≤ S - t by omega) (show 0 ≤ M - fp by omega)
  have q2 := Int.mul_nonneg t1 (show 0 ≤ M - (fp + fd) by omega)
  have e1 : (S - t) * (M - fp) + t * (M - (fp + fd)) = S * (M - fp) - t * fd := by grind
  have r1 := Int.mul_le_mul_of_nonneg_left (show M + 1 - fp ≤ fr - fp by omega) hS
  have r2 := Int.mul_le_mul_of_nonneg_left (show M + 1 - fp ≤ fs - fp by omega) hS
  have e2 : S * (M + 1 - fp) = S * (M - fp) + S := by grind
  rcases Int.le_total 0 fd with hf | hf
  · rcases t3 with t3 | t3
    · have := Int.mul_le_mul_of_nonneg_right t3.1 hf
      omega
    · have := Int.mul_le_mul_of_nonneg_right t3.1 hf
      omega
  · rcases t3 with t3 | t3
    · have := Int.mul_le_mul_of_nonpos_right t3.2 hf
      omega
    · have := Int.mul_le_mul_of_nonpos_right t3.2 hf
      omega
theorem lines_strip {px py qx qy rx ry sx sy w1 w2 M : Int} (hn : ¬ (px = qx ∧ py = qy)) (h1 : fi w1 w2 px py ≤ M) (h2 : fi w1 w2 qx qy ≤ M) (h3 : M + 1 ≤ fi w1 w2 rx ry) (h4 : M + 1 ≤ fi w1 w2 sx sy) : linesZ px py qx qy rx ry sx sy = 0 := by
  rcases (show linesZ px py qx qy rx ry sx sy = 0 ∨ linesZ px py qx qy rx ry sx sy ≠ 0 by omega) with g | g
  · exact g
  exfalso
  rw [linesZ_eq] at g
  by_cases hD : (qx - px) * (sy - ry) - (qy - py) * (sx - rx) = 0
  · rw [if_neg (not_not_intro hD)] at g
    by_cases hc : crI px py qx qy rx ry = 0
    · rw [if_neg (not_not_intro hc)] at g
      have hS := sq_pos (x := qx - px) (y := qy - py) (by omega)
      have d1 : (qx - px) * (ry - py) - (qy - py) * (rx - px) = 0 := hc
      have d2 : (qx - px) * (sy - py) - (qy - py) * (sx - px) = 0 := by
        have : (qx - px) * (sy - py) - (qy - py) * (sx - px) = ((qx - px) * (sy - ry) - (qy - py) * (sx - rx)) + ((qx - px) * (ry - py) - (qy - py) * (rx - px)) := by grind
        omega
      have col (x y : Int) (h : (qx - px) * (y - py) - (qy - py) * (x - px) = 0) : ((qx - px) * (qx - px) + (qy - py) * (qy - py)) * (fi w1 w2 x y - fi w1 w2 px py) = ((x - px) * (qx - px) + (y - py) * (qy - py)) * fi w1 w2 (qx - px) (qy - py) := by
        have e : ((qx - px) * (qx - px) + (qy - py) * (qy - py)) * (fi w1 w2 x y - fi w1 w2 px py) - ((x - px) * (qx - px) + (y - py) * (qy - py)) * fi w1 w2 (qx - px) (qy - py) = (w2 * (qx - px) - w1 * (qy - py)) * ((qx - px) * (y - py) - (qy - py) * (x - px)) := by unfold fi; grind
        rw [h, Int.mul_zero] at e
        omega
      have sub1 : fi w1 w2 qx qy = fi w1 w2 px py + fi w1 w2 (qx - px) (qy - py) := by unfold fi; grind
      exact ov_alg (Int.le_of_lt hS) g h1 (by omega) h3 h4 (col rx ry d1) (col sx sy d2) hS
    · rw [if_pos hc] at g
      exact g rfl
  · rw [if_pos hD] at g
    by_cases k1 : 0 < sideI (crI px py qx qy rx ry) * sideI (crI px py qx qy sx sy)
    · rw [if_pos (.inl k1)] at g; exact g rfl
    · by_cases k2 : 0 < sideI (crI rx ry sx sy px py) * sideI (crI rx ry sx sy qx qy)
      · rw [if_pos (.inr k2)] at g; exact g rfl
      · have e1 : crI rx ry sx sy px py - crI rx ry sx sy qx qy = (qx - px) * (sy - ry) - (qy - py) * (sx - rx) := by unfold crI; grind
        have e2 : crI px py qx qy sx sy - crI px py qx qy rx ry = (qx - px) * (sy - ry) - (qy - py) * (sx - rx) := by unfold crI; grind
        exact lines_alg h1 h2 h3 h4 (by rw [e1]; exact hD) (by rw [e1, e2]) k1 k2 (by unfold crI fi; grind)
theorem same_strip {e f : Ed} {w1 w2 M : Int} (oe : e.ok = true) (of : f.ok = true) (ke : ¬ e.k = 1) (kf : ¬ f.k = 1) (hc : e.cx = f.cx ∧ e.cy = f.cy) (h1 : fi w1 w2 e.ax e.ay ≤ M) (h2 : fi w1 w2 e.bx e.by' ≤ M)
    (h3 : M + 1 ≤ fi w1 w2 f.ax f.ay) (h4 : M + 1 ≤ fi w1 w2 f.bx f.by') : arcsZ e f = 0 := by
  obtain ⟨hr, _, _, a1, a2, a3, a4⟩ := arc_axes oe ke
  obtain ⟨hq, _, _, c1, c2, c3, c4⟩ := arc_axes of kf
  unfold arcsZ
  rw [if_pos hc]
  have one_f (a : Bool) : one a false = 0 := by cases a <;> rfl
  by_cases hrq : radZ e = radZ f
  · have key (b1 b2 : Bool) (hb : (b1 && b2) = false) : (b1 && b2) = false := hb
    have no (x1 y1 x2 y2 : Int) (g1 : fi w1 w2 (e.cx + radZ e * x1) (e.cy + radZ e * y1) ≤ M) (g2 : M + 1 ≤ fi w1 w2 (f.cx + radZ f * x2) (f.cy + radZ f * y2)) : (x1 == x2 && y1 == y2) = false := by
      rw [Bool.eq_false_iff]
      simp only [ne_eq, Bool.and_eq_true, beq_iff_eq]
      rintro ⟨rfl, rfl⟩
      rw [hc.1, hc.2, hrq] at g1
      omega
    rw [a1, a2] at h1
    rw [a3, a4] at h2
    rw [c1, c2] at h3
    rw [c3, c4] at h4
    rw [no _ _ _ _ h1 h3, no _ _ _ _ h1 h4, no _ _ _ _ h2 h3, no _ _ _ _ h2 h4]
    cases (radZ e == radZ f) <;> rfl
  · have : (radZ e == radZ f) = false := by simpa using hrq
    rw [this]
    unfold sameZ
    simp only [one_f]
    rfl
theorem point_strip {f : Ed} {x y w1 w2 M : Int} (hw : Dir w1 w2) (h1 : fi w1 w2 x y ≤ M) (h3 : M + 1 ≤ fi w1 w2 f.ax f.ay) (h4 : M + 1 ≤ fi w1 w2 f.bx f.by') : onZ f x y = 0 := by
  unfold onZ
  cases g : onE f x y with
  | false => rfl
  | true =>
    exfalso
    unfold onE at g
    simp only [Bool.and_eq_true] at g
    obtain ⟨b1, b2⟩ := inB_iff.1 g.2.1
    unfold Btw at b1 b2
    unfold fi at h1 h3 h4
    unfold Dir Unit2 at hw
    rcases hw with ⟨rfl, rfl | rfl⟩ | ⟨rfl, rfl | rfl⟩ <;> omega
/-- A strip between two edges: they have no point in common. -/
theorem count_strip {e f : Ed} {w1 w2 M : Int} (hw : Dir w1 w2) (h1 : fi w1 w2 e.ax e.ay ≤ M) (h2 : fi w1 w2 e.bx e.by' ≤ M) (h3 : M + 1 ≤ fi w1 w2 f.ax f.ay) (h4 : M + 1 ≤ fi w1 w2 f.bx f.by') : countE e f = 0 := by
  unfold countE
  cases ho : (e.ok && f.ok) with
  | false => rfl
  | true =>
    obtain ⟨oe, of⟩ : e.ok = true ∧ f.ok = true := by simpa using ho
    simp only [Bool.not_true, Bool.false_eq_true, if_false]
    have npt (g : Ed) (h : g.pt = false) : ¬ (g.ax = g.bx ∧ g.ay = g.by') := by
      intro k
      rw [show g.pt = true by simp [Ed.pt, k.1, k.2]] at h; cases h
    have back : onZ e f.ax f.ay = 0 := point_strip (w1 := -w1) (w2 := -w2) (M := -(M + 1)) hw.neg (by rw [fi_neg]; omega) (by rw [fi_neg]; omega) (by rw [fi_neg]; omega)
    have fore : onZ f e.ax e.ay = 0 := point_strip hw h1 h3 h4
    rw [back, fore]
    by_cases k1 : e.k = 1
    · rw [if_pos k1]
      cases p1 : e.pt with
      | true => rfl
      | false =>
        simp only [Bool.false_eq_true, if_false]
        by_cases k2 : f.k = 1
        · rw [if_pos k2]
          split
          · rfl
          · exact lines_strip (npt e p1) h1 h2 h3 h4
        · rw [if_neg k2]
          exact cross_strip (npt e p1) of k2 hw h1 h2 h3 h4
    · rw [if_neg k1]
      by_cases k2 : f.k = 1
      · rw [if_pos k2]
        cases p2 : f.pt with
        | true => rfl
        | false =>
          simp only [Bool.false_eq_true, if_false]
          exact cross_strip' (npt f p2) oe k1 hw h3 h4 h1 h2
      · rw [if_neg k2]
        by_cases hc : e.cx = f.cx ∧ e.cy = f.cy
        · exact same_strip oe of k1 k2 hc h1 h2 h3 h4
        · unfold arcsZ
          rw [if_neg hc]
          exact apart_strip oe of k1 k2 hc hw h1 h2 h3 h4
/-- Edges whose boxes have no common point. -/
theorem boxes_apart {e f : Ed} (h : max e.ax e.bx < min f.ax f.bx ∨ max f.ax f.bx < min e.ax e.bx ∨ max e.ay e.by' < min f.ay f.by' ∨ max f.ay f.by' < min e.ay e.by') : countE e f = 0 := by
  rcases h with h | h | h | h
  · exact count_strip (w1 := 1) (w2 := 0) (M := max e.ax e.bx) (.inl ⟨rfl, .inl rfl⟩) (by unfold fi; omega) (by unfold fi; omega) (by unfold fi; omega) (by unfold fi; omega)
  · exact count_strip (w1 := -1) (w2 := 0) (M := -min e.ax e.bx) (.inl ⟨rfl, .inr rfl⟩) (by unfold fi; omega) (by unfold fi; omega) (by unfold fi; omega) (by unfold fi; omega)
  · exact count_strip (w1 := 0) (w2 := 1) (M := max e.ay e.by') (.inr ⟨rfl, .inl rfl⟩) (by unfold fi; omega) (by unfold fi; omega) (by unfold fi; omega) (by unfold fi; omega)
  · exact count_strip (w1 := 0) (w2 := -1) (M := -min e.ay e.by') (.inr ⟨rfl, .inr rfl⟩) (by unfold fi; omega) (by unfold fi; omega) (by unfold fi; omega) (by unfold fi; omega)
end Go.Proofs.Ytmmhiiiaccldmaa
