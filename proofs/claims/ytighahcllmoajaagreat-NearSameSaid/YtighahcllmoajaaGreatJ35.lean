/- countE without the rows' machinery. | MeetThrough, its plain part: lines through a point; a ray from the centre of an arc. | Edges that have a point with whole coordinates in common: they are counted as meeting. | Edges that have a point with whole coordinates in common: their number of common points is not 0. | Edges that have a point with whole coordinates in common: two arcs; and all edges. | MeetTurns, its plain part: neither the order nor the directions of edges play a part, nor does a motion of both: lines and counts of signs. | An edge with its ends exchanged. -/
import Derived.Test.YtighahcllmoajaaGreatJ28
import Derived.Test.YtighahcllmoajaaGreatJ12
set_option linter.unusedVariables false
set_option linter.unusedSimpArgs false

namespace Go.Proofs.YtighahcllmoajaaGreat
open Go.RowKit
def countC (d : Int) (l : List (Int × Int)) : Int := if d < 0 then 0 else (if goodS d 1 l then 1 else 0) + (if d = 0 then 0 else if goodS d (-1) l then 1 else 0)
theorem countZ_eq (d : Int) (l : List (Int × Int)) : countZ d l = countC d l := by
 unfold countZ countL countC signL
 by_cases h : d < 0
 ·simp [h]
 ·have hd : decide (d < 0) = false := by simpa using h
  rw [hd, if_neg h]
  simp only [Bool.false_eq_true, if_false]
  by_cases h0 : d = 0
  ·subst h0
   have : (digs (Int.natAbs 0)).length = 0 := by simp [digs_zero]
   rw [if_pos this, if_pos rfl]
   cases hg : goodS 0 1 l <;> simp [sP, hg]
  ·have : ¬ (digs d.natAbs).length = 0 := by
    intro e
    have := digs_eq_nil.1 (List.eq_nil_of_length_eq_zero e)
    omega
   rw [if_neg this, if_neg h0]
   cases hg : goodS d 1 l <;> cases hg' : goodS d (-1) l <;> simp [sP, sM, hg, hg']
def crossD (l e : Ed) : Int := countC (laE l e).delta (laE l e).list
def arcsD (e f : Ed) : Int :=
 if e.cx = f.cx /\ e.cy = f.cy then sameZ (radZ e == radZ f) (e.ux == f.ux && e.uy == f.uy) (e.ux == f.vx && e.uy == f.vy) (e.vx == f.ux && e.vy == f.uy) (e.vx == f.vx && e.vy == f.vy)
 else countC (aaE e f).delta (aaE e f).list
def countD (e f : Ed) : Int :=
 if !(e.ok && f.ok) then 0
 else if e.k = 1 then
  if e.pt then onZ f e.ax e.ay
  else if f.k = 1 then (if f.pt then onZ e f.ax f.ay else linesZ e.ax e.ay e.bx e.by' f.ax f.ay f.bx f.by')
  else crossD e f
 else if f.k = 1 then (if f.pt then onZ e f.ax f.ay else crossD f e)
 else arcsD e f
theorem countE_eq (e f : Ed) : countE e f = countD e f := by
 unfold countE countD crossZ arcsZ crossD arcsD
 simp only [countZ_eq]
end Go.Proofs.YtighahcllmoajaaGreat

namespace Go.Proofs.YtighahcllmoajaaGreat
open Go.RowKit
theorem line_ok {ax ay bx by' : Int} (h1 : Co ax) (h2 : Co ay) (h3 : Co bx) (h4 : Co by') : (Ed.mk 1 ax ay bx by' 0 0).ok = true := by
 simp only [Ed.ok, Ed.right, Bool.and_eq_true]
 exact ⟨⟨⟨coordB_iff.2 ⟨h1, h2⟩, coordB_iff.2 ⟨h3, h4⟩⟩, coordB_iff.2 (by unfold Co; omega)⟩, by simp [Ed.lone]⟩
theorem sideI_pos {n : Int} (h : 0 < n) : sideI n = 1 := by unfold sideI; (repeat' split) <;> omega
theorem sideI_neg {n : Int} (h : n < 0) : sideI n = -1 := by unfold sideI; (repeat' split) <;> omega
theorem sgn_pos {n : Int} (h : 0 < n) : sgn n = 1 := by unfold sgn cmpZ; (repeat' split) <;> omega
theorem sgn_neg {n : Int} (h : n < 0) : sgn n = -1 := by unfold sgn cmpZ; (repeat' split) <;> omega
theorem sgn_zero : sgn 0 = 0 := rfl
theorem thru_lines {px py ux uy vx vy : Int} (p1 : -999 <= px /\ px <= 999) (p2 : -999 <= py /\ py <= 999) (u1 : -49 <= ux /\ ux <= 49) (u2 : -49 <= uy /\ uy <= 49) (v1 : -49 <= vx /\ vx <= 49) (v2 : -49 <= vy /\ vy <= 49) (hc : ux * vy - uy * vx ≠ 0) :
  countE ⟨1, px - ux, py - uy, px + ux, py + uy, 0, 0⟩ ⟨1, px - vx, py - vy, px + vx, py + vy, 0, 0⟩ = 1 := by
 have o1 : (Ed.mk 1 (px - ux) (py - uy) (px + ux) (py + uy) 0 0).ok = true := line_ok (by unfold Co; omega) (by unfold Co; omega) (by unfold Co; omega) (by unfold Co; omega)
 have o2 : (Ed.mk 1 (px - vx) (py - vy) (px + vx) (py + vy) 0 0).ok = true := line_ok (by unfold Co; omega) (by unfold Co; omega) (by unfold Co; omega) (by unfold Co; omega)
 have q1 : (Ed.mk 1 (px - ux) (py - uy) (px + ux) (py + uy) 0 0).pt = false := by
  rw [Bool.eq_false_iff]
  simp only [Ed.pt, ne_eq, Bool.and_eq_true, beq_iff_eq]
  rintro ⟨a, b⟩
  have e1 : ux = 0 := by omega
  have e2 : uy = 0 := by omega
  subst e1 e2
  simp at hc
 have q2 : (Ed.mk 1 (px - vx) (py - vy) (px + vx) (py + vy) 0 0).pt = false := by
  rw [Bool.eq_false_iff]
  simp only [Ed.pt, ne_eq, Bool.and_eq_true, beq_iff_eq]
  rintro ⟨a, b⟩
  have e1 : vx = 0 := by omega
  have e2 : vy = 0 := by omega
  subst e1 e2
  simp at hc
 unfold countE
 rw [o1, o2, q1, q2]
 simp only [Bool.and_self, Bool.not_true, Bool.false_eq_true, if_false, if_true]
 obtain ⟨X, hX⟩ : ∃ X, ux * vy - uy * vx = X := ⟨_, rfl⟩
 have e1 : (px + ux - (px - ux)) * (py + vy - (py - vy)) - (py + uy - (py - uy)) * (px + vx - (px - vx)) = 4 * X := by grind
 have e2 : crI (px - ux) (py - uy) (px + ux) (py + uy) (px - vx) (py - vy) = -2 * X := by unfold crI; grind
 have e3 : crI (px - ux) (py - uy) (px + ux) (py + uy) (px + vx) (py + vy) = 2 * X := by unfold crI; grind
 have e4 : crI (px - vx) (py - vy) (px + vx) (py + vy) (px - ux) (py - uy) = 2 * X := by unfold crI; grind
 have e5 : crI (px - vx) (py - vy) (px + vx) (py + vy) (px + ux) (py + uy) = -2 * X := by unfold crI; grind
 rw [hX] at hc
 unfold linesZ
 rw [e1, e2, e3, e4, e5, if_pos (by omega)]
 rcases Int.lt_or_gt_of_ne hc with h | h
 ·rw [sideI_pos (show 0 < -2 * X by omega), sideI_neg (show 2 * X < 0 by omega)]
  rfl
 ·rw [sideI_neg (show -2 * X < 0 by omega), sideI_pos (show 0 < 2 * X by omega)]
  rfl
theorem sideZ_zero {y d : Int} (hd : 0 < d) : sideZ 0 y d = sgn y := by
 unfold sideZ
 rw [sgn_zero, sgn_pos hd]
 have := sgn_bd y
 simp only [Int.zero_mul, Int.le_refl, if_true, Int.mul_one, Int.zero_add]
 omega
theorem ray_good {S r dx dy : Int} (hr : 0 < r) (hS : r * r <= S) (h1 : 0 <= dx) (h2 : 0 <= dy) : countC (S * (r * r)) [(0, 1), (S, -1), (0, dx), (0, dy)] = 1 := by
 have hrr : 0 < r * r := Int.mul_pos hr hr
 have hS0 : 0 < S := by omega
 have hd : 0 < S * (r * r) := Int.mul_pos hS0 hrr
 have n1 : 0 <= sgn dx := by unfold sgn cmpZ; (repeat' split) <;> omega
 have n2 : 0 <= sgn dy := by unfold sgn cmpZ; (repeat' split) <;> omega
 have k2 : 0 <= sideZ S (-1) (S * (r * r)) := by
  unfold sideZ
  rw [sgn_pos hS0, sgn_pos hd, sgn_neg (show (-1 : Int) < 0 by omega)]
  rw [if_neg (by decide)]
  have := Int.mul_le_mul_of_nonneg_left hS (show 0 <= S by omega)
  have e : (-1 : Int) * -1 * (S * (r * r)) = S * (r * r) := by omega
  rw [e]
  unfold cmpZ
  (repeat' split) <;> omega
 have q1 : sgn 1 = 1 := sgn_pos (by omega)
 have q2 : sgn (-1) = -1 := sgn_neg (by omega)
 have g1 : goodS (S * (r * r)) 1 [(0, 1), (S, -1), (0, dx), (0, dy)] = true := by
  simp [goodS, sideZ_zero hd, q1, k2, n1, n2]
 have g2 : goodS (S * (r * r)) (-1) [(0, 1), (S, -1), (0, dx), (0, dy)] = false := by
  simp [goodS, sideZ_zero hd, q2]
 unfold countC
 rw [if_neg (by omega), g1, g2, if_neg (show ¬ S * (r * r) = 0 by omega)]
 rfl
theorem thru_ray {px py mx my r : Int} (p1 : -999 <= px /\ px <= 999) (p2 : -999 <= py /\ py <= 999) (u1 : 0 <= mx /\ mx <= 49) (u2 : 0 <= my /\ my <= 49) (hr : 1 <= r /\ r <= 60) :
  (Ed.mk 2 (px + r) py px (py + r) px py).ok = true /\ countE ⟨1, px, py, px + 60 * mx, py + 60 * my, 0, 0⟩ ⟨2, px + r, py, px, py + r, px, py⟩ = if mx = 0 /\ my = 0 then 0 else 1 := by
 have o1 : (Ed.mk 1 px py (px + 60 * mx) (py + 60 * my) 0 0).ok = true := line_ok (by unfold Co; omega) (by unfold Co; omega) (by unfold Co; omega) (by unfold Co; omega)
 have ca : ∀ a b : Int, a + b - a = b := fun a b => by omega
 have o2 : (Ed.mk 2 (px + r) py px (py + r) px py).ok = true := by
  simp only [Ed.ok, Ed.right, Bool.and_eq_true]
  refine ⟨⟨⟨coordB_iff.2 ?_, coordB_iff.2 ?_⟩, coordB_iff.2 ?_⟩, ?_⟩
  ·unfold Co; omega
  ·unfold Co; omega
  ·unfold Co; omega
  ·have n0 : ¬ r = 0 := by omega
   simp [Ed.quarter, quarterB, rot, ca, n0]
 refine ⟨o2, ?_⟩
 have hR : radZ (Ed.mk 2 (px + r) py px (py + r) px py) = r := by
  unfold radZ
  rw [o2]
  simp only [ca]
  simp
  omega
 have r1 : r.tdiv r = 1 := tdiv_self (by omega)
 have r0 : (0 : Int).tdiv r = 0 := Int.zero_tdiv r
 unfold countE
 rw [o1, o2]
 simp only [Bool.and_self, Bool.not_true, Bool.false_eq_true, if_false, if_true]
 by_cases hz : mx = 0 /\ my = 0
 ·obtain ⟨rfl, rfl⟩ := hz
  have : (Ed.mk 1 px py (px + 60 * 0) (py + 60 * 0) 0 0).pt = true := by simp [Ed.pt]
  rw [this]
  simp only [if_true]
  have hon : onE (Ed.mk 2 (px + r) py px (py + r) px py) px py = false := by
   unfold onE
   rw [o2]
   have hrr : 0 < r * r := Int.mul_pos (by omega) (by omega)
   simp [powerI, ca]
   omega
  simp [onZ, hon]
 ·have : (Ed.mk 1 px py (px + 60 * mx) (py + 60 * my) 0 0).pt = false := by
   rw [Bool.eq_false_iff]; simp only [Ed.pt, ne_eq, Bool.and_eq_true, beq_iff_eq]; omega
  rw [this, if_neg hz]
  simp only [Bool.false_eq_true, if_false]
  rw [if_neg (by decide)]
  unfold crossZ
  rw [countZ_eq]
  have eL : laE (Ed.mk 1 px py (px + 60 * mx) (py + 60 * my) 0 0) (Ed.mk 2 (px + r) py px (py + r) px py) = ⟨60 * mx * (60 * mx) + 60 * my * (60 * my), 0, 0, r, 0, 60 * mx, 0, 60 * my⟩ := by
   unfold laE Ed.ux Ed.uy Ed.vx Ed.vy
   simp only [hR, ca, r1, r0, Int.sub_self, Int.zero_mul, Int.mul_one, Int.mul_zero, Int.add_zero, Int.zero_add]
  rw [eL]
  have hS : r * r <= 60 * mx * (60 * mx) + 60 * my * (60 * my) := by
   have a1 : r * r <= 60 * 60 := Int.mul_le_mul hr.2 hr.2 (by omega) (by omega)
   rcases Int.lt_or_eq_of_le u1.1 with h | h
   ·have b1 : (60 : Int) * 60 <= 60 * mx * (60 * mx) := Int.mul_le_mul (by omega) (by omega) (by omega) (by omega)
    have b2 : 0 <= 60 * my * (60 * my) := Int.mul_nonneg (by omega) (by omega)
    omega
   ·have hm : 1 <= my := by omega
    have b1 : (60 : Int) * 60 <= 60 * my * (60 * my) := Int.mul_le_mul (by omega) (by omega) (by omega) (by omega)
    have b2 : 0 <= 60 * mx * (60 * mx) := Int.mul_nonneg (by omega) (by omega)
    omega
  have := ray_good (S := 60 * mx * (60 * mx) + 60 * my * (60 * my)) (r := r) (dx := 60 * mx) (dy := 60 * my) (by omega) hS (by omega) (by omega)
  unfold LA.delta LA.list
  simp only [Int.mul_zero, Int.zero_mul, Int.sub_zero, Int.zero_sub, Int.sub_neg, Int.zero_add, Int.neg_zero, Int.mul_neg, Int.sub_self, Int.add_zero]
  exact this
end Go.Proofs.YtighahcllmoajaaGreat

namespace Go.Proofs.YtighahcllmoajaaGreat
open Go.RowKit
theorem sgn_nneg {x : Int} (h : 0 <= x) : 0 <= sgn x := by unfold sgn cmpZ; (repeat' split) <;> omega
theorem sq_leM {a b : Int} (h0 : 0 <= a) (h : a <= b) : a * a <= b * b := Int.mul_le_mul h h h0 (by omega)
theorem sideZ_sq {x z n : Int} (hn : 0 <= n) (h : 0 <= x + z * n) : 0 <= sideZ x z (n * n) := by
 unfold sideZ
 rcases Int.lt_or_eq_of_le hn with h0 | h0
 ·have hnn : 0 < n * n := Int.mul_pos h0 h0
  rw [sgn_pos hnn, Int.mul_one]
  rcases Int.lt_trichotomy x 0 with hx | hx | hx
  ·rw [sgn_neg hx]
   rcases Int.lt_trichotomy z 0 with hz | hz | hz
   ·exfalso
    have := Int.mul_neg_of_neg_of_pos hz h0
    omega
   ·subst hz; exfalso; omega
   ·rw [sgn_pos hz, if_neg (by decide)]
    have h1 := sq_leM (a := -x) (b := z * n) (by omega) (by omega)
    have e : z * z * (n * n) = z * n * (z * n) := by grind
    have e2 : -x * -x = x * x := by grind
    rw [e]
    unfold cmpZ
    (repeat' split) <;> omega
  ·subst hx
   have : 0 <= z := by
    rcases (show z < 0 \/ 0 <= z by omega) with hz | hz
    ·have := Int.mul_neg_of_neg_of_pos hz h0; omega
    ·exact hz
   have h2 := sgn_nneg this
   have h3 := sgn_bd z
   have e0 : sgn 0 = 0 := rfl
   rw [e0, Int.zero_mul, if_pos (Int.le_refl _)]
   omega
  ·rw [sgn_pos hx]
   rcases Int.lt_trichotomy z 0 with hz | hz | hz
   ·rw [sgn_neg hz, if_neg (by decide)]
    have h1 := sq_leM (a := -(z * n)) (b := x) (by have := Int.mul_neg_of_neg_of_pos hz h0; omega) (by omega)
    have e : z * z * (n * n) = -(z * n) * -(z * n) := by grind
    rw [e]
    unfold cmpZ
    (repeat' split) <;> omega
   ·subst hz
    rw [show sgn 0 = 0 from rfl, if_pos (by omega)]
    decide
   ·rw [sgn_pos hz, if_pos (by decide)]
    decide
 ·subst h0
  have e0 : sgn (0 * 0) = 0 := rfl
  have hx := sgn_nneg (show 0 <= x by omega)
  have h3 := sgn_bd x
  rw [e0, Int.mul_zero, Int.mul_zero, if_pos (Int.le_refl _)]
  omega
theorem sideZ_m {x y m s : Int} (hs : (s = 1 /\ 0 <= m) \/ (s = -1 /\ m < 0)) (h : 0 <= x + y * m) : 0 <= sideZ x (s * y) (m * m) := by
 rcases hs with ⟨rfl, hm⟩ | ⟨rfl, hm⟩
 ·rw [Int.one_mul]; exact sideZ_sq hm h
 ·have e : m * m = -m * -m := by grind
  rw [e]
  refine sideZ_sq (by omega) ?_
  have : -1 * y * -m = y * m := by grind
  omega
theorem countC_root {m : Int} {l : List (Int × Int)} (h : ∀ p ∈ l, 0 <= p.1 + p.2 * m) : 1 <= countC (m * m) l := by
 have hsq : 0 <= m * m := by rw [<- Int.natAbs_mul_self]; omega
 have hg (s : Int) (hs : (s = 1 /\ 0 <= m) \/ (s = -1 /\ m < 0)) : goodS (m * m) s l = true := by
  unfold goodS
  rw [List.all_eq_true]
  intro p hp
  simpa using sideZ_m hs (h p hp)
 unfold countC
 rw [if_neg (by omega)]
 rcases (show m < 0 \/ 0 <= m by omega) with hm | hm
 ·have hne : ¬ m * m = 0 := by
   have := Int.mul_pos_of_neg_of_neg hm hm
   omega
  rw [if_neg hne, hg (-1) (.inr ⟨rfl, hm⟩), if_pos rfl]
  split <;> omega
 ·rw [hg 1 (.inl ⟨rfl, hm⟩), if_pos rfl]
  split
  ·omega
  ·split <;> omega
def Btw (a x b : Int) : Prop := min a b <= x /\ x <= max a b
theorem btw_mul {x d : Int} (h : Btw 0 x d) : 0 <= x * d /\ x * d <= d * d /\ 0 <= x * (d - x) := by
 unfold Btw at h
 rcases Int.le_total 0 d with h0 | h0
 ·have h1 : 0 <= x := by omega
  have h2 : x <= d := by omega
  exact ⟨Int.mul_nonneg h1 h0, Int.mul_le_mul_of_nonneg_right h2 h0, Int.mul_nonneg h1 (by omega)⟩
 ·have h1 : x <= 0 := by omega
  have h2 : d <= x := by omega
  have a := Int.mul_nonneg (show 0 <= -x by omega) (show 0 <= -d by omega)
  have b := Int.mul_le_mul_of_nonneg_right (show -x <= -d by omega) (show 0 <= -d by omega)
  have c := Int.mul_nonneg (show 0 <= -x by omega) (show 0 <= -(d - x) by omega)
  have e1 : -x * -d = x * d := by grind
  have e2 : -d * -d = d * d := by grind
  have e3 : -x * -(d - x) = x * (d - x) := by grind
  omega
theorem btw_shift {a x b : Int} (h : Btw a x b) : Btw 0 (x - a) (b - a) := by unfold Btw at *; omega
theorem side_not {a b : Int} (h : a * b <= 0) : ¬ 0 < sideI a * sideI b := by
 rcases Int.lt_trichotomy a 0 with ha | ha | ha <;> rcases Int.lt_trichotomy b 0 with hb | hb | hb
 ·have := Int.mul_pos_of_neg_of_neg ha hb; omega
 ·subst hb; simp [sideI]
 ·rw [sideI_neg ha, sideI_pos hb]; decide
 ·subst ha; simp [sideI]
 ·subst ha; simp [sideI]
 ·subst ha; simp [sideI]
 ·rw [sideI_pos ha, sideI_neg hb]; decide
 ·subst hb; simp [sideI]
 ·have := Int.mul_pos ha hb; omega
theorem nonneg_of_sq {p c : Int} (hc : c ≠ 0) (h : 0 <= p * (c * c)) : 0 <= p := by
 have hcc : 0 < c * c := by
  rcases Int.lt_or_gt_of_ne hc with h | h
  ·exact Int.mul_pos_of_neg_of_neg h h
  ·exact Int.mul_pos h h
 rcases (show p < 0 \/ 0 <= p by omega) with hp | hp
 ·have := Int.mul_neg_of_neg_of_pos hp hcc; omega
 ·exact hp
theorem zero_of_mul {p c : Int} (hc : c ≠ 0) (h : p * c = 0) : p = 0 := by
 rcases Int.mul_eq_zero.1 h with h | h
 ·exact h
 ·exact absurd h hc
theorem cut_prod {X Y dx dy gx gy : Int} (hX : Btw 0 X dx) (hY : Btw 0 Y dy) (hc : X * dy = Y * dx) (hd : ¬ (dx = 0 /\ dy = 0)) :
  0 <= (gx * X + gy * Y) * (gx * (dx - X) + gy * (dy - Y)) := by
 have h1 := (btw_mul hX).2.2
 have h2 := (btw_mul hY).2.2
 have hg : 0 <= (gx * dx + gy * dy) * (gx * dx + gy * dy) := by rw [<- Int.natAbs_mul_self]; omega
 by_cases h : dx = 0
 ·have hy : dy ≠ 0 := fun e => hd ⟨h, e⟩
  refine nonneg_of_sq hy ?_
  have e : (gx * X + gy * Y) * (gx * (dx - X) + gy * (dy - Y)) * (dy * dy) = Y * (dy - Y) * ((gx * dx + gy * dy) * (gx * dx + gy * dy)) := by grind
  rw [e]
  exact Int.mul_nonneg h2 hg
 ·refine nonneg_of_sq h ?_
  have e : (gx * X + gy * Y) * (gx * (dx - X) + gy * (dy - Y)) * (dx * dx) = X * (dx - X) * ((gx * dx + gy * dy) * (gx * dx + gy * dy)) := by grind
  rw [e]
  exact Int.mul_nonneg h1 hg
end Go.Proofs.YtighahcllmoajaaGreat

namespace Go.Proofs.YtighahcllmoajaaGreat
open Go.RowKit
theorem inB_iff {a b c d x y : Int} : inB (min a b) (min c d) (max a b) (max c d) x y = true ↔ Btw a x b /\ Btw c y d := by
  unfold inB Btw
  simp only [Bool.and_eq_true, decide_eq_true_eq]
  constructor
  · rintro ⟨h1, h2, h3, h4⟩; exact ⟨⟨h1, h2⟩, h3, h4⟩
  · rintro ⟨⟨h1, h2⟩, h3, h4⟩; exact ⟨h1, h2, h3, h4⟩
theorem sideI_zero {n : Int} : (sideI n == 0) = true ↔ n = 0 := by
  unfold sideI
  rw [beq_iff_eq]
  constructor
  · intro h; (repeat' split at h) <;> omega
  · rintro rfl; rfl
theorem onE_line {e : Ed} {x y : Int} (hk : e.k = 1) (h : onE e x y = true) : e.ok = true /\ Btw e.ax x e.bx /\ Btw e.ay y e.by' /\ (e.bx - e.ax) * (y - e.ay) = (e.by' - e.ay) * (x - e.ax) := by
  unfold onE at h
  rw [if_pos hk] at h
  simp only [Bool.and_eq_true] at h
  obtain ⟨h1, h2, h3⟩ := h
  obtain ⟨b1, b2⟩ := inB_iff.1 h2
  have := sideI_zero.1 h3
  exact ⟨h1, b1, b2, by omega⟩
theorem onE_line_mk {e : Ed} {x y : Int} (hk : e.k = 1) (ho : e.ok = true) (h1 : Btw e.ax x e.bx) (h2 : Btw e.ay y e.by') (h3 : (e.bx - e.ax) * (y - e.ay) = (e.by' - e.ay) * (x - e.ax)) : onE e x y = true := by
  unfold onE
  rw [if_pos hk, ho]
  simp only [Bool.true_and, Bool.and_eq_true]
  exact ⟨inB_iff.2 ⟨h1, h2⟩, sideI_zero.2 (by omega)⟩
theorem onE_arc {e : Ed} {x y : Int} (hk : ¬ e.k = 1) (h : onE e x y = true) : e.ok = true /\ (x - e.cx) * (x - e.cx) + (y - e.cy) * (y - e.cy) = radZ e * radZ e /\ 0 <= (x - e.cx) * e.ux + (y - e.cy) * e.uy /\ 0 <= (x - e.cx) * e.vx + (y - e.cy) * e.vy := by
  unfold onE at h
  rw [if_neg hk] at h
  simp only [Bool.and_eq_true, beq_iff_eq] at h
  obtain ⟨h1, h2, h3⟩ := h
  obtain ⟨b1, b2⟩ := inB_iff.1 h2
  obtain ⟨hr, hu, hv, a1, a2, a3, a4⟩ := arc_axes h1 hk
  refine ⟨h1, ?_⟩
  unfold powerI at h3
  unfold Btw at b1 b2
  obtain ⟨r, R⟩ : ∃ r, radZ e = r := ⟨_, rfl⟩
  rw [R] at a1 a2 a3 a4 hr ⊢
  have m0 : r * 0 = 0 := by omega
  have m1 : r * 1 = r := by omega
  have m2 : r * -1 = -r := by omega
  have n0 : -(0 : Int) = 0 := rfl
  have n1 : -(-1 : Int) = 1 := rfl
  rcases hu with ⟨u1, u2⟩ | ⟨u1, u2⟩ | ⟨u1, u2⟩ | ⟨u1, u2⟩ <;> rcases hv with ⟨_, v1, v2⟩ | ⟨_, v1, v2⟩ <;>
    (rw [u1] at a1 v2 ⊢; rw [u2] at a2 v1 ⊢; rw [v1] at a3 ⊢; rw [v2] at a4 ⊢
     simp only [m0, m1, m2, n0, n1, Int.mul_zero, Int.mul_one, Int.mul_neg] at a1 a2 a3 a4 ⊢
     refine ⟨?_, by omega, by omega⟩
     rw [a1, a2] at h3
     grind)
theorem ok_of_on {e : Ed} {x y : Int} (h : onE e x y = true) : e.ok = true := by
  unfold onE at h
  simp only [Bool.and_eq_true] at h
  exact h.1
theorem pt_on {e : Ed} {x y : Int} (hk : e.k = 1) (hp : e.pt = true) (h : onE e x y = true) : x = e.ax /\ y = e.ay := by
  obtain ⟨_, b1, b2, _⟩ := onE_line hk h
  have : e.ax = e.bx /\ e.ay = e.by' := by simpa [Ed.pt] using hp
  unfold Btw at b1 b2
  omega
theorem common_lines {ax ay bx by' cx cy dx dy x y : Int} (hn : ¬ (ax = bx /\ ay = by')) (hm : ¬ (cx = dx /\ cy = dy)) (h1 : Btw ax x bx) (h2 : Btw ay y by') (h3 : (bx - ax) * (y - ay) = (by' - ay) * (x - ax))
    (k1 : Btw cx x dx) (k2 : Btw cy y dy) (k3 : (dx - cx) * (y - cy) = (dy - cy) * (x - cx)) : linesZ ax ay bx by' cx cy dx dy ≠ 0 := by
  have p1 := btw_shift h1
  have p2 := btw_shift h2
  have q1 := btw_shift k1
  have q2 := btw_shift k2
  unfold linesZ crI
  by_cases hD : (bx - ax) * (dy - cy) - (by' - ay) * (dx - cx) = 0
  · rw [if_neg (by simpa using hD)]
    have hs : (bx - ax) * (cy - ay) - (by' - ay) * (cx - ax) = 0 := by
      by_cases hx : dx - cx = 0
      · refine zero_of_mul (c := dy - cy) (fun e => hm ⟨by omega, by omega⟩) ?_
        grind
      · refine zero_of_mul (c := dx - cx) hx ?_
        grind
    rw [hs]
    rw [if_neg (by simp [sideI])]
    obtain ⟨t, ht⟩ : ∃ t, (x - ax) * (bx - ax) + (y - ay) * (by' - ay) = t := ⟨_, rfl⟩
    have t1 := btw_mul p1
    have t2 := btw_mul p2
    have cp := cut_prod (gx := bx - ax) (gy := by' - ay) q1 q2 (by grind) (fun e => hm ⟨by omega, by omega⟩)
    obtain ⟨lo, hlo⟩ : ∃ z, (cx - ax) * (bx - ax) + (cy - ay) * (by' - ay) = z := ⟨_, rfl⟩
    obtain ⟨hi, hhi⟩ : ∃ z, (dx - ax) * (bx - ax) + (dy - ay) * (by' - ay) = z := ⟨_, rfl⟩
    obtain ⟨S, hS⟩ : ∃ z, (bx - ax) * (bx - ax) + (by' - ay) * (by' - ay) = z := ⟨_, rfl⟩
    rw [hlo, hhi, hS]
    have e1 : (bx - ax) * (x - cx) + (by' - ay) * (y - cy) = t - lo := by grind
    have e2 : (bx - ax) * (dx - cx - (x - cx)) + (by' - ay) * (dy - cy - (y - cy)) = hi - t := by grind
    rw [e1, e2] at cp
    have hb : min lo hi <= t /\ t <= max lo hi := by
      rcases Int.lt_trichotomy lo t with g | g | g
      · rcases Int.lt_trichotomy hi t with f | f | f
        · have := Int.mul_neg_of_pos_of_neg (show 0 < t - lo by omega) (show hi - t < 0 by omega); omega
        · omega
        · omega
      · omega
      · rcases Int.lt_trichotomy hi t with f | f | f
        · omega
        · omega
        · have := Int.mul_neg_of_neg_of_pos (show t - lo < 0 by omega) (show 0 < hi - t by omega); omega
    have h0 : 0 <= t /\ t <= S := by omega
    (repeat' split) <;> omega
  · rw [if_pos (by simpa using hD)]
    have c1 := cut_prod (gx := -(by' - ay)) (gy := bx - ax) q1 q2 (by grind) (fun e => hm ⟨by omega, by omega⟩)
    have c2 := cut_prod (gx := -(dy - cy)) (gy := dx - cx) p1 p2 (by grind) (fun e => hn ⟨by omega, by omega⟩)
    have e1 : ((bx - ax) * (cy - ay) - (by' - ay) * (cx - ax)) * ((bx - ax) * (dy - ay) - (by' - ay) * (dx - ax)) = -((-(by' - ay) * (x - cx) + (bx - ax) * (y - cy)) * (-(by' - ay) * (dx - cx - (x - cx)) + (bx - ax) * (dy - cy - (y - cy)))) := by grind
    have e2 : ((dx - cx) * (ay - cy) - (dy - cy) * (ax - cx)) * ((dx - cx) * (by' - cy) - (dy - cy) * (bx - cx)) = -((-(dy - cy) * (x - ax) + (dx - cx) * (y - ay)) * (-(dy - cy) * (bx - ax - (x - ax)) + (dx - cx) * (by' - ay - (y - ay)))) := by grind
    rw [if_neg (side_not (by omega)), if_neg (side_not (by omega))]
    decide
theorem common_cross {l e : Ed} {x y : Int} (hl : l.k = 1) (hk : ¬ e.k = 1) (h : onE l x y = true) (h' : onE e x y = true) : crossZ l e ≠ 0 := by
  obtain ⟨_, b1, b2, hc⟩ := onE_line hl h
  obtain ⟨_, hr, g1, g2⟩ := onE_arc hk h'
  have p1 := btw_mul (btw_shift b1)
  have p2 := btw_mul (btw_shift b2)
  unfold crossZ
  rw [countZ_eq]
  have hd : (laE l e).delta = ((x - e.cx) * (l.bx - l.ax) + (y - e.cy) * (l.by' - l.ay)) * ((x - e.cx) * (l.bx - l.ax) + (y - e.cy) * (l.by' - l.ay)) := by
    unfold LA.delta laE
    simp only
    grind
  rw [hd]
  have hS : 0 <= (l.bx - l.ax) * (l.bx - l.ax) + (l.by' - l.ay) * (l.by' - l.ay) := by
    have a1 : 0 <= (l.bx - l.ax) * (l.bx - l.ax) := by rw [<- Int.natAbs_mul_self]; omega
    have a2 : 0 <= (l.by' - l.ay) * (l.by' - l.ay) := by rw [<- Int.natAbs_mul_self]; omega
    omega
  have := countC_root (m := (x - e.cx) * (l.bx - l.ax) + (y - e.cy) * (l.by' - l.ay)) (l := (laE l e).list) (by
    intro p hp
    unfold LA.list laE at hp
    simp only [List.mem_cons, List.not_mem_nil, or_false] at hp
    rcases hp with rfl | rfl | rfl | rfl
    · have e1 : 0 - ((l.ax - e.cx) * (l.bx - l.ax) + (l.ay - e.cy) * (l.by' - l.ay)) + 1 * ((x - e.cx) * (l.bx - l.ax) + (y - e.cy) * (l.by' - l.ay)) = (x - l.ax) * (l.bx - l.ax) + (y - l.ay) * (l.by' - l.ay) := by grind
      simp only
      rw [e1]
      omega
    · have e1 : (l.bx - l.ax) * (l.bx - l.ax) + (l.by' - l.ay) * (l.by' - l.ay) - (0 - ((l.ax - e.cx) * (l.bx - l.ax) + (l.ay - e.cy) * (l.by' - l.ay))) + -1 * ((x - e.cx) * (l.bx - l.ax) + (y - e.cy) * (l.by' - l.ay)) = (l.bx - l.ax) * (l.bx - l.ax) + (l.by' - l.ay) * (l.by' - l.ay) - ((x - l.ax) * (l.bx - l.ax) + (y - l.ay) * (l.by' - l.ay)) := by grind
      simp only
      rw [e1]
      omega
    · have e1 : ((l.bx - l.ax) * (l.bx - l.ax) + (l.by' - l.ay) * (l.by' - l.ay)) * ((l.ax - e.cx) * e.ux + (l.ay - e.cy) * e.uy) - ((l.ax - e.cx) * (l.bx - l.ax) + (l.ay - e.cy) * (l.by' - l.ay)) * ((l.bx - l.ax) * e.ux + (l.by' - l.ay) * e.uy) + ((l.bx - l.ax) * e.ux + (l.by' - l.ay) * e.uy) * ((x - e.cx) * (l.bx - l.ax) + (y - e.cy) * (l.by' - l.ay)) = ((l.bx - l.ax) * (l.bx - l.ax) + (l.by' - l.ay) * (l.by' - l.ay)) * ((x - e.cx) * e.ux + (y - e.cy) * e.uy) := by grind
      simp only
      rw [e1]
      exact Int.mul_nonneg hS g1
    · have e1 : ((l.bx - l.ax) * (l.bx - l.ax) + (l.by' - l.ay) * (l.by' - l.ay)) * ((l.ax - e.cx) * e.vx + (l.ay - e.cy) * e.vy) - ((l.ax - e.cx) * (l.bx - l.ax) + (l.ay - e.cy) * (l.by' - l.ay)) * ((l.bx - l.ax) * e.vx + (l.by' - l.ay) * e.vy) + ((l.bx - l.ax) * e.vx + (l.by' - l.ay) * e.vy) * ((x - e.cx) * (l.bx - l.ax) + (y - e.cy) * (l.by' - l.ay)) = ((l.bx - l.ax) * (l.bx - l.ax) + (l.by' - l.ay) * (l.by' - l.ay)) * ((x - e.cx) * e.vx + (y - e.cy) * e.vy) := by grind
      simp only
      rw [e1]
      exact Int.mul_nonneg hS g2)
  omega
end Go.Proofs.YtighahcllmoajaaGreat

namespace Go.Proofs.YtighahcllmoajaaGreat
open Go.RowKit
theorem common_apart {e f : Ed} {x y : Int} (hk : ¬ e.k = 1) (hk' : ¬ f.k = 1) (hc : ¬ (e.cx = f.cx /\ e.cy = f.cy)) (h : onE e x y = true) (h' : onE f x y = true) : countZ (aaE e f).delta (aaE e f).list ≠ 0 := by
 obtain ⟨_, hr, g1, g2⟩ := onE_arc hk h
 obtain ⟨_, hq, g3, g4⟩ := onE_arc hk' h'
 have hS : 0 <= (f.cx - e.cx) * (f.cx - e.cx) + (f.cy - e.cy) * (f.cy - e.cy) := by
  have a1 : 0 <= (f.cx - e.cx) * (f.cx - e.cx) := by rw [<- Int.natAbs_mul_self]; omega
  have a2 : 0 <= (f.cy - e.cy) * (f.cy - e.cy) := by rw [<- Int.natAbs_mul_self]; omega
  omega
 obtain ⟨m, hm⟩ : ∃ m, 2 * (-(f.cy - e.cy) * (x - e.cx) + (f.cx - e.cx) * (y - e.cy)) = m := ⟨_, rfl⟩
 have hkk : (aaE e f).k = 2 * ((f.cx - e.cx) * (x - e.cx) + (f.cy - e.cy) * (y - e.cy)) := by
  unfold AA.k aaE
  simp only
  rw [<- hr, <- hq]
  grind
 rw [countZ_eq]
 have hd : (aaE e f).delta = m * m := by
  unfold AA.delta
  rw [hkk]
  unfold aaE
  simp only
  rw [<- hr, <- hm]
  grind
 rw [hd]
 have := countC_root (m := m) (l := (aaE e f).list) (by
  intro p hp
  unfold AA.list at hp
  rw [hkk] at hp
  unfold aaE at hp
  simp only [List.mem_cons, List.not_mem_nil, or_false] at hp
  rcases hp with rfl | rfl | rfl | rfl
  ·have e1 : 2 * ((f.cx - e.cx) * (x - e.cx) + (f.cy - e.cy) * (y - e.cy)) * ((f.cx - e.cx) * e.ux + (f.cy - e.cy) * e.uy) + (-(f.cy - e.cy) * e.ux + (f.cx - e.cx) * e.uy) * m = 2 * (((f.cx - e.cx) * (f.cx - e.cx) + (f.cy - e.cy) * (f.cy - e.cy)) * ((x - e.cx) * e.ux + (y - e.cy) * e.uy)) := by rw [<- hm]; grind
   simp only
   rw [e1]
   have := Int.mul_nonneg hS g1
   omega
  ·have e1 : 2 * ((f.cx - e.cx) * (x - e.cx) + (f.cy - e.cy) * (y - e.cy)) * ((f.cx - e.cx) * e.vx + (f.cy - e.cy) * e.vy) + (-(f.cy - e.cy) * e.vx + (f.cx - e.cx) * e.vy) * m = 2 * (((f.cx - e.cx) * (f.cx - e.cx) + (f.cy - e.cy) * (f.cy - e.cy)) * ((x - e.cx) * e.vx + (y - e.cy) * e.vy)) := by rw [<- hm]; grind
   simp only
   rw [e1]
   have := Int.mul_nonneg hS g2
   omega
  ·have e1 : (2 * ((f.cx - e.cx) * (x - e.cx) + (f.cy - e.cy) * (y - e.cy)) - 2 * ((f.cx - e.cx) * (f.cx - e.cx) + (f.cy - e.cy) * (f.cy - e.cy))) * ((f.cx - e.cx) * f.ux + (f.cy - e.cy) * f.uy) + (-(f.cy - e.cy) * f.ux + (f.cx - e.cx) * f.uy) * m = 2 * (((f.cx - e.cx) * (f.cx - e.cx) + (f.cy - e.cy) * (f.cy - e.cy)) * ((x - f.cx) * f.ux + (y - f.cy) * f.uy)) := by rw [<- hm]; grind
   simp only
   rw [e1]
   have := Int.mul_nonneg hS g3
   omega
  ·have e1 : (2 * ((f.cx - e.cx) * (x - e.cx) + (f.cy - e.cy) * (y - e.cy)) - 2 * ((f.cx - e.cx) * (f.cx - e.cx) + (f.cy - e.cy) * (f.cy - e.cy))) * ((f.cx - e.cx) * f.vx + (f.cy - e.cy) * f.vy) + (-(f.cy - e.cy) * f.vx + (f.cx - e.cx) * f.vy) * m = 2 * (((f.cx - e.cx) * (f.cx - e.cx) + (f.cy - e.cy) * (f.cy - e.cy)) * ((x - f.cx) * f.vx + (y - f.cy) * f.vy)) := by rw [<- hm]; grind
   simp only
   rw [e1]
   have := Int.mul_nonneg hS g4
   omega)
 omega
theorem same_axes {wx wy ux uy vx vy sx sy tx ty : Int} (hw : ¬ (wx = 0 /\ wy = 0))
  (hu : (ux = 1 /\ uy = 0) \/ (ux = -1 /\ uy = 0) \/ (ux = 0 /\ uy = 1) \/ (ux = 0 /\ uy = -1)) (hv : (vx = -uy /\ vy = ux) \/ (vx = uy /\ vy = -ux))
  (hs : (sx = 1 /\ sy = 0) \/ (sx = -1 /\ sy = 0) \/ (sx = 0 /\ sy = 1) \/ (sx = 0 /\ sy = -1)) (ht : (tx = -sy /\ ty = sx) \/ (tx = sy /\ ty = -sx))
  (g1 : 0 <= wx * ux + wy * uy) (g2 : 0 <= wx * vx + wy * vy) (g3 : 0 <= wx * sx + wy * sy) (g4 : 0 <= wx * tx + wy * ty) :
  sameZ true (ux == sx && uy == sy) (ux == tx && uy == ty) (vx == sx && vy == sy) (vx == tx && vy == ty) ≠ 0 := by
 have n0 : -(0 : Int) = 0 := rfl
 have n1 : -(-1 : Int) = 1 := rfl
 rcases hu with ⟨rfl, rfl⟩ | ⟨rfl, rfl⟩ | ⟨rfl, rfl⟩ | ⟨rfl, rfl⟩ <;> rcases hv with ⟨rfl, rfl⟩ | ⟨rfl, rfl⟩ <;> rcases hs with ⟨rfl, rfl⟩ | ⟨rfl, rfl⟩ | ⟨rfl, rfl⟩ | ⟨rfl, rfl⟩ <;> rcases ht with ⟨rfl, rfl⟩ | ⟨rfl, rfl⟩ <;>
  first
   | decide
   | (exfalso; simp only [n0, n1, Int.mul_zero, Int.mul_one, Int.mul_neg] at g1 g2 g3 g4; omega)
theorem arc_axes' {e : Ed} (h : e.ok = true) (hk : ¬ e.k = 1) : ((e.ux = 1 /\ e.uy = 0) \/ (e.ux = -1 /\ e.uy = 0) \/ (e.ux = 0 /\ e.uy = 1) \/ (e.ux = 0 /\ e.uy = -1)) /\ ((e.vx = -e.uy /\ e.vy = e.ux) \/ (e.vx = e.uy /\ e.vy = -e.ux)) := by
 obtain ⟨_, hu, hv, _⟩ := arc_axes h hk
 exact ⟨hu, hv.elim (fun h => .inl h.2) (fun h => .inr h.2)⟩
theorem common_same {e f : Ed} {x y : Int} (hk : ¬ e.k = 1) (hk' : ¬ f.k = 1) (hc : e.cx = f.cx /\ e.cy = f.cy) (h : onE e x y = true) (h' : onE f x y = true) : arcsZ e f ≠ 0 := by
 obtain ⟨o1, hr, g1, g2⟩ := onE_arc hk h
 obtain ⟨o2, hq, g3, g4⟩ := onE_arc hk' h'
 obtain ⟨hu, hv⟩ := arc_axes' o1 hk
 obtain ⟨hs, ht⟩ := arc_axes' o2 hk'
 have r0 := rad_pos o1 hk
 have q0 := rad_pos o2 hk'
 rw [<- hc.1] at g3 g4 hq
 rw [<- hc.2] at g3 g4 hq
 have hrq : radZ e = radZ f := by
  have e1 : radZ e * radZ e = radZ f * radZ f := by omega
  rcases Int.lt_trichotomy (radZ e) (radZ f) with g | g | g
  ·have := Int.mul_lt_mul_of_pos_left g r0
   have := Int.mul_lt_mul_of_pos_right g q0
   have e2 : radZ e * radZ f = radZ e * radZ f := rfl
   omega
  ·exact g
  ·have := Int.mul_lt_mul_of_pos_left g q0
   have := Int.mul_lt_mul_of_pos_right g r0
   have e2 : radZ f * radZ e = radZ f * radZ e := rfl
   omega
 have hb : (radZ e == radZ f) = true := by simpa using hrq
 unfold arcsZ
 rw [if_pos hc, hb]
 refine same_axes ?_ hu hv hs ht g1 g2 g3 g4
 rintro ⟨a, b⟩
 rw [a, b] at hr
 have := Int.mul_pos r0 r0
 omega
theorem common_point {e f : Ed} {x y : Int} (h : onE e x y = true) (h' : onE f x y = true) : countE e f ≠ 0 := by
 have o1 := ok_of_on h
 have o2 := ok_of_on h'
 have one (g : Ed) (z v : Int) (hg : onE g z v = true) : onZ g z v ≠ 0 := by unfold onZ; rw [hg]; decide
 unfold countE
 rw [o1, o2]
 simp only [Bool.and_self, Bool.not_true, Bool.false_eq_true, if_false]
 by_cases k1 : e.k = 1
 ·rw [if_pos k1]
  cases p1 : e.pt with
  | true =>
   obtain ⟨a, b⟩ := pt_on k1 p1 h
   rw [a, b] at h'
   exact one _ _ _ h'
  | false =>
   simp only [Bool.false_eq_true, if_false]
   have n1 : ¬ (e.ax = e.bx /\ e.ay = e.by') := by
    intro g
    have : e.pt = true := by simp [Ed.pt, g.1, g.2]
    rw [this] at p1; cases p1
   by_cases k2 : f.k = 1
   ·rw [if_pos k2]
    cases p2 : f.pt with
    | true =>
     obtain ⟨a, b⟩ := pt_on k2 p2 h'
     rw [a, b] at h
     exact one _ _ _ h
    | false =>
     simp only [Bool.false_eq_true, if_false]
     have n2 : ¬ (f.ax = f.bx /\ f.ay = f.by') := by
      intro g
      have : f.pt = true := by simp [Ed.pt, g.1, g.2]
      rw [this] at p2; cases p2
     obtain ⟨_, a1, a2, a3⟩ := onE_line k1 h
     obtain ⟨_, b1, b2, b3⟩ := onE_line k2 h'
     exact common_lines n1 n2 a1 a2 a3 b1 b2 b3
   ·rw [if_neg k2]
    exact common_cross k1 k2 h h'
 ·rw [if_neg k1]
  by_cases k2 : f.k = 1
  ·rw [if_pos k2]
   cases p2 : f.pt with
   | true =>
    obtain ⟨a, b⟩ := pt_on k2 p2 h'
    rw [a, b] at h
    exact one _ _ _ h
   | false =>
    simp only [Bool.false_eq_true, if_false]
    exact common_cross k2 k1 h' h
  ·rw [if_neg k2]
   by_cases hc : e.cx = f.cx /\ e.cy = f.cy
   ·exact common_same k1 k2 hc h h'
   ·unfold arcsZ
    rw [if_neg hc]
    exact common_apart k1 k2 hc h h'
theorem end_a {e : Ed} (h : e.ok = true) : onE e e.ax e.ay = true := by
 by_cases hk : e.k = 1
 ·exact onE_self h hk
 ·unfold onE
  rw [h, if_neg hk]
  simp only [Bool.true_and, Bool.and_eq_true, beq_iff_eq]
  refine ⟨inB_iff.2 ?_, ?_⟩
  ·unfold Btw; omega
  ·unfold powerI; omega
theorem end_b {e : Ed} (h : e.ok = true) : onE e e.bx e.by' = true := by
 by_cases hk : e.k = 1
 ·refine onE_line_mk hk h ?_ ?_ ?_
  ·unfold Btw; omega
  ·unfold Btw; omega
  ·grind
 ·unfold onE
  rw [h, if_neg hk]
  simp only [Bool.true_and, Bool.and_eq_true, beq_iff_eq]
  refine ⟨inB_iff.2 ?_, ?_⟩
  ·unfold Btw; omega
  ·obtain ⟨_, hu, hv, a1, a2, a3, a4⟩ := arc_axes h hk
   have q : (e.bx - e.cx = -(e.ay - e.cy) /\ e.by' - e.cy = e.ax - e.cx) \/ (e.bx - e.cx = e.ay - e.cy /\ e.by' - e.cy = -(e.ax - e.cx)) := by
    rcases hv with ⟨_, v1, v2⟩ | ⟨_, v1, v2⟩
    ·left; rw [v1] at a3; rw [v2] at a4; refine ⟨?_, by omega⟩; rw [a3, a2]; grind
    ·right; rw [v1] at a3; rw [v2] at a4; refine ⟨by omega, ?_⟩; rw [a4, a1]; grind
   unfold powerI
   rcases q with ⟨q1, q2⟩ | ⟨q1, q2⟩ <;> rw [q1, q2] <;> grind
end Go.Proofs.YtighahcllmoajaaGreat

namespace Go.Proofs.YtighahcllmoajaaGreat
open Go.RowKit
def negs (l : List (Int × Int)) : List (Int × Int) := l.map fun p => (p.1, -p.2)
theorem goodS_negs (d s : Int) (l : List (Int × Int)) : goodS d s (negs l) = goodS d (-s) l := by
 unfold goodS negs
 rw [List.all_map]
 congr 1
 funext p
 simp only [Function.comp_apply, Int.mul_neg, Int.neg_mul]
theorem sideZ_d0 (x y z : Int) : sideZ x y 0 = sideZ x z 0 := by
 unfold sideZ
 rw [sgn_zero]
 simp only [Int.mul_zero]
theorem goodS_d0 (s t : Int) (l : List (Int × Int)) : goodS 0 s l = goodS 0 t l := by
 unfold goodS
 congr 1
 funext p
 rw [sideZ_d0 p.1 (s * p.2) (t * p.2)]
theorem countC_negs (d : Int) (l : List (Int × Int)) : countC d (negs l) = countC d l := by
 unfold countC
 by_cases h : d < 0
 ·rw [if_pos h, if_pos h]
 ·rw [if_neg h, if_neg h]
  by_cases h0 : d = 0
  ·subst h0
   rw [if_pos rfl, if_pos rfl, goodS_negs, goodS_d0 (-1) 1]
  ·rw [if_neg h0, if_neg h0, goodS_negs, goodS_negs, Int.neg_neg]
   omega
theorem goodS_perm {d s : Int} {l l' : List (Int × Int)} (h : l.Perm l') : goodS d s l = goodS d s l' := by
 unfold goodS
 rw [Bool.eq_iff_iff, List.all_eq_true, List.all_eq_true]
 exact ⟨fun g x hx => g x (h.mem_iff.2 hx), fun g x hx => g x (h.mem_iff.1 hx)⟩
theorem countC_perm {d : Int} {l l' : List (Int × Int)} (h : l.Perm l') : countC d l = countC d l' := by
 unfold countC
 rw [goodS_perm h, goodS_perm h]
theorem perm4 {α : Type} (a b c d : α) : [a, b, c, d].Perm [b, a, d, c] :=
 (List.Perm.swap b a [c, d]).trans (.cons b (.cons a (.swap d c [])))
theorem perm_uv {α : Type} (a b c d : α) : [a, b, c, d].Perm [a, b, d, c] := .cons a (.cons b (.swap d c []))
theorem perm_lr {α : Type} (a b c d : α) : [a, b, c, d].Perm [c, d, a, b] := List.perm_append_comm (l₁ := [a, b]) (l₂ := [c, d])
theorem perm_ab {α : Type} (a b c d : α) : [a, b, c, d].Perm [b, a, c, d] := .swap b a [c, d]
def ov (p q r s : Int) : Int :=
 if max (min p q) (min r s) < min (max p q) (max r s) then -1 else if max (min p q) (min r s) = min (max p q) (max r s) then 1 else 0
theorem ov_comm (p q r s : Int) : ov p q r s = ov r s p q := by unfold ov; rw [Int.max_comm (min p q), Int.min_comm (max p q)]
theorem ov_flip (p q r s : Int) : ov p q r s = ov q p r s := by unfold ov; rw [Int.min_comm p q, Int.max_comm p q]
theorem ov_shift (p q r s t : Int) : ov (p + t) (q + t) (r + t) (s + t) = ov p q r s := by
 unfold ov
 (repeat' split) <;> omega
theorem max_pos {k p q : Int} (h : 0 < k) : max (k * p) (k * q) = k * max p q := by
 rcases Int.le_total p q with g | g
 ·have := Int.mul_le_mul_of_nonneg_left g (Int.le_of_lt h)
  rw [Int.max_eq_right g, Int.max_eq_right this]
 ·have := Int.mul_le_mul_of_nonneg_left g (Int.le_of_lt h)
  rw [Int.max_eq_left g, Int.max_eq_left this]
theorem min_pos {k p q : Int} (h : 0 < k) : min (k * p) (k * q) = k * min p q := by
 rcases Int.le_total p q with g | g
 ·have := Int.mul_le_mul_of_nonneg_left g (Int.le_of_lt h)
  rw [Int.min_eq_left g, Int.min_eq_left this]
 ·have := Int.mul_le_mul_of_nonneg_left g (Int.le_of_lt h)
  rw [Int.min_eq_right g, Int.min_eq_right this]
theorem ov_pos {k : Int} (h : 0 < k) (p q r s : Int) : ov (k * p) (k * q) (k * r) (k * s) = ov p q r s := by
 unfold ov
 rw [max_pos h, max_pos h, min_pos h, min_pos h, max_pos h, min_pos h]
 have e1 (x y : Int) : k * x < k * y ↔ x < y := Int.mul_lt_mul_left h
 have e2 (x y : Int) : k * x = k * y ↔ x = y := Int.mul_eq_mul_left_iff (by omega)
 simp only [e1, e2]
theorem ov_neg (p q r s : Int) : ov (-p) (-q) (-r) (-s) = ov p q r s := by
 unfold ov
 (repeat' split) <;> omega
theorem ov_scale {k : Int} (h : k ≠ 0) (p q r s : Int) : ov (k * p) (k * q) (k * r) (k * s) = ov p q r s := by
 rcases Int.lt_or_gt_of_ne h with g | g
 ·rw [<- ov_neg (k * p), <- Int.neg_mul, <- Int.neg_mul, <- Int.neg_mul, <- Int.neg_mul]
  exact ov_pos (by omega) ..
 ·exact ov_pos g ..
theorem sideI_ne {n : Int} : sideI n ≠ 0 ↔ n ≠ 0 := by unfold sideI; (repeat' split) <;> omega
theorem sideI_opp (n : Int) : sideI (-n) = -sideI n := by unfold sideI; (repeat' split) <;> omega
theorem linesZ_eq (px py qx qy rx ry sx sy : Int) : linesZ px py qx qy rx ry sx sy =
  if (qx - px) * (sy - ry) - (qy - py) * (sx - rx) ≠ 0 then
   if 0 < sideI (crI px py qx qy rx ry) * sideI (crI px py qx qy sx sy) \/ 0 < sideI (crI rx ry sx sy px py) * sideI (crI rx ry sx sy qx qy) then 0 else 1
  else if crI px py qx qy rx ry ≠ 0 then 0
  else ov 0 ((qx - px) * (qx - px) + (qy - py) * (qy - py)) ((rx - px) * (qx - px) + (ry - py) * (qy - py)) ((sx - px) * (qx - px) + (sy - py) * (qy - py)) := by
 have hs : 0 <= (qx - px) * (qx - px) + (qy - py) * (qy - py) := by
  have a1 : 0 <= (qx - px) * (qx - px) := by rw [<- Int.natAbs_mul_self]; omega
  have a2 : 0 <= (qy - py) * (qy - py) := by rw [<- Int.natAbs_mul_self]; omega
  omega
 unfold linesZ ov
 simp only [sideI_ne]
 obtain ⟨S, hS⟩ : ∃ z, (qx - px) * (qx - px) + (qy - py) * (qy - py) = z := ⟨_, rfl⟩
 rw [hS] at hs ⊢
 rw [Int.min_eq_left hs, Int.max_eq_right hs]
 split
 ·split
  ·rename_i h; rw [if_pos (.inl h)]
  ·rename_i h
   split
   ·rename_i h2; rw [if_pos (.inr h2)]
   ·rename_i h2; rw [if_neg (fun g => g.elim h h2)]
 ·rfl
theorem linesZ_comm {px py qx qy rx ry sx sy : Int} (hn : ¬ (px = qx /\ py = qy)) (hm : ¬ (rx = sx /\ ry = sy)) : linesZ rx ry sx sy px py qx qy = linesZ px py qx qy rx ry sx sy := by
 rw [linesZ_eq, linesZ_eq]
 by_cases hD : (qx - px) * (sy - ry) - (qy - py) * (sx - rx) = 0
 ·have hD' : (sx - rx) * (qy - py) - (sy - ry) * (qx - px) = 0 := by grind
  rw [if_neg (not_not_intro hD'), if_neg (not_not_intro hD)]
  have p1 := sq_pos (x := qx - px) (y := qy - py) (by omega)
  have p2 := sq_pos (x := sx - rx) (y := sy - ry) (by omega)
  have hg : (qx - px) * (sx - rx) + (qy - py) * (sy - ry) ≠ 0 := by
   intro h
   have e : ((qx - px) * (qx - px) + (qy - py) * (qy - py)) * ((sx - rx) * (sx - rx) + (sy - ry) * (sy - ry)) = 0 := by grind
   have := Int.mul_pos p1 p2
   omega
  by_cases hc : crI px py qx qy rx ry = 0
  ·have hc' : crI rx ry sx sy px py = 0 := by
    unfold crI at hc ⊢
    by_cases hx : qx - px = 0
    ·refine zero_of_mul (c := qy - py) (fun e => hn ⟨by omega, by omega⟩) ?_
     grind
    ·refine zero_of_mul (c := qx - px) hx ?_
     grind
   rw [if_neg (not_not_intro hc'), if_neg (not_not_intro hc)]
   unfold crI at hc
   rw [<- ov_pos p1, <- ov_shift _ _ _ _ (((qx - px) * (sx - rx) + (qy - py) * (sy - ry)) * ((rx - px) * (qx - px) + (ry - py) * (qy - py))),
    show ((qx - px) * (qx - px) + (qy - py) * (qy - py)) * 0 + ((qx - px) * (sx - rx) + (qy - py) * (sy - ry)) * ((rx - px) * (qx - px) + (ry - py) * (qy - py)) = ((qx - px) * (sx - rx) + (qy - py) * (sy - ry)) * ((rx - px) * (qx - px) + (ry - py) * (qy - py)) by grind,
    show ((qx - px) * (qx - px) + (qy - py) * (qy - py)) * ((sx - rx) * (sx - rx) + (sy - ry) * (sy - ry)) + ((qx - px) * (sx - rx) + (qy - py) * (sy - ry)) * ((rx - px) * (qx - px) + (ry - py) * (qy - py)) = ((qx - px) * (sx - rx) + (qy - py) * (sy - ry)) * ((sx - px) * (qx - px) + (sy - py) * (qy - py)) by grind,
    show ((qx - px) * (qx - px) + (qy - py) * (qy - py)) * ((px - rx) * (sx - rx) + (py - ry) * (sy - ry)) + ((qx - px) * (sx - rx) + (qy - py) * (sy - ry)) * ((rx - px) * (qx - px) + (ry - py) * (qy - py)) = ((qx - px) * (sx - rx) + (qy - py) * (sy - ry)) * 0 by grind,
    show ((qx - px) * (qx - px) + (qy - py) * (qy - py)) * ((qx - rx) * (sx - rx) + (qy - ry) * (sy - ry)) + ((qx - px) * (sx - rx) + (qy - py) * (sy - ry)) * ((rx - px) * (qx - px) + (ry - py) * (qy - py)) = ((qx - px) * (sx - rx) + (qy - py) * (sy - ry)) * ((qx - px) * (qx - px) + (qy - py) * (qy - py)) by grind,
    ov_scale hg, ov_comm]
  ·have hc' : ¬ crI rx ry sx sy px py = 0 := by
    intro h
    apply hc
    unfold crI at h ⊢
    by_cases hx : sx - rx = 0
    ·refine zero_of_mul (c := sy - ry) (fun e => hm ⟨by omega, by omega⟩) ?_
     grind
    ·refine zero_of_mul (c := sx - rx) hx ?_
     grind
   rw [if_pos hc', if_pos hc]
 ·have hD' : (sx - rx) * (qy - py) - (sy - ry) * (qx - px) ≠ 0 := by
   intro h; apply hD; grind
  rw [if_pos hD', if_pos hD]
  simp only [Or.comm]
theorem linesZ_rev (px py qx qy rx ry sx sy : Int) : linesZ qx qy px py rx ry sx sy = linesZ px py qx qy rx ry sx sy := by
 rw [linesZ_eq, linesZ_eq]
 have e1 : crI qx qy px py rx ry = -crI px py qx qy rx ry := by unfold crI; grind
 have e2 : crI qx qy px py sx sy = -crI px py qx qy sx sy := by unfold crI; grind
 have e3 : (px - qx) * (sy - ry) - (py - qy) * (sx - rx) = -((qx - px) * (sy - ry) - (qy - py) * (sx - rx)) := by grind
 rw [e1, e2, e3, sideI_opp, sideI_opp, Int.neg_mul_neg, Int.mul_comm (sideI (crI rx ry sx sy qx qy))]
 simp only [ne_eq, Int.neg_eq_zero]
 have e4 : (px - qx) * (px - qx) + (py - qy) * (py - qy) = (qx - px) * (qx - px) + (qy - py) * (qy - py) := by grind
 have e5 : (rx - qx) * (px - qx) + (ry - qy) * (py - qy) = -((rx - px) * (qx - px) + (ry - py) * (qy - py)) + ((qx - px) * (qx - px) + (qy - py) * (qy - py)) := by grind
 have e6 : (sx - qx) * (px - qx) + (sy - qy) * (py - qy) = -((sx - px) * (qx - px) + (sy - py) * (qy - py)) + ((qx - px) * (qx - px) + (qy - py) * (qy - py)) := by grind
 rw [e4, e5, e6]
 obtain ⟨S, hS⟩ : ∃ z, (qx - px) * (qx - px) + (qy - py) * (qy - py) = z := ⟨_, rfl⟩
 rw [hS]
 have k (a b : Int) : ov 0 S (-a + S) (-b + S) = ov 0 S a b := by
  rw [<- ov_neg 0 S a b, <- ov_shift (-0) (-S) (-a) (-b) S, show -0 + S = S by omega, show -S + S = 0 by omega, ov_flip S 0]
 rw [k]
end Go.Proofs.YtighahcllmoajaaGreat

namespace Go.Proofs.YtighahcllmoajaaGreat
open Go.RowKit
end Go.Proofs.YtighahcllmoajaaGreat
