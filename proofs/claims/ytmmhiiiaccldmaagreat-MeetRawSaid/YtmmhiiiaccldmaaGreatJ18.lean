/- meet.Count as a plain function of two edges, and its bounds. | The table of the law's examples, by countE. | Contracts: the kinds of figures. | Contracts: meet.Count of two lines. | Contracts: meet.Count of a point and a figure, from the contracts of its callees (printed by gen_cpoint.py). -/
import Derived.Test.YtmmhiiiaccldmaaGreatJ16
import Derived.Test.YtmmhiiiaccldmaaGreatJ17
import Derived.Test.YtmmhiiiaccldmaaGreatJ14
import Derived.Test.YtmmhiiiaccldmaaGreatJ15
set_option linter.unusedVariables false
set_option linter.unusedSimpArgs false

namespace Go.Proofs.YtmmhiiiaccldmaaGreat
open Go.RowKit

def Ed.ux (e : Ed) : Int := (e.ax - e.cx).tdiv (radZ e)
def Ed.uy (e : Ed) : Int := (e.ay - e.cy).tdiv (radZ e)
def Ed.vx (e : Ed) : Int := (e.bx - e.cx).tdiv (radZ e)
def Ed.vy (e : Ed) : Int := (e.by' - e.cy).tdiv (radZ e)
def Ed.pt (e : Ed) : Bool := e.ax == e.bx && e.ay == e.by'
def laE (l e : Ed) : LA where
  S := (l.bx - l.ax) * (l.bx - l.ax) + (l.by' - l.ay) * (l.by' - l.ay)
  h := (l.ax - e.cx) * (l.bx - l.ax) + (l.ay - e.cy) * (l.by' - l.ay)
  F := (l.ax - e.cx) * (l.ax - e.cx) + (l.ay - e.cy) * (l.ay - e.cy)
  r := radZ e
  u1 := (l.ax - e.cx) * e.ux + (l.ay - e.cy) * e.uy
  u2 := (l.bx - l.ax) * e.ux + (l.by' - l.ay) * e.uy
  v1 := (l.ax - e.cx) * e.vx + (l.ay - e.cy) * e.vy
  v2 := (l.bx - l.ax) * e.vx + (l.by' - l.ay) * e.vy
def aaE (e f : Ed) : AA where
  S := (f.cx - e.cx) * (f.cx - e.cx) + (f.cy - e.cy) * (f.cy - e.cy)
  r := radZ e
  q := radZ f
  du := (f.cx - e.cx) * e.ux + (f.cy - e.cy) * e.uy
  dv := (f.cx - e.cx) * e.vx + (f.cy - e.cy) * e.vy
  ds := (f.cx - e.cx) * f.ux + (f.cy - e.cy) * f.uy
  dt := (f.cx - e.cx) * f.vx + (f.cy - e.cy) * f.vy
  pu := -(f.cy - e.cy) * e.ux + (f.cx - e.cx) * e.uy
  pv := -(f.cy - e.cy) * e.vx + (f.cx - e.cx) * e.vy
  ps := -(f.cy - e.cy) * f.ux + (f.cx - e.cx) * f.uy
  pt := -(f.cy - e.cy) * f.vx + (f.cx - e.cx) * f.vy
def onZ (e : Ed) (x y : Int) : Int := if onE e x y then 1 else 0
def crossZ (l e : Ed) : Int := countZ (laE l e).delta (laE l e).list
def arcsZ (e f : Ed) : Int :=
  if e.cx = f.cx ∧ e.cy = f.cy then sameZ (radZ e == radZ f) (e.ux == f.ux && e.uy == f.uy) (e.ux == f.vx && e.uy == f.vy) (e.vx == f.ux && e.vy == f.uy) (e.vx == f.vx && e.vy == f.vy)
  else countZ (aaE e f).delta (aaE e f).list
/-- How many points two edges have in common; -1 for infinitely many. -/
def countE (e f : Ed) : Int :=
  if !(e.ok && f.ok) then 0
  else if e.k = 1 then
    if e.pt then onZ f e.ax e.ay
    else if f.k = 1 then (if f.pt then onZ e f.ax f.ay else linesZ e.ax e.ay e.bx e.by' f.ax f.ay f.bx f.by')
    else crossZ e f
  else if f.k = 1 then (if f.pt then onZ e f.ax f.ay else crossZ f e)
  else arcsZ e f

theorem countZ_bd (d : Int) (l : List (Int × Int)) : 0 ≤ countZ d l ∧ countZ d l ≤ 2 := by
  have h := countL_bd d l (signL (decide (d < 0)) (digs d.natAbs).length)
  have hl : (signL (decide (d < 0)) (digs d.natAbs).length).length ≤ 2 := by
    unfold signL
    split
    · simp
    · split <;> simp
  unfold countZ
  omega
theorem onZ_bd (e : Ed) (x y : Int) : 0 ≤ onZ e x y ∧ onZ e x y ≤ 1 := by unfold onZ; split <;> omega
theorem linesZ_bd (px py qx qy rx ry sx sy : Int) : -1 ≤ linesZ px py qx qy rx ry sx sy ∧ linesZ px py qx qy rx ry sx sy ≤ 1 := by
  unfold linesZ; (repeat' split) <;> omega

theorem tdiv_self {r : Int} (h : 0 < r) : r.tdiv r = 1 := Int.tdiv_self (by omega)
theorem neg_tdiv_self {r : Int} (h : 0 < r) : (-r).tdiv r = -1 := by rw [Int.neg_tdiv, tdiv_self h]
/-- The axes of an arc. -/
theorem arc_axes {e : Ed} (h : e.ok = true) (hk : ¬ e.k = 1) : 0 < radZ e ∧
    ((e.ux = 1 ∧ e.uy = 0) ∨ (e.ux = -1 ∧ e.uy = 0) ∨ (e.ux = 0 ∧ e.uy = 1) ∨ (e.ux = 0 ∧ e.uy = -1)) ∧
    ((e.k = 2 ∧ e.vx = -e.uy ∧ e.vy = e.ux) ∨ (e.k = 3 ∧ e.vx = e.uy ∧ e.vy = -e.ux)) ∧
    e.ax = e.cx + radZ e * e.ux ∧ e.ay = e.cy + radZ e * e.uy ∧ e.bx = e.cx + radZ e * e.vx ∧ e.by' = e.cy + radZ e * e.vy := by
  have hr := rad_pos h hk
  have hR : radZ e = max (max (e.ax - e.cx) (-(e.ax - e.cx))) (max (e.ay - e.cy) (-(e.ay - e.cy))) := by
    have hkb : (e.k == 1) = false := by simpa using hk
    unfold radZ
    rw [h, hkb]
    rfl
  have hq : (((e.ax - e.cx == 0) != (e.ay - e.cy == 0)) = true) ∧ ((e.k = 2 ∧ e.bx - e.cx = -(e.ay - e.cy) ∧ e.by' - e.cy = e.ax - e.cx) ∨ (e.k = 3 ∧ e.bx - e.cx = e.ay - e.cy ∧ e.by' - e.cy = -(e.ax - e.cx))) := by
    simp only [Ed.ok, Bool.and_eq_true, if_neg hk] at h
    have h2 := h.2
    split at h2
    · rename_i hk2
      simp only [Ed.quarter, quarterB, Bool.and_eq_true, beq_iff_eq, rot] at h2
      exact ⟨h2.1, .inl ⟨hk2, h2.2.1, h2.2.2⟩⟩
    · split at h2
      · rename_i hk3
        simp only [Ed.quarter, quarterB, Bool.and_eq_true, beq_iff_eq, rot] at h2
        refine ⟨h2.1, .inr ⟨hk3, ?_, ?_⟩⟩
        · have := h2.2.1; omega
        · have := h2.2.2; omega
      · cases h2
  obtain ⟨hx, hb⟩ := hq
  have hxy : (e.ax - e.cx = 0 ∧ ¬ e.ay - e.cy = 0) ∨ (¬ e.ax - e.cx = 0 ∧ e.ay - e.cy = 0) := by
    by_cases h1 : e.ax - e.cx = 0
    · by_cases h2 : e.ay - e.cy = 0
      · simp [h1, h2] at hx
      · exact .inl ⟨h1, h2⟩
    · by_cases h2 : e.ay - e.cy = 0
      · exact .inr ⟨h1, h2⟩
      · have e1 : (e.ax - e.cx == 0) = false := by simpa using h1
        have e2 : (e.ay - e.cy == 0) = false := by simpa using h2
        rw [e1, e2] at hx; cases hx
  obtain ⟨r, R⟩ : ∃ r, radZ e = r := ⟨_, rfl⟩
  unfold Ed.ux Ed.uy Ed.vx Ed.vy
  rw [R] at hr hR ⊢
  have t1 := tdiv_self hr
  have t2 := neg_tdiv_self hr
  have t0 : (0 : Int).tdiv r = 0 := Int.zero_tdiv r
  refine ⟨hr, ?_⟩
  have c4 : (e.ax - e.cx = r ∧ e.ay - e.cy = 0) ∨ (e.ax - e.cx = -r ∧ e.ay - e.cy = 0) ∨ (e.ax - e.cx = 0 ∧ e.ay - e.cy = r) ∨ (e.ax - e.cx = 0 ∧ e.ay - e.cy = -r) := by omega
  have n1 : -(-r) = r := by omega
  have n0 : -(0 : Int) = 0 := rfl
  have m0 : r * 0 = 0 := by omega
  have m1 : r * 1 = r := by omega
  have m2 : r * -1 = -r := by omega
  rcases c4 with ⟨a1, a2⟩ | ⟨a1, a2⟩ | ⟨a1, a2⟩ | ⟨a1, a2⟩ <;> rcases hb with ⟨k, b1, b2⟩ | ⟨k, b1, b2⟩ <;> rw [a1] at b2 ⊢ <;> rw [a2] at b1 ⊢ <;> (try rw [n1] at b1) <;> (try rw [n1] at b2) <;> (try rw [n0] at b1) <;> (try rw [n0] at b2) <;> rw [b1, b2] <;> simp only [t1, t2, t0, m0, m1, m2] <;> refine ⟨by simp, by simp [k], by omega, by omega, by omega, by omega⟩

theorem arc_di {e : Ed} (h : e.ok = true) (hk : ¬ e.k = 1) : Di (radZ e) ∧ Di e.ux ∧ Di e.uy ∧ Di e.vx ∧ Di e.vy := by
  obtain ⟨⟨h1, h2⟩, ⟨h3, h4⟩, h5, h6⟩ := ok_right h
  have hr0 := rad_pos h hk
  have hr1 := rad_le h
  refine ⟨by unfold Di; omega, tdiv_bd (h1.sub h5), tdiv_bd (h2.sub h6), tdiv_bd (h3.sub h5), tdiv_bd (h4.sub h6)⟩
/-- Two arcs of one circle have at most one point in common, or infinitely many. -/
theorem sameZ_le {rq : Bool} {ux uy vx vy sx sy tx ty : Int} (h1 : ¬ (ux = vx ∧ uy = vy)) (h2 : ¬ (sx = tx ∧ sy = ty)) :
    -1 ≤ sameZ rq (ux == sx && uy == sy) (ux == tx && uy == ty) (vx == sx && vy == sy) (vx == tx && vy == ty) ∧ sameZ rq (ux == sx && uy == sy) (ux == tx && uy == ty) (vx == sx && vy == sy) (vx == tx && vy == ty) ≤ 1 := by
  have one_of (a b : Bool) : one a b = 0 ∨ (a = true ∧ one a b = 1) := by cases a <;> cases b <;> decide
  have key (a b : Bool) (h : ¬ (a = true ∧ b = true)) : one a rq + one b rq ≤ 1 := by
    rcases one_of a rq with g | ⟨g, g'⟩ <;> rcases one_of b rq with k | ⟨k, k'⟩ <;> first | omega | exact absurd ⟨g, k⟩ h
  have a1 := key (ux == sx && uy == sy) (ux == tx && uy == ty) (by simp only [Bool.and_eq_true, beq_iff_eq]; rintro ⟨⟨a, b⟩, c, d⟩; exact h2 ⟨by omega, by omega⟩)
  have a2 := key (vx == sx && vy == sy) (vx == tx && vy == ty) (by simp only [Bool.and_eq_true, beq_iff_eq]; rintro ⟨⟨a, b⟩, c, d⟩; exact h2 ⟨by omega, by omega⟩)
  have b1 := one_bd (ux == sx && uy == sy) rq
  have b2 := one_bd (ux == tx && uy == ty) rq
  have b3 := one_bd (vx == sx && vy == sy) rq
  have b4 := one_bd (vx == tx && vy == ty) rq
  unfold sameZ
  split <;> omega
theorem axes_ne {e : Ed} (h : e.ok = true) (hk : ¬ e.k = 1) : ¬ (e.ux = e.vx ∧ e.uy = e.vy) := by
  obtain ⟨_, h1, h2, _⟩ := arc_axes h hk
  rintro ⟨a, b⟩
  rcases h1 with ⟨c, d⟩ | ⟨c, d⟩ | ⟨c, d⟩ | ⟨c, d⟩ <;> rcases h2 with ⟨_, f, g⟩ | ⟨_, f, g⟩ <;> omega
theorem arcsZ_bd {e f : Ed} (he : e.ok = true) (hf : f.ok = true) (ke : ¬ e.k = 1) (kf : ¬ f.k = 1) : -1 ≤ arcsZ e f ∧ arcsZ e f ≤ 2 ∧
    (¬ (e.cx = f.cx ∧ e.cy = f.cy ∧ radZ e = radZ f) → 0 ≤ arcsZ e f) ∧ (e.cx = f.cx ∧ e.cy = f.cy → arcsZ e f ≤ 1) := by
  unfold arcsZ
  split
  · rename_i hc
    have := sameZ_le (rq := radZ e == radZ f) (axes_ne he ke) (axes_ne hf kf)
    refine ⟨this.1, by omega, fun hn => ?_, fun _ => this.2⟩
    have hrf : (radZ e == radZ f) = false := by
      rw [beq_eq_false_iff_ne]
      intro h
      exact hn ⟨hc.1, hc.2, h⟩
    rw [hrf]
    have one_of (a : Bool) : one a false = 0 := by cases a <;> decide
    simp [sameZ, one_of]
  · rename_i hc
    have := countZ_bd (aaE e f).delta (aaE e f).list
    exact ⟨by omega, by omega, fun _ => by omega, fun h => absurd h hc⟩
theorem sq_pos {x y : Int} (h : ¬ (x = 0 ∧ y = 0)) : 0 < x * x + y * y := by
  rw [← Int.natAbs_mul_self (a := x), ← Int.natAbs_mul_self (a := y)]
  by_cases h1 : x = 0
  · have h2 : 0 < y.natAbs := by omega
    have := Nat.mul_pos h2 h2
    omega
  · have h2 : 0 < x.natAbs := by omega
    have := Nat.mul_pos h2 h2
    omega
theorem linesZ_self {px py qx qy : Int} (h : ¬ (px = qx ∧ py = qy)) : linesZ px py qx qy px py qx qy = -1 := by
  have e1 : (qx - px) * (qy - py) - (qy - py) * (qx - px) = 0 := by rw [Int.mul_comm]; omega
  have e2 : crI px py qx qy px py = 0 := by unfold crI; simp
  have e3 : sideI (crI px py qx qy px py) = 0 := by rw [e2]; rfl
  have e4 : (px - px) * (qx - px) + (py - py) * (qy - py) = 0 := by simp
  have hp := sq_pos (x := qx - px) (y := qy - py) (by omega)
  unfold linesZ
  rw [e1, e3, e4]
  simp only [ne_eq, not_true_eq_false, if_false]
  rw [if_pos (by omega)]
theorem onE_self {e : Ed} (h : e.ok = true) (hk : e.k = 1) : onE e e.ax e.ay = true := by
  unfold onE
  rw [h, if_pos hk]
  simp [inB, sideI]
  try omega
/-- An edge and itself. -/
theorem countE_self {e : Ed} (h : e.ok = true) : countE e e = if e.ax = e.bx ∧ e.ay = e.by' then 1 else -1 := by
  unfold countE
  rw [h]
  simp only [Bool.and_self, Bool.not_true, Bool.false_eq_true, if_false]
  by_cases hk : e.k = 1
  · rw [if_pos hk]
    by_cases hp : e.ax = e.bx ∧ e.ay = e.by'
    · rw [if_pos hp, if_pos (by simp [Ed.pt, hp.1, hp.2])]
      simp [onZ, onE_self h hk]
    · have : e.pt = false := by rw [Bool.eq_false_iff]; simp only [Ed.pt, ne_eq, Bool.and_eq_true, beq_iff_eq]; exact hp
      rw [if_neg hp, this]
      simp only [Bool.false_eq_true, if_false, if_pos hk]
      exact linesZ_self hp
  · rw [if_neg hk, if_neg hk]
    obtain ⟨hr, h1, h2, g1, g2, g3, g4⟩ := arc_axes h hk
    have hn : ¬ (e.ax = e.bx ∧ e.ay = e.by') := by
      rcases h1 with ⟨c, d⟩ | ⟨c, d⟩ | ⟨c, d⟩ | ⟨c, d⟩ <;> rcases h2 with ⟨_, f, g⟩ | ⟨_, f, g⟩ <;> rw [c] at g1 <;> rw [d] at g2 <;> rw [f] at g3 <;> rw [g] at g4 <;> (try rw [c] at g4) <;> (try rw [d] at g3) <;> omega
    rw [if_neg hn]
    have hv := axes_ne h hk
    have e1 : (e.ux == e.vx && e.uy == e.vy) = false := by rw [Bool.eq_false_iff]; simp only [ne_eq, Bool.and_eq_true, beq_iff_eq]; exact hv
    have e2 : (e.vx == e.ux && e.vy == e.uy) = false := by rw [Bool.eq_false_iff]; simp only [ne_eq, Bool.and_eq_true, beq_iff_eq]; rintro ⟨a, b⟩; exact hv ⟨a.symm, b.symm⟩
    unfold arcsZ
    rw [if_pos ⟨rfl, rfl⟩, e1, e2]
    simp only [beq_self_eq_true, Bool.and_self]
    rfl
end Go.Proofs.YtmmhiiiaccldmaaGreat

namespace Go.Proofs.YtmmhiiiaccldmaaGreat
open Go.RowKit

/-- The law's examples: edge, edge, how many common points. -/
def tabz : List Int := [
  1, 0, 0, 4, 4, 0, 0, 1, 0, 4, 4, 0, 0, 0, 1,
  1, 0, 0, 4, 4, 0, 0, 1, 2, 2, 9, 9, 0, 0, -1,
  1, 0, 0, 4, 4, 0, 0, 1, 4, 4, 9, 9, 0, 0, 1,
  1, 0, 0, 4, 4, 0, 0, 1, 5, 5, 9, 9, 0, 0, 0,
  2, 5, 0, 0, 5, 0, 0, 1, 0, 0, 3, 4, 0, 0, 1,
  2, 5, 0, 0, 5, 0, 0, 1, 0, 0, 3, 3, 0, 0, 0,
  2, 5, 0, 0, 5, 0, 0, 1, 0, 0, 6, 8, 0, 0, 1,
  2, 5, 0, 0, 5, 0, 0, 1, 5, 0, 0, 5, 0, 0, 2,
  2, 5, 0, 0, 5, 0, 0, 1, 5, -3, 5, 3, 0, 0, 1,
  2, 5, 0, 0, 5, 0, 0, 1, -5, 1, 4, 1, 0, 0, 0,
  2, 5, 0, 0, 5, 0, 0, 1, 1, 6, 6, 1, 0, 0, 2,
  2, 5, 0, 0, 5, 0, 0, 1, -5, 5, 5, 5, 0, 0, 1,
  2, 5, 0, 0, 5, 0, 0, 2, 5, 0, 0, 5, 0, 0, -1,
  2, 5, 0, 0, 5, 0, 0, 2, 0, 5, -5, 0, 0, 0, 1,
  2, 5, 0, 0, 5, 0, 0, 2, -5, 0, 0, -5, 0, 0, 0,
  2, 5, 0, 0, 5, 0, 0, 2, 6, 5, 1, 0, 6, 0, 1,
  2, 5, 0, 0, 5, 0, 0, 2, 0, 5, 5, 0, 5, 5, 2]
def tz (o : Nat) : Int := tabz[o]?.getD 0
def countC (d : Int) (l : List (Int × Int)) : Int := if d < 0 then 0 else (if goodS d 1 l then 1 else 0) + (if d = 0 then 0 else if goodS d (-1) l then 1 else 0)
theorem countZ_eq (d : Int) (l : List (Int × Int)) : countZ d l = countC d l := by
  unfold countZ countL countC signL
  by_cases h : d < 0
  · simp [h]
  · have hd : decide (d < 0) = false := by simpa using h
    rw [hd, if_neg h]
    simp only [Bool.false_eq_true, if_false]
    by_cases h0 : d = 0
    · subst h0
      have : (digs (Int.natAbs 0)).length = 0 := by simp [digs_zero]
      rw [if_pos this, if_pos rfl]
      cases hg : goodS 0 1 l <;> simp [sP, hg]
    · have : ¬ (digs d.natAbs).length = 0 := by
        intro e
        have := digs_eq_nil.1 (List.eq_nil_of_length_eq_zero e)
        omega
      rw [if_neg this, if_neg h0]
      cases hg : goodS d 1 l <;> cases hg' : goodS d (-1) l <;> simp [sP, sM, hg, hg']
def crossD (l e : Ed) : Int := countC (laE l e).delta (laE l e).list
def arcsD (e f : Ed) : Int :=
  if e.cx = f.cx ∧ e.cy = f.cy then sameZ (radZ e == radZ f) (e.ux == f.ux && e.uy == f.uy) (e.ux == f.vx && e.uy == f.vy) (e.vx == f.ux && e.vy == f.uy) (e.vx == f.vx && e.vy == f.vy)
  else countC (aaE e f).delta (aaE e f).list
def countD (e f : Ed) : Int :=
  if !(e.ok && f.ok) then 0
  else if e.k = 1 then
    if e.pt then onZ f e.ax e.ay
    else if f.k = 1 then (if f.pt then onZ e f.ax f.ay else linesZ e.ax e.ay e.bx e.by' f.ax f.ay f.bx f.by')
    else crossD e f
  else if f.k = 1 then (if f.pt then onZ e f.ax f.ay else crossD f e)
  else arcsD e f
theorem countE_eq (e f : Ed) : countE e f = countD e f := by
  unfold countE countD crossZ arcsZ crossD arcsD
  simp only [countZ_eq]
def rowA (k : Nat) : Ed := ⟨tz (k * 15), tz (k * 15 + 1), tz (k * 15 + 2), tz (k * 15 + 3), tz (k * 15 + 4), tz (k * 15 + 5), tz (k * 15 + 6)⟩
def rowB (k : Nat) : Ed := ⟨tz (k * 15 + 7), tz (k * 15 + 8), tz (k * 15 + 9), tz (k * 15 + 10), tz (k * 15 + 11), tz (k * 15 + 12), tz (k * 15 + 13)⟩
theorem tab_ok : ∀ k, k < 17 → countD (rowA k) (rowB k) = tz (k * 15 + 14) ∧ (countD (rowB k) (rowA k) == 0) = (tz (k * 15 + 14) == 0) := by decide +kernel
theorem tab_count (k : Nat) (h : k < 17) : countE (rowA k) (rowB k) = tz (k * 15 + 14) := by rw [countE_eq]; exact (tab_ok k h).1
theorem tab_edges (k : Nat) (h : k < 17) : (countE (rowB k) (rowA k) == 0) = (tz (k * 15 + 14) == 0) := by rw [countE_eq]; exact (tab_ok k h).2
end Go.Proofs.YtmmhiiiaccldmaaGreat

namespace Go.Proofs.YtmmhiiiaccldmaaGreat
open Go.RowKit
attribute [local go_sem] Gives givesU

set_option maxRecDepth 100000 in
set_option maxHeartbeats 1000000 in
theorem kind_point (ax ay : Int) (w : World) : Calls Tryz.prog 132 #[.agg #[.int .i64 ax, .int .i64 ay]] w fun e w' => e = .returned (.int .i64 0) ∧ Ext w w' := by
  go_enter Tryz.func132, Tryz.ntmps132
  go_wp2
  go_ret
  exact ⟨rfl, bxx⟩
set_option maxRecDepth 100000 in
set_option maxHeartbeats 1000000 in
theorem kind_line (ax ay bx by' : Int) (w : World) : Calls Tryz.prog 133 #[.agg #[.int .i64 ax, .int .i64 ay, .int .i64 bx, .int .i64 by']] w fun e w' => e = .returned (.int .i64 1) ∧ Ext w w' := by
  go_enter Tryz.func133, Tryz.ntmps133
  go_wp2
  go_ret
  exact ⟨rfl, bxx⟩
set_option maxRecDepth 100000 in
set_option maxHeartbeats 1000000 in
theorem kind_arc (cx cy r ux uy vx vy : Int) (w : World) : Calls Tryz.prog 134 #[.agg #[.int .i64 cx, .int .i64 cy, .int .i64 r, .int .i64 ux, .int .i64 uy, .int .i64 vx, .int .i64 vy]] w fun e w' => e = .returned (.int .i64 2) ∧ Ext w w' := by
  go_enter Tryz.func134, Tryz.ntmps134
  go_wp2
  go_ret
  exact ⟨rfl, bxx⟩

theorem checkZ_ne {e : Ed} (h : e.ok = false) : checkZ e ≠ 0 := by
  unfold checkZ
  rw [h]
  simp only [Bool.false_eq_true, if_false]
  split <;> omega
set_option maxRecDepth 100000 in
set_option maxHeartbeats 4000000 in
theorem Count_bad1 (k ax ay bx by' cx cy k' dx dy ex ey fx fy : Int) (w : World) (h : (Ed.mk k ax ay bx by' cx cy).ok = false) :
    Calls Tryz.prog 8 #[.agg #[.int .i64 k, .int .i64 ax, .int .i64 ay, .int .i64 bx, .int .i64 by', .int .i64 cx, .int .i64 cy], .agg #[.int .i64 k', .int .i64 dx, .int .i64 dy, .int .i64 ex, .int .i64 ey, .int .i64 fx, .int .i64 fy]] w fun e w' => e = .returned (.int .i64 0) ∧ Ext w w' := by
  have CA := fun w => edge_Check_bad k ax ay bx by' cx cy w h
  have hz := checkZ_ne h
  obtain ⟨z, Z⟩ : ∃ z, Hid (checkZ (Ed.mk k ax ay bx by' cx cy) = z) := ⟨_, rfl⟩
  rw [Z.out] at CA hz
  have CA := Lib.hid CA
  have hzb : (z == 0) = false := by simpa using hz
  clear h hz
  go_enter Tryz.func8, Tryz.ntmps8
  go_wp2_with fail
  refine (CA.out _).mono ?_
  rintro e w1 ⟨rfl, hx⟩
  have hx0 : Ext w w1 := Ext.step bxx hx
  have hs0 := hx0.size
  have hz_w1 : w.heap.size + 2 ≤ w1.heap.size := Nat.le_trans omm hx.size
  obtain ⟨hl_w1_0, hk_w1_0, hf_w1_0⟩ := extK hx (w.heap.size)
  obtain ⟨hl_w1_1, hk_w1_1, hf_w1_1⟩ := extK hx (w.heap.size + 1)
  clear hx
  go_wp2
  go_ret
  exact ⟨rfl, bxx⟩
set_option maxRecDepth 100000 in
set_option maxHeartbeats 4000000 in
theorem Count_bad2 (k ax ay bx by' cx cy k' dx dy ex ey fx fy : Int) (w : World) (h0 : (Ed.mk k ax ay bx by' cx cy).ok = true) (h : (Ed.mk k' dx dy ex ey fx fy).ok = false) :
    Calls Tryz.prog 8 #[.agg #[.int .i64 k, .int .i64 ax, .int .i64 ay, .int .i64 bx, .int .i64 by', .int .i64 cx, .int .i64 cy], .agg #[.int .i64 k', .int .i64 dx, .int .i64 dy, .int .i64 ex, .int .i64 ey, .int .i64 fx, .int .i64 fy]] w fun e w' => e = .returned (.int .i64 0) ∧ Ext w w' := by
  have CO := Lib.hid (fun w => edge_Check_ok k ax ay bx by' cx cy w h0)
  have CA := fun w => edge_Check_bad k' dx dy ex ey fx fy w h
  have hz := checkZ_ne h
  obtain ⟨z, Z⟩ : ∃ z, Hid (checkZ (Ed.mk k' dx dy ex ey fx fy) = z) := ⟨_, rfl⟩
  rw [Z.out] at CA hz
  have CA := Lib.hid CA
  have hzb : (z == 0) = false := by simpa using hz
  clear h hz h0
  go_enter Tryz.func8, Tryz.ntmps8
  go_wp2_with fail
  refine (CO.out _).mono ?_
  rintro e w1 ⟨rfl, hx⟩
  have hx0 : Ext w w1 := Ext.step bxx hx
  have hs0 := hx0.size
  have hz_w1 : w.heap.size + 2 ≤ w1.heap.size := Nat.le_trans omm hx.size
  obtain ⟨hl_w1_0, hk_w1_0, hf_w1_0⟩ := extK hx (w.heap.size)
  obtain ⟨hl_w1_1, hk_w1_1, hf_w1_1⟩ := extK hx (w.heap.size + 1)
  clear hx
  go_wp2_with fail
  refine (CA.out _).mono ?_
  rintro e w2 ⟨rfl, hx2⟩
  have hx3 : Ext w w2 := Ext.step hx0 hx2
  clear hx2
  go_wp2
  go_ret
  exact ⟨rfl, bxx⟩
end Go.Proofs.YtmmhiiiaccldmaaGreat

namespace Go.Proofs.YtmmhiiiaccldmaaGreat
open Go.RowKit
attribute [local go_sem] Gives givesU

theorem as_line_point (v : Value) (w : World) : (Instr.typeAssert (.iface 58 v) 51 55 true).run Tryz.prog w = .ok (.tuple #[.agg #[.int .i64 0, .int .i64 0], .bool false]) w := by kernel_rfl
theorem as_line_line (v : Value) (w : World) : (Instr.typeAssert (.iface 58 v) 51 58 true).run Tryz.prog w = .ok (.tuple #[v, .bool true]) w := by kernel_rfl
theorem as_arc_line (v : Value) (w : World) : (Instr.typeAssert (.iface 62 v) 51 58 true).run Tryz.prog w = .ok (.tuple #[.agg #[.int .i64 0, .int .i64 0, .int .i64 0, .int .i64 0], .bool false]) w := by kernel_rfl
theorem as_arc_point (v : Value) (w : World) : (Instr.typeAssert (.iface 62 v) 51 55 true).run Tryz.prog w = .ok (.tuple #[.agg #[.int .i64 0, .int .i64 0], .bool false]) w := by kernel_rfl
theorem as_arc_arc (v : Value) (w : World) : (Instr.typeAssert (.iface 62 v) 51 62 true).run Tryz.prog w = .ok (.tuple #[v, .bool true]) w := by kernel_rfl
theorem as_arc_must (v : Value) (w : World) : (Instr.typeAssert (.iface 62 v) 51 62 false).run Tryz.prog w = .ok v w := by kernel_rfl
theorem as_point_point (v : Value) (w : World) : (Instr.typeAssert (.iface 55 v) 51 55 true).run Tryz.prog w = .ok (.tuple #[v, .bool true]) w := by kernel_rfl

set_option maxRecDepth 100000 in
set_option maxHeartbeats 4000000 in
theorem Count_lines (ax ay bx by' cx cy dx dy ex ey fx fy : Int) (w : World) (h1 : (Ed.mk 1 ax ay bx by' cx cy).ok = true) (h2 : (Ed.mk 1 dx dy ex ey fx fy).ok = true) (n1 : ¬ (ax = bx ∧ ay = by')) (n2 : ¬ (dx = ex ∧ dy = ey)) :
    Calls Tryz.prog 8 #[.agg #[.int .i64 1, .int .i64 ax, .int .i64 ay, .int .i64 bx, .int .i64 by', .int .i64 cx, .int .i64 cy], .agg #[.int .i64 1, .int .i64 dx, .int .i64 dy, .int .i64 ex, .int .i64 ey, .int .i64 fx, .int .i64 fy]] w fun e w' => e = .returned (.int .i64 (linesZ ax ay bx by' dx dy ex ey)) ∧ Ext w w' := by
  obtain ⟨⟨c1, c2⟩, ⟨c3, c4⟩, _, _⟩ := ok_right h1
  obtain ⟨⟨c5, c6⟩, ⟨c7, c8⟩, _, _⟩ := ok_right h2
  simp only at c1 c2 c3 c4 c5 c6 c7 c8
  have BL := Lib.hid (fun w => meet_bothLines ax ay bx by' dx dy ex ey w c1 c2 c3 c4 c5 c6 c7 c8)
  have C1 := Lib.hid (fun w => edge_Check_ok 1 ax ay bx by' cx cy w h1)
  have C2 := Lib.hid (fun w => edge_Check_ok 1 dx dy ex ey fx fy w h2)
  have F1 := Lib.hid (fun w => figured_line ax ay bx by' cx cy w n1)
  have F2 := Lib.hid (fun w => figured_line dx dy ex ey fx fy w n2)
  clear h1 h2 n1 n2 c1 c2 c3 c4 c5 c6 c7 c8
  obtain ⟨res, R⟩ : ∃ z, Hid (linesZ ax ay bx by' dx dy ex ey = z) := ⟨_, rfl⟩
  rw [R.out] at BL ⊢
  have a1 := as_line_point
  have a2 := as_line_line
  go_enter Tryz.func8, Tryz.ntmps8
  go_wp2_with fail
  refine (C1.out _).mono ?_
  rintro e w1 ⟨rfl, hx⟩
  have hx0 : Ext w w1 := Ext.step bxx hx
  have hs0 := hx0.size
  have hz_w1 : w.heap.size + 2 ≤ w1.heap.size := Nat.le_trans omm hx.size
  obtain ⟨hl_w1_0, hk_w1_0, hf_w1_0⟩ := extK hx (w.heap.size)
  obtain ⟨hl_w1_1, hk_w1_1, hf_w1_1⟩ := extK hx (w.heap.size + 1)
  clear hx
  go_wp2_with fail
  refine (C2.out _).mono ?_
  rintro e w2 ⟨rfl, hx⟩
  have hx2 : Ext w w2 := Ext.step hx0 hx
  have hs2 := hx2.size
  have hz_w2 : w.heap.size + 2 ≤ w2.heap.size := Nat.le_trans omm hx.size
  obtain ⟨hl_w2_0, hk_w2_0, hf_w2_0⟩ := extK hx (w.heap.size)
  obtain ⟨hl_w2_1, hk_w2_1, hf_w2_1⟩ := extK hx (w.heap.size + 1)
  clear hx
  go_wp2_with fail
  refine wp_FS (fun W => W.cell? ⟨w.heap.size, 0, none⟩ = some (.int .i64 1) ∧ W.cell? ⟨w.heap.size, 1, none⟩ = some (.int .i64 ax) ∧ W.cell? ⟨w.heap.size, 2, none⟩ = some (.int .i64 ay) ∧ W.cell? ⟨w.heap.size, 3, none⟩ = some (.int .i64 bx) ∧ W.cell? ⟨w.heap.size, 4, none⟩ = some (.int .i64 by') ∧ W.cell? ⟨w.heap.size, 5, none⟩ = some (.int .i64 cx) ∧ W.cell? ⟨w.heap.size, 6, none⟩ = some (.int .i64 cy) ∧ W.cell? ⟨w.heap.size + 1, 0, none⟩ = some (.int .i64 1) ∧ W.cell? ⟨w.heap.size + 1, 1, none⟩ = some (.int .i64 dx) ∧ W.cell? ⟨w.heap.size + 1, 2, none⟩ = some (.int .i64 dy) ∧ W.cell? ⟨w.heap.size + 1, 3, none⟩ = some (.int .i64 ex) ∧ W.cell? ⟨w.heap.size + 1, 4, none⟩ = some (.int .i64 ey) ∧ W.cell? ⟨w.heap.size + 1, 5, none⟩ = some (.int .i64 fx) ∧ W.cell? ⟨w.heap.size + 1, 6, none⟩ = some (.int .i64 fy)) ?_
  repeat (first | refine F_s ?_ | refine F_r ?_)
  (refine F_call (v := .iface 58 (.agg #[.int .i64 ax, .int .i64 ay, .int .i64 bx, .int .i64 by'])) (by rfl) (by rfl) ?_ ?_; (· (intro W hW; (try dsimp only at hW); go_simp; refine (F1.out _).mono ?_; rintro e w' ⟨rfl, hx⟩; exact ⟨_, rfl, rfl, hx⟩))); refine F_put ?_
  repeat (first | refine F_s ?_ | refine F_r ?_)
  (refine F_call (v := .iface 58 (.agg #[.int .i64 dx, .int .i64 dy, .int .i64 ex, .int .i64 ey])) (by rfl) (by rfl) ?_ ?_; (· (intro W hW; (try dsimp only at hW); go_simp; refine (F2.out _).mono ?_; rintro e w' ⟨rfl, hx⟩; exact ⟨_, rfl, rfl, hx⟩))); refine F_put ?_
  repeat (first | refine F_s ?_ | refine F_r ?_)
  rintro W ⟨hx, hc⟩
  have hx3 : Ext w W := Ext.step hx2 hx
  clear hx hc
  go_wp2_with fail
  refine (kind_line ax ay bx by' _).mono ?_
  rintro e w4 ⟨rfl, hx⟩
  have hx4 : Ext w w4 := Ext.step hx3 hx
  clear hx
  go_wp2_with fail
  refine (kind_line dx dy ex ey _).mono ?_
  rintro e w5 ⟨rfl, hx⟩
  have hx5 : Ext w w5 := Ext.step hx4 hx
  have hs5 := hx5.size
  clear hx
  go_wp2_with fail
  refine (BL.out _).mono ?_
  rintro e w6 ⟨rfl, hx⟩
  have hx6 : Ext w w6 := Ext.step bxx hx
  go_wp2
  go_ret
  exact ⟨rfl, hx6⟩
end Go.Proofs.YtmmhiiiaccldmaaGreat

namespace Go.Proofs.YtmmhiiiaccldmaaGreat
open Go.RowKit
attribute [local go_sem] Gives givesU

set_option maxRecDepth 100000 in
set_option maxHeartbeats 4000000 in
theorem Count_point_point (k ax ay bx by' cx cy k' dx dy ex ey fx fy px py f1 f2 : Int) (res : Bool) (w : World)
    (C1 : ∀ w : World, Calls Tryz.prog 17 #[.agg #[.int .i64 k, .int .i64 ax, .int .i64 ay, .int .i64 bx, .int .i64 by', .int .i64 cx, .int .i64 cy]] w fun e w' => e = .returned (.int .i64 0) ∧ Ext w w')
    (C2 : ∀ w : World, Calls Tryz.prog 17 #[.agg #[.int .i64 k', .int .i64 dx, .int .i64 dy, .int .i64 ex, .int .i64 ey, .int .i64 fx, .int .i64 fy]] w fun e w' => e = .returned (.int .i64 0) ∧ Ext w w')
    (F1 : ∀ w : World, Calls Tryz.prog 18 #[.agg #[.int .i64 k, .int .i64 ax, .int .i64 ay, .int .i64 bx, .int .i64 by', .int .i64 cx, .int .i64 cy]] w fun e w' => e = .returned (.iface 55 (.agg #[.int .i64 px, .int .i64 py])) ∧ Ext w w')
    (F2 : ∀ w : World, Calls Tryz.prog 18 #[.agg #[.int .i64 k', .int .i64 dx, .int .i64 dy, .int .i64 ex, .int .i64 ey, .int .i64 fx, .int .i64 fy]] w fun e w' => e = .returned (.iface 55 (.agg #[.int .i64 f1, .int .i64 f2])) ∧ Ext w w')
    (BL : ∀ w : World, Calls Tryz.prog 19 #[.agg #[.int .i64 k', .int .i64 dx, .int .i64 dy, .int .i64 ex, .int .i64 ey, .int .i64 fx, .int .i64 fy], .agg #[.int .i64 px, .int .i64 py]] w fun e w' => e = .returned (.bool res) ∧ Ext w w') :
    Calls Tryz.prog 8 #[.agg #[.int .i64 k, .int .i64 ax, .int .i64 ay, .int .i64 bx, .int .i64 by', .int .i64 cx, .int .i64 cy], .agg #[.int .i64 k', .int .i64 dx, .int .i64 dy, .int .i64 ex, .int .i64 ey, .int .i64 fx, .int .i64 fy]] w fun e w' => e = .returned (.int .i64 (if res then 1 else 0)) ∧ Ext w w' := by
  have C1 := Lib.hid C1
  have C2 := Lib.hid C2
  have F1 := Lib.hid F1
  have F2 := Lib.hid F2
  have BL := Lib.hid BL
  have a1 := as_point_point
  go_enter Tryz.func8, Tryz.ntmps8
  go_wp2_with fail
  refine (C1.out _).mono ?_
  rintro e w1 ⟨rfl, hx⟩
  have hx0 : Ext w w1 := Ext.step bxx hx
  have hs0 := hx0.size
  have hz_w1 : w.heap.size + 2 ≤ w1.heap.size := Nat.le_trans omm hx.size
  obtain ⟨hl_w1_0, hk_w1_0, hf_w1_0⟩ := extK hx (w.heap.size)
  obtain ⟨hl_w1_1, hk_w1_1, hf_w1_1⟩ := extK hx (w.heap.size + 1)
  clear hx
  go_wp2_with fail
  refine (C2.out _).mono ?_
  rintro e w2 ⟨rfl, hx⟩
  have hx2 : Ext w w2 := Ext.step hx0 hx
  have hs2 := hx2.size
  have hz_w2 : w.heap.size + 2 ≤ w2.heap.size := Nat.le_trans omm hx.size
  obtain ⟨hl_w2_0, hk_w2_0, hf_w2_0⟩ := extK hx (w.heap.size)
  obtain ⟨hl_w2_1, hk_w2_1, hf_w2_1⟩ := extK hx (w.heap.size + 1)
  clear hx
  go_wp2_with fail
  refine wp_FS (fun W => W.cell? ⟨w.heap.size, 0, none⟩ = some (.int .i64 k) ∧ W.cell? ⟨w.heap.size, 1, none⟩ = some (.int .i64 ax) ∧ W.cell? ⟨w.heap.size, 2, none⟩ = some (.int .i64 ay) ∧ W.cell? ⟨w.heap.size, 3, none⟩ = some (.int .i64 bx) ∧ W.cell? ⟨w.heap.size, 4, none⟩ = some (.int .i64 by') ∧ W.cell? ⟨w.heap.size, 5, none⟩ = some (.int .i64 cx) ∧ W.cell? ⟨w.heap.size, 6, none⟩ = some (.int .i64 cy) ∧ W.cell? ⟨w.heap.size + 1, 0, none⟩ = some (.int .i64 k') ∧ W.cell? ⟨w.heap.size + 1, 1, none⟩ = some (.int .i64 dx) ∧ W.cell? ⟨w.heap.size + 1, 2, none⟩ = some (.int .i64 dy) ∧ W.cell? ⟨w.heap.size + 1, 3, none⟩ = some (.int .i64 ex) ∧ W.cell? ⟨w.heap.size + 1, 4, none⟩ = some (.int .i64 ey) ∧ W.cell? ⟨w.heap.size + 1, 5, none⟩ = some (.int .i64 fx) ∧ W.cell? ⟨w.heap.size + 1, 6, none⟩ = some (.int .i64 fy)) ?_
  repeat (first | refine F_s ?_ | refine F_r ?_)
  (refine F_call (v := .iface 55 (.agg #[.int .i64 px, .int .i64 py])) (by rfl) (by rfl) ?_ ?_; (· (intro W hW; (try dsimp only at hW); go_simp; refine (F1.out _).mono ?_; rintro e w' ⟨rfl, hx⟩; exact ⟨_, rfl, rfl, hx⟩))); refine F_put ?_
  repeat (first | refine F_s ?_ | refine F_r ?_)
  (refine F_call (v := .iface 55 (.agg #[.int .i64 f1, .int .i64 f2])) (by rfl) (by rfl) ?_ ?_; (· (intro W hW; (try dsimp only at hW); go_simp; refine (F2.out _).mono ?_; rintro e w' ⟨rfl, hx⟩; exact ⟨_, rfl, rfl, hx⟩))); refine F_put ?_
  repeat (first | refine F_s ?_ | refine F_r ?_)
  rintro W ⟨hx, hc⟩
  have hx3 : Ext w W := Ext.step hx2 hx
  have hs3 := hx.size
  clear hx
  (try dsimp only at hc)
  go_wp2_with fail
  refine (kind_point _ _ _).mono ?_
  rintro e w4 ⟨rfl, hx⟩
  have hx4 : Ext w w4 := Ext.step hx3 hx
  have hs4 := hx.size
  have hz_w4 : w.heap.size + 2 ≤ w4.heap.size := Nat.le_trans omm hx.size
  obtain ⟨hl_w4_0, hk_w4_0, hf_w4_0⟩ := extK hx (w.heap.size)
  obtain ⟨hl_w4_1, hk_w4_1, hf_w4_1⟩ := extK hx (w.heap.size + 1)
  clear hx
  go_wp2_with fail
  refine (kind_point _ _ _).mono ?_
  rintro e w5 ⟨rfl, hx⟩
  have hx5 : Ext w w5 := Ext.step hx4 hx
  have hs5 := hx5.size
  have hz_w5 : w.heap.size + 2 ≤ w5.heap.size := Nat.le_trans omm hx.size
  obtain ⟨hl_w5_0, hk_w5_0, hf_w5_0⟩ := extK hx (w.heap.size)
  obtain ⟨hl_w5_1, hk_w5_1, hf_w5_1⟩ := extK hx (w.heap.size + 1)
  clear hx
  go_wp2_with fail
  refine (BL.out _).mono ?_
  rintro e w6 ⟨rfl, hx⟩
  have hx6 : Ext w w6 := Ext.step bxx hx
  cases res with
  | true =>
    go_wp2
    go_ret
    exact ⟨rfl, hx6⟩
  | false =>
    go_wp2
    go_ret
    exact ⟨rfl, hx6⟩
set_option maxRecDepth 100000 in
set_option maxHeartbeats 4000000 in
theorem Count_point_line (k ax ay bx by' cx cy k' dx dy ex ey fx fy px py f1 f2 f3 f4 : Int) (res : Bool) (w : World)
    (C1 : ∀ w : World, Calls Tryz.prog 17 #[.agg #[.int .i64 k, .int .i64 ax, .int .i64 ay, .int .i64 bx, .int .i64 by', .int .i64 cx, .int .i64 cy]] w fun e w' => e = .returned (.int .i64 0) ∧ Ext w w')
    (C2 : ∀ w : World, Calls Tryz.prog 17 #[.agg #[.int .i64 k', .int .i64 dx, .int .i64 dy, .int .i64 ex, .int .i64 ey, .int .i64 fx, .int .i64 fy]] w fun e w' => e = .returned (.int .i64 0) ∧ Ext w w')
    (F1 : ∀ w : World, Calls Tryz.prog 18 #[.agg #[.int .i64 k, .int .i64 ax, .int .i64 ay, .int .i64 bx, .int .i64 by', .int .i64 cx, .int .i64 cy]] w fun e w' => e = .returned (.iface 55 (.agg #[.int .i64 px, .int .i64 py])) ∧ Ext w w')
    (F2 : ∀ w : World, Calls Tryz.prog 18 #[.agg #[.int .i64 k', .int .i64 dx, .int .i64 dy, .int .i64 ex, .int .i64 ey, .int .i64 fx, .int .i64 fy]] w fun e w' => e = .returned (.iface 58 (.agg #[.int .i64 f1, .int .i64 f2, .int .i64 f3, .int .i64 f4])) ∧ Ext w w')
    (BL : ∀ w : World, Calls Tryz.prog 19 #[.agg #[.int .i64 k', .int .i64 dx, .int .i64 dy, .int .i64 ex, .int .i64 ey, .int .i64 fx, .int .i64 fy], .agg #[.int .i64 px, .int .i64 py]] w fun e w' => e = .returned (.bool res) ∧ Ext w w') :
    Calls Tryz.prog 8 #[.agg #[.int .i64 k, .int .i64 ax, .int .i64 ay, .int .i64 bx, .int .i64 by', .int .i64 cx, .int .i64 cy], .agg #[.int .i64 k', .int .i64 dx, .int .i64 dy, .int .i64 ex, .int .i64 ey, .int .i64 fx, .int .i64 fy]] w fun e w' => e = .returned (.int .i64 (if res then 1 else 0)) ∧ Ext w w' := by
  have C1 := Lib.hid C1
  have C2 := Lib.hid C2
  have F1 := Lib.hid F1
  have F2 := Lib.hid F2
  have BL := Lib.hid BL
  have a1 := as_point_point
  go_enter Tryz.func8, Tryz.ntmps8
  go_wp2_with fail
  refine (C1.out _).mono ?_
  rintro e w1 ⟨rfl, hx⟩
  have hx0 : Ext w w1 := Ext.step bxx hx
  have hs0 := hx0.size
  have hz_w1 : w.heap.size + 2 ≤ w1.heap.size := Nat.le_trans omm hx.size
  obtain ⟨hl_w1_0, hk_w1_0, hf_w1_0⟩ := extK hx (w.heap.size)
  obtain ⟨hl_w1_1, hk_w1_1, hf_w1_1⟩ := extK hx (w.heap.size + 1)
  clear hx
  go_wp2_with fail
  refine (C2.out _).mono ?_
  rintro e w2 ⟨rfl, hx⟩
  have hx2 : Ext w w2 := Ext.step hx0 hx
  have hs2 := hx2.size
  have hz_w2 : w.heap.size + 2 ≤ w2.heap.size := Nat.le_trans omm hx.size
  obtain ⟨hl_w2_0, hk_w2_0, hf_w2_0⟩ := extK hx (w.heap.size)
  obtain ⟨hl_w2_1, hk_w2_1, hf_w2_1⟩ := extK hx (w.heap.size + 1)
  clear hx
  go_wp2_with fail
  refine wp_FS (fun W => W.cell? ⟨w.heap.size, 0, none⟩ = some (.int .i64 k) ∧ W.cell? ⟨w.heap.size, 1, none⟩ = some (.int .i64 ax) ∧ W.cell? ⟨w.heap.size, 2, none⟩ = some (.int .i64 ay) ∧ W.cell? ⟨w.heap.size, 3, none⟩ = some (.int .i64 bx) ∧ W.cell? ⟨w.heap.size, 4, none⟩ = some (.int .i64 by') ∧ W.cell? ⟨w.heap.size, 5, none⟩ = some (.int .i64 cx) ∧ W.cell? ⟨w.heap.size, 6, none⟩ = some (.int .i64 cy) ∧ W.cell? ⟨w.heap.size + 1, 0, none⟩ = some (.int .i64 k') ∧ W.cell? ⟨w.heap.size + 1, 1, none⟩ = some (.int .i64 dx) ∧ W.cell? ⟨w.heap.size + 1, 2, none⟩ = some (.int .i64 dy) ∧ W.cell? ⟨w.heap.size + 1, 3, none⟩ = some (.int .i64 ex) ∧ W.cell? ⟨w.heap.size + 1, 4, none⟩ = some (.int .i64 ey) ∧ W.cell? ⟨w.heap.size + 1, 5, none⟩ = some (.int .i64 fx) ∧ W.cell? ⟨w.heap.size + 1, 6, none⟩ = some (.int .i64 fy)) ?_
  repeat (first | refine F_s ?_ | refine F_r ?_)
  (refine F_call (v := .iface 55 (.agg #[.int .i64 px, .int .i64 py])) (by rfl) (by rfl) ?_ ?_; (· (intro W hW; (try dsimp only at hW); go_simp; refine (F1.out _).mono ?_; rintro e w' ⟨rfl, hx⟩; exact ⟨_, rfl, rfl, hx⟩))); refine F_put ?_
  repeat (first | refine F_s ?_ | refine F_r ?_)
  (refine F_call (v := .iface 58 (.agg #[.int .i64 f1, .int .i64 f2, .int .i64 f3, .int .i64 f4])) (by rfl) (by rfl) ?_ ?_; (· (intro W hW; (try dsimp only at hW); go_simp; refine (F2.out _).mono ?_; rintro e w' ⟨rfl, hx⟩; exact ⟨_, rfl, rfl, hx⟩))); refine F_put ?_
  repeat (first | refine F_s ?_ | refine F_r ?_)
  rintro W ⟨hx, hc⟩
  have hx3 : Ext w W := Ext.step hx2 hx
  have hs3 := hx.size
  clear hx
  (try dsimp only at hc)
  go_wp2_with fail
  refine (kind_point _ _ _).mono ?_
  rintro e w4 ⟨rfl, hx⟩
  have hx4 : Ext w w4 := Ext.step hx3 hx
  have hs4 := hx.size
  have hz_w4 : w.heap.size + 2 ≤ w4.heap.size := Nat.le_trans omm hx.size
  obtain ⟨hl_w4_0, hk_w4_0, hf_w4_0⟩ := extK hx (w.heap.size)
  obtain ⟨hl_w4_1, hk_w4_1, hf_w4_1⟩ := extK hx (w.heap.size + 1)
  clear hx
  go_wp2_with fail
  refine (kind_line _ _ _ _ _).mono ?_
  rintro e w5 ⟨rfl, hx⟩
  have hx5 : Ext w w5 := Ext.step hx4 hx
  have hs5 := hx5.size
  have hz_w5 : w.heap.size + 2 ≤ w5.heap.size := Nat.le_trans omm hx.size
  obtain ⟨hl_w5_0, hk_w5_0, hf_w5_0⟩ := extK hx (w.heap.size)
  obtain ⟨hl_w5_1, hk_w5_1, hf_w5_1⟩ := extK hx (w.heap.size + 1)
  clear hx
  go_wp2_with fail
  refine (BL.out _).mono ?_
  rintro e w6 ⟨rfl, hx⟩
  have hx6 : Ext w w6 := Ext.step bxx hx
  cases res with
  | true =>
    go_wp2
    go_ret
    exact ⟨rfl, hx6⟩
  | false =>
    go_wp2
    go_ret
    exact ⟨rfl, hx6⟩
set_option maxRecDepth 100000 in
set_option maxHeartbeats 4000000 in
theorem Count_point_arc (k ax ay bx by' cx cy k' dx dy ex ey fx fy px py f1 f2 f3 f4 f5 f6 f7 : Int) (res : Bool) (w : World)
    (C1 : ∀ w : World, Calls Tryz.prog 17 #[.agg #[.int .i64 k, .int .i64 ax, .int .i64 ay, .int .i64 bx, .int .i64 by', .int .i64 cx, .int .i64 cy]] w fun e w' => e = .returned (.int .i64 0) ∧ Ext w w')
    (C2 : ∀ w : World, Calls Tryz.prog 17 #[.agg #[.int .i64 k', .int .i64 dx, .int .i64 dy, .int .i64 ex, .int .i64 ey, .int .i64 fx, .int .i64 fy]] w fun e w' => e = .returned (.int .i64 0) ∧ Ext w w')
    (F1 : ∀ w : World, Calls Tryz.prog 18 #[.agg #[.int .i64 k, .int .i64 ax, .int .i64 ay, .int .i64 bx, .int .i64 by', .int .i64 cx, .int .i64 cy]] w fun e w' => e = .returned (.iface 55 (.agg #[.int .i64 px, .int .i64 py])) ∧ Ext w w')
    (F2 : ∀ w : World, Calls Tryz.prog 18 #[.agg #[.int .i64 k', .int .i64 dx, .int .i64 dy, .int .i64 ex, .int .i64 ey, .int .i64 fx, .int .i64 fy]] w fun e w' => e = .returned (.iface 62 (.agg #[.int .i64 f1, .int .i64 f2, .int .i64 f3, .int .i64 f4, .int .i64 f5, .int .i64 f6, .int .i64 f7])) ∧ Ext w w')
    (BL : ∀ w : World, Calls Tryz.prog 19 #[.agg #[.int .i64 k', .int .i64 dx, .int .i64 dy, .int .i64 ex, .int .i64 ey, .int .i64 fx, .int .i64 fy], .agg #[.int .i64 px, .int .i64 py]] w fun e w' => e = .returned (.bool res) ∧ Ext w w') :
    Calls Tryz.prog 8 #[.agg #[.int .i64 k, .int .i64 ax, .int .i64 ay, .int .i64 bx, .int .i64 by', .int .i64 cx, .int .i64 cy], .agg #[.int .i64 k', .int .i64 dx, .int .i64 dy, .int .i64 ex, .int .i64 ey, .int .i64 fx, .int .i64 fy]] w fun e w' => e = .returned (.int .i64 (if res then 1 else 0)) ∧ Ext w w' := by
  have C1 := Lib.hid C1
  have C2 := Lib.hid C2
  have F1 := Lib.hid F1
  have F2 := Lib.hid F2
  have BL := Lib.hid BL
  have a1 := as_point_point
  go_enter Tryz.func8, Tryz.ntmps8
  go_wp2_with fail
  refine (C1.out _).mono ?_
  rintro e w1 ⟨rfl, hx⟩
  have hx0 : Ext w w1 := Ext.step bxx hx
  have hs0 := hx0.size
  have hz_w1 : w.heap.size + 2 ≤ w1.heap.size := Nat.le_trans omm hx.size
  obtain ⟨hl_w1_0, hk_w1_0, hf_w1_0⟩ := extK hx (w.heap.size)
  obtain ⟨hl_w1_1, hk_w1_1, hf_w1_1⟩ := extK hx (w.heap.size + 1)
  clear hx
  go_wp2_with fail
  refine (C2.out _).mono ?_
  rintro e w2 ⟨rfl, hx⟩
  have hx2 : Ext w w2 := Ext.step hx0 hx
  have hs2 := hx2.size
  have hz_w2 : w.heap.size + 2 ≤ w2.heap.size := Nat.le_trans omm hx.size
  obtain ⟨hl_w2_0, hk_w2_0, hf_w2_0⟩ := extK hx (w.heap.size)
  obtain ⟨hl_w2_1, hk_w2_1, hf_w2_1⟩ := extK hx (w.heap.size + 1)
  clear hx
  go_wp2_with fail
  refine wp_FS (fun W => W.cell? ⟨w.heap.size, 0, none⟩ = some (.int .i64 k) ∧ W.cell? ⟨w.heap.size, 1, none⟩ = some (.int .i64 ax) ∧ W.cell? ⟨w.heap.size, 2, none⟩ = some (.int .i64 ay) ∧ W.cell? ⟨w.heap.size, 3, none⟩ = some (.int .i64 bx) ∧ W.cell? ⟨w.heap.size, 4, none⟩ = some (.int .i64 by') ∧ W.cell? ⟨w.heap.size, 5, none⟩ = some (.int .i64 cx) ∧ W.cell? ⟨w.heap.size, 6, none⟩ = some (.int .i64 cy) ∧ W.cell? ⟨w.heap.size + 1, 0, none⟩ = some (.int .i64 k') ∧ W.cell? ⟨w.heap.size + 1, 1, none⟩ = some (.int .i64 dx) ∧ W.cell? ⟨w.heap.size + 1, 2, none⟩ = some (.int .i64 dy) ∧ W.cell? ⟨w.heap.size + 1, 3, none⟩ = some (.int .i64 ex) ∧ W.cell? ⟨w.heap.size + 1, 4, none⟩ = some (.int .i64 ey) ∧ W.cell? ⟨w.heap.size + 1, 5, none⟩ = some (.int .i64 fx) ∧ W.cell? ⟨w.heap.size + 1, 6, none⟩ = some (.int .i64 fy)) ?_
  repeat (first | refine F_s ?_ | refine F_r ?_)
  (refine F_call (v := .iface 55 (.agg #[.int .i64 px, .int .i64 py])) (by rfl) (by rfl) ?_ ?_; (· (intro W hW; (try dsimp only at hW); go_simp; refine (F1.out _).mono ?_; rintro e w' ⟨rfl, hx⟩; exact ⟨_, rfl, rfl, hx⟩))); refine F_put ?_
  repeat (first | refine F_s ?_ | refine F_r ?_)
  (refine F_call (v := .iface 62 (.agg #[.int .i64 f1, .int .i64 f2, .int .i64 f3, .int .i64 f4, .int .i64 f5, .int .i64 f6, .int .i64 f7])) (by rfl) (by rfl) ?_ ?_; (· (intro W hW; (try dsimp only at hW); go_simp; refine (F2.out _).mono ?_; rintro e w' ⟨rfl, hx⟩; exact ⟨_, rfl, rfl, hx⟩))); refine F_put ?_
  repeat (first | refine F_s ?_ | refine F_r ?_)
  rintro W ⟨hx, hc⟩
  have hx3 : Ext w W := Ext.step hx2 hx
  have hs3 := hx.size
  clear hx
  (try dsimp only at hc)
  go_wp2_with fail
  refine (kind_point _ _ _).mono ?_
  rintro e w4 ⟨rfl, hx⟩
  have hx4 : Ext w w4 := Ext.step hx3 hx
  have hs4 := hx.size
  have hz_w4 : w.heap.size + 2 ≤ w4.heap.size := Nat.le_trans omm hx.size
  obtain ⟨hl_w4_0, hk_w4_0, hf_w4_0⟩ := extK hx (w.heap.size)
  obtain ⟨hl_w4_1, hk_w4_1, hf_w4_1⟩ := extK hx (w.heap.size + 1)
  clear hx
  go_wp2_with fail
  refine (kind_arc _ _ _ _ _ _ _ _).mono ?_
  rintro e w5 ⟨rfl, hx⟩
  have hx5 : Ext w w5 := Ext.step hx4 hx
  have hs5 := hx5.size
  have hz_w5 : w.heap.size + 2 ≤ w5.heap.size := Nat.le_trans omm hx.size
  obtain ⟨hl_w5_0, hk_w5_0, hf_w5_0⟩ := extK hx (w.heap.size)
  obtain ⟨hl_w5_1, hk_w5_1, hf_w5_1⟩ := extK hx (w.heap.size + 1)
  clear hx
  go_wp2_with fail
  refine (BL.out _).mono ?_
  rintro e w6 ⟨rfl, hx⟩
  have hx6 : Ext w w6 := Ext.step bxx hx
  cases res with
  | true =>
    go_wp2
    go_ret
    exact ⟨rfl, hx6⟩
  | false =>
    go_wp2
    go_ret
    exact ⟨rfl, hx6⟩
end Go.Proofs.YtmmhiiiaccldmaaGreat
