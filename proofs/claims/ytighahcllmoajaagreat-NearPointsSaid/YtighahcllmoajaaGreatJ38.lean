/- Contract: r08.Quarter, r08.Point, by the kernel's walker. | Contracts: r05.Apply at any turn, r06.Arc, by the kernel's walker. | Contract: r06.Made, by the kernel's walker. | Contracts for the kernel's walker: root.Right, etchantref02.Same. | Plain: the edge that etchantref06 makes is valid. | Contract: r06.At, by the kernel's walker. | Plain: a made root against a whole number; the candidate of a line and an arc. -/
import Derived.Test.YtighahcllmoajaaGreatJ34
import Derived.Test.YtighahcllmoajaaGreatJ37
import Derived.Test.YtighahcllmoajaaGreatJ36
import Derived.Test.YtighahcllmoajaaGreatJ27
set_option linter.unusedVariables false
set_option linter.unusedSimpArgs false

namespace Go.Proofs.YtighahcllmoajaaGreat
open Go.RowKit

set_option maxRecDepth 100000 in
theorem dwithin_ok (dx dy fx fy tx ty : Int) : Fok Tryz.prog 130 [ptV dx dy c27, ptV fx fy c27, ptV tx ty c27] (.one (blV (wiB dx dy fx fy tx ty))) := by
  unfold wiB
  by_cases h : 0 ≤ fx * dy - fy * dx
  · rw [decide_eq_true h, Bool.true_and]
    exact fok [] [true] [pT (ge_T h)] (by kernel_rfl)
  · rw [decide_eq_false h]
    exact fok [] [false] [pF (ge_F h)] (by kernel_rfl)
def dWithin : Con where
  f := 130
  g := fun | [⟨true, [.i dx A, .i dy B]⟩, ⟨true, [.i fx C, .i fy D]⟩, ⟨true, [.i tx E, .i ty F]⟩] => if (A ≤ c27 ∧ B ≤ c27) ∧ (C ≤ c27 ∧ D ≤ c27) ∧ (E ≤ c27 ∧ F ≤ c27) then some (.one (blV (wiB dx dy fx fy tx ty)), []) else none | _ => none
  ok := by
    intro args res ps h hp
    split at h <;> try cases h
    split at h <;> cases h
    rename_i hb
    exact (dwithin_ok _ _ _ _ _ _).pre fun W => rvs_1 (pt_low hb.1.1 hb.1.2) (rvs_1 (pt_low hb.2.1.1 hb.2.1.2) (rvs_1 (pt_low hb.2.2.1 hb.2.2.2) rvs_0))
set_option maxRecDepth 100000 in
theorem dquarter_ok (e : Ed) (x y : Int) : Fok Tryz.prog 92 [edV e 3 c26, ptV x y c27] (.one (blV (inQ e x y))) := by
  by_cases hk : e.k = 3
  · have h1 : (e.k == 3) = true := by simpa using hk
    cases hz : (x == 0 && y == 0) with
    | true =>
      rw [show inQ e x y = false by unfold inQ; rw [hz]; rfl]
      exact fok [dWithin] [true, false] [pT h1, pF (neB_F hz)] (by kernel_rfl)
    | false =>
      rw [show inQ e x y = wiB x y (e.bx - e.cx) (e.by' - e.cy) (e.ax - e.cx) (e.ay - e.cy) by unfold inQ; rw [hz, if_pos hk]; rfl]
      exact fok [dWithin] [true, true] [pT h1, pT (neB_T hz)] (by kernel_rfl)
  · have h1 : (e.k == 3) = false := by simpa using hk
    cases hz : (x == 0 && y == 0) with
    | true =>
      rw [show inQ e x y = false by unfold inQ; rw [hz]; rfl]
      exact fok [dWithin] [false, false] [pF h1, pF (neB_F hz)] (by kernel_rfl)
    | false =>
      rw [show inQ e x y = wiB x y (e.ax - e.cx) (e.ay - e.cy) (e.bx - e.cx) (e.by' - e.cy) by unfold inQ; rw [hz, if_neg hk]; rfl]
      exact fok [dWithin] [false, true] [pF h1, pT (neB_T hz)] (by kernel_rfl)
def dQuarter : Con where
  f := 92
  g := fun | [⟨true, l⟩, ⟨true, [.i x A, .i y B]⟩] => if A ≤ c27 ∧ B ≤ c27 then (toEd l).map fun e => (.one (blV (inQ e x y)), [e.ok = true]) else none | _ => none
  ok := by
    intro args res ps h hp
    split at h <;> try cases h
    split at h <;> try cases h
    rename_i hb
    rename_i l x A y B
    cases he : toEd l with
    | none => simp [he] at h
    | some e =>
      simp only [he, Option.map_some, Option.some.injEq, Prod.mk.injEq] at h
      obtain ⟨rfl, rfl⟩ := h
      exact (dquarter_ok e x y).pre fun W => rvs_1 (ed_ok he hp.1) (rvs_1 (pt_low hb.1 hb.2) rvs_0)
/-- As the reference makes a fraction. -/
def fracD (add s c d : Int) : Rt := (ofP add s (mulP (ofZ c) (ofZ c)).1 (ofZ d)).1
theorem fracD_eq {add s c d : Int} (h : I64 c) : fracD add s c d = dR add s (c * c) d := by
  unfold fracD dR
  rw [mulP_sq h]
def KRP : List Con := [d01Of, d01Mul, d02Of, d06Chk, d06Rad, d05Right, dQuarter]
theorem le_T {a b : Int} (h : a ≤ b) : decide (a ≤ b) = true := by simpa using h
theorem le_F {a b : Int} (h : ¬ a ≤ b) : decide (a ≤ b) = false := by simpa using h
set_option maxRecDepth 100000 in
theorem dpoint_ok (e : Ed) (x y : Int) (hok : e.ok = true) (hc : coordB x y = true) : Fok Tryz.prog 14 [edV e 3 c26, ptV x y c26] (rsV (pointR e x y)) := by
  have P1 := pF (chk_F hok)
  have P2 := pF (coord_F hc)
  have e0 : pointR e x y = if e.k = 1 then lineR e x y else arcR e x y := by unfold pointR; rw [hok, hc]; rfl
  rw [e0]
  by_cases hk : e.k = 1
  · have hk1 : (e.k == 1) = true := by simpa using hk
    obtain ⟨⟨l1, l2⟩, ⟨l3, l4⟩, _⟩ := ok_right hok
    obtain ⟨x1, y1⟩ := coordB_iff.1 hc
    have iC : I64 ((e.bx - e.ax) * (y - e.ay) - (e.by' - e.ay) * (x - e.ax)) := (l3.sub l1).cross (y1.sub l2) (l4.sub l2) (x1.sub l1)
    rw [if_pos hk]
    unfold lineR
    split
    · rename_i h1
      exact fok KRP [false, false, true, false, true] [P2, P1, pT hk1, pF (gt_F (Int.not_lt.2 h1)), pT (le_T h1)] (by kernel_rfl)
    · rename_i h1
      split
      · rename_i h2
        exact fok KRP [false, false, true, true, false, false] [P2, P1, pT hk1, pT (gt_T (Int.not_le.1 h1)), pF (lt_F (Int.not_lt.2 h2)), pF (le_F h1)] (by kernel_rfl)
      · rename_i h2
        rw [← fracD_eq iC]
        exact fok KRP [false, false, true, true, true] [P2, P1, pT hk1, pT (gt_T (Int.not_le.1 h1)), pT (lt_T (Int.not_le.1 h2))] (by kernel_rfl)
  · have hk1 : (e.k == 1) = false := by simpa using hk
    rw [if_neg hk]
    unfold arcR
    split
    · rename_i hq
      by_cases h2 : radZ e * radZ e ≤ sqI (x - e.cx) (y - e.cy)
      · rw [if_pos h2, ← zero_sub' (radZ e)]
        exact fok KRP [false, false, false, true, true] [P2, P1, pF hk1, pP hok, pP hok, pT hq, pT (ge_T h2)] (by kernel_rfl)
      · rw [if_neg h2]
        exact fok KRP [false, false, false, true, false] [P2, P1, pF hk1, pP hok, pP hok, pT hq, pF (ge_F h2)] (by kernel_rfl)
    · rename_i hq
      replace hq := Bool.eq_false_iff.2 hq
      split
      · rename_i h2
        exact fok KRP [false, false, false, false, true] [P2, P1, pF hk1, pP hok, pP hok, pF hq, pT (decide_eq_true h2)] (by kernel_rfl)
      · rename_i h2
        exact fok KRP [false, false, false, false, false] [P2, P1, pF hk1, pP hok, pP hok, pF hq, pF (decide_eq_false h2)] (by kernel_rfl)
set_option maxRecDepth 100000 in
theorem dpoint_no (e : Ed) (x y : Int) (h : (e.ok && coordB x y) = false) : Fok Tryz.prog 14 [edV e lim lim, ptV x y lim] (rsV (pointR e x y)) := by
  rw [show pointR e x y = (Rt.no, Sp.no) by unfold pointR; rw [h]; rfl]
  cases hc : coordB x y with
  | false => exact fok KRP [true] [pT (coord_T hc)] (by kernel_rfl)
  | true =>
    rw [hc, Bool.and_true] at h
    exact fok KRP [false, true] [pF (coord_F hc), pT (chk_T h)] (by kernel_rfl)
def dPoint : Con where
  f := 14
  g := fun | [⟨true, l⟩, ⟨true, [.i x _, .i y _]⟩] => (toEd l).map fun e => (rsV (pointR e x y), []) | _ => none
  ok := by
    intro args res ps h hp
    split at h <;> try cases h
    rename_i l x A y B
    cases he : toEd l with
    | none => simp [he] at h
    | some e =>
      simp only [he, Option.map_some, Option.some.injEq, Prod.mk.injEq] at h
      obtain ⟨rfl, rfl⟩ := h
      cases hc : (e.ok && coordB x y) with
      | false => exact (dpoint_no e x y hc).pre fun W => rvs_1 (ed_lim he) (rvs_1 pt_lim rvs_0)
      | true =>
        simp only [Bool.and_eq_true] at hc
        exact (dpoint_ok e x y hc.1 hc.2).pre fun W => rvs_1 (ed_ok he hc.1) (rvs_1 (pt_co (coordB_iff.1 hc.2)) rvs_0)
end Go.Proofs.YtighahcllmoajaaGreat

namespace Go.Proofs.YtighahcllmoajaaGreat
open Go.RowKit

def c40 : Nat := 1099511627776
abbrev p4 : Pf := ⟨(4 : Int) ≠ 0, by decide⟩
def moV (ax ay n : Int) (m : Bool) (A : Nat) : V1 := ⟨true, [.i ax A, .i ay A, .i n A, .v (.bool m)]⟩
def ptL (p : Int × Int) : V1 := ⟨true, [.i p.1 lim, .i p.2 lim]⟩
/-- A point moved, with any number of turns. -/
def applyQ (ax ay n : Int) (m : Bool) (x y : Int) : Int × Int := applyP ax ay (modZ n 4) m x y
theorem modZ_n (n : Int) : modZ n 4 = (n.tmod 4 + 4).tmod 4 := rfl
theorem tn0 {n x y ax ay : Int} {m : Bool} (h : modZ n 4 = 0) : applyQ ax ay n m x y = ((if m then 0 - x else x) + ax, y + ay) := by
  unfold applyQ applyP; rw [h]; cases m <;> simp [rot, mir]
theorem tn1 {n x y ax ay : Int} {m : Bool} (h : modZ n 4 = 1) : applyQ ax ay n m x y = (0 - y + ax, (if m then 0 - x else x) + ay) := by
  unfold applyQ applyP; rw [h]; cases m <;> simp [rot, mir]
theorem tn2 {n x y ax ay : Int} {m : Bool} (h : modZ n 4 = 2) : applyQ ax ay n m x y = (0 - (if m then 0 - x else x) + ax, 0 - y + ay) := by
  unfold applyQ applyP; rw [h]; cases m <;> simp [rot, mir]
theorem tn3 {n x y ax ay : Int} {m : Bool} (h : modZ n 4 = 3) : applyQ ax ay n m x y = (y + ax, 0 - (if m then 0 - x else x) + ay) := by
  unfold applyQ applyP; rw [h]; cases m <;> simp [rot, mir]
set_option maxRecDepth 100000 in
theorem dapply_ok (ax ay n x y : Int) (m : Bool) : Fok Tryz.prog 34 [moV ax ay n m c40, ptV x y c40] (.one (ptL (applyQ ax ay n m x y))) := by
  have hb := modZ_bd n (m := 4) (by omega)
  by_cases h1 : modZ n 4 = 1
  · rw [tn1 h1]
    cases m with
    | true => exact fok [] [true, true] [pT rfl, p4, p4, pT (bq_T h1)] (by kernel_rfl)
    | false => exact fok [] [false, true] [pF rfl, p4, p4, pT (bq_T h1)] (by kernel_rfl)
  by_cases h2 : modZ n 4 = 2
  · rw [tn2 h2]
    cases m with
    | true => exact fok [] [true, false, true] [pT rfl, p4, p4, pF (bq_F h1), pT (bq_T h2)] (by kernel_rfl)
    | false => exact fok [] [false, false, true] [pF rfl, p4, p4, pF (bq_F h1), pT (bq_T h2)] (by kernel_rfl)
  by_cases h3 : modZ n 4 = 3
  · rw [tn3 h3]
    cases m with
    | true => exact fok [] [true, false, false, true] [pT rfl, p4, p4, pF (bq_F h1), pF (bq_F h2), pT (bq_T h3)] (by kernel_rfl)
    | false => exact fok [] [false, false, false, true] [pF rfl, p4, p4, pF (bq_F h1), pF (bq_F h2), pT (bq_T h3)] (by kernel_rfl)
  · rw [tn0 (by omega)]
    cases m with
    | true => exact fok [] [true, false, false, false] [pT rfl, p4, p4, pF (bq_F h1), pF (bq_F h2), pF (bq_F h3)] (by kernel_rfl)
    | false => exact fok [] [false, false, false, false] [pF rfl, p4, p4, pF (bq_F h1), pF (bq_F h2), pF (bq_F h3)] (by kernel_rfl)
theorem rot_bd (t : Nat) {x y : Int} {D E : Nat} (h1 : x.natAbs ≤ D) (h2 : y.natAbs ≤ E) : (rot t (x, y)).1.natAbs ≤ D + E ∧ (rot t (x, y)).2.natAbs ≤ D + E := by
  induction t with
  | zero => exact ⟨by simp only [rot]; omega, by simp only [rot]; omega⟩
  | succ t ih =>
    obtain ⟨a, b⟩ := ih
    simp only [rot]
    omega
theorem applyQ_bd {ax ay n x y : Int} {m : Bool} {A B D E : Nat} (a1 : ax.natAbs ≤ A) (a2 : ay.natAbs ≤ B) (h1 : x.natAbs ≤ D) (h2 : y.natAbs ≤ E) : (applyQ ax ay n m x y).1.natAbs ≤ A + B + D + E ∧ (applyQ ax ay n m x y).2.natAbs ≤ A + B + D + E := by
  unfold applyQ applyP mir
  cases m
  · obtain ⟨u1, u2⟩ := rot_bd (modZ n 4).toNat h1 h2
    simp only [Bool.false_eq_true, if_false]
    omega
  · obtain ⟨u1, u2⟩ := rot_bd (D := D) (modZ n 4).toNat (x := -x) (by omega) h2
    simp only [if_true]
    omega
def dApply : Con where
  f := 34
  g := fun | [⟨true, [.i ax A, .i ay B, .i n C, .v (.bool m)]⟩, ⟨true, [.i x D, .i y E]⟩] => if (A ≤ c40 ∧ B ≤ c40 ∧ C ≤ c40) ∧ D ≤ c40 ∧ E ≤ c40 then some (.one ⟨true, [.i (applyQ ax ay n m x y).1 (A + B + D + E), .i (applyQ ax ay n m x y).2 (A + B + D + E)]⟩, []) else none | _ => none
  ok := by
    intro args res ps h hp
    split at h <;> try cases h
    split at h <;> cases h
    rename_i ax A ay B n C m x D y E hb
    intro W vals hv
    have hv2 := hv
    simp only [rvs_cons, rvs_nil, rv_t, rl_i, rl_v, rl_nil] at hv2
    obtain ⟨_, ⟨_, ⟨⟨a1, i1⟩, _, rfl, ⟨a2, i2⟩, _, rfl, ⟨a3, i3⟩, _, rfl, _, _, rfl, rfl⟩, rfl⟩, _, rfl, _, ⟨_, ⟨⟨a4, i4⟩, _, rfl, ⟨a5, i5⟩, _, rfl, rfl⟩, rfl⟩, _, rfl, rfl⟩ := hv2
    have hb2 := hb
    unfold c40 at hb2
    obtain ⟨q1, q2⟩ := applyQ_bd (n := n) (m := m) a1 a2 a4 a5
    refine (dapply_ok ax ay n x y m W _ (rvs_cons.2 ⟨_, rv_t.2 ⟨_, rl_i.2 ⟨⟨by omega, i1⟩, _, rfl, rl_i.2 ⟨⟨by omega, i2⟩, _, rfl, rl_i.2 ⟨⟨by omega, i3⟩, _, rfl, rl_v.2 ⟨rfl, _, rfl, rfl⟩⟩⟩⟩, rfl⟩, _, rfl, rvs_cons.2 ⟨_, rv_t.2 ⟨_, rl_i.2 ⟨⟨by omega, i4⟩, _, rfl, rl_i.2 ⟨⟨by omega, i5⟩, _, rfl, rfl⟩⟩, rfl⟩, _, rfl, rfl⟩⟩)).mono fun e w' ⟨v, e1, h1, h2⟩ => ⟨v, e1, ?_, h2⟩
    simp only [RepA, ptL, rv_t, rl_i, rl_nil] at h1 ⊢
    obtain ⟨cs, ⟨⟨_, g1⟩, _, rfl, ⟨_, g2⟩, _, rfl, rfl⟩, e2⟩ := h1
    exact ⟨_, ⟨⟨q1, g1⟩, _, rfl, ⟨q2, g2⟩, _, rfl, rfl⟩, e2⟩
end Go.Proofs.YtighahcllmoajaaGreat

namespace Go.Proofs.YtighahcllmoajaaGreat
open Go.RowKit

def nK (L : List Int) : Nat → Nat
  | 0 => 0
  | n + 1 => nextK L (nK L n)
/-- The n-th number that is drawn, from 0 to m - 1. -/
def nV (L : List Int) (n : Nat) (m : Int) : Int := nextV L (nK L n) m
/-- An arc made of a centre, a radius, turns and a kind. -/
def arc6 (cx cy r t k : Int) : Ed :=
  ⟨k, cx + (applyQ 0 0 t false r 0).1, cy + (applyQ 0 0 t false r 0).2, cx + (applyQ 0 0 (t + if k = 3 then 3 else 1) false r 0).1, cy + (applyQ 0 0 (t + if k = 3 then 3 else 1) false r 0).2, cx, cy⟩
/-- The edge that etchantref06 makes of numbers. -/
def mad6 (L : List Int) : Ed :=
  let x := nV L 1 201 - 100
  let y := nV L 2 201 - 100
  if nV L 0 6 = 0 then ⟨1, x, y, x, y + nV L 3 41 - 20, 0, 0⟩
  else if nV L 0 6 = 1 then ⟨1, x, y, x + nV L 3 41 - 20, y, 0, 0⟩
  else if nV L 0 6 = 2 ∨ nV L 0 6 = 3 then ⟨1, x, y, nV L 3 201 - 100, nV L 4 201 - 100, 0, 0⟩
  else if nV L 4 3 = 0 then arc6 x y (1 + nV L 5 90) (nV L 6 4) (2 + nV L 7 2)
  else arc6 x y ([5, 10, 13, 25, 65].getD (nV L 3 5).toNat 0) (nV L 5 4) (2 + nV L 6 2)
def edL (e : Ed) : V1 := edV e lim lim
def XD : List Eff := [xNext, xNear]
theorem nV_bd (L : List Int) (n : Nat) {m : Int} (h : 0 < m) : 0 ≤ nV L n m ∧ nV L n m < m := nextV_bd _ _ h
set_option maxRecDepth 100000 in
theorem mad6_line (L : List Int) (h : nV L 0 6 < 4) : Fok Tryz.prog 10 [⟨false, [.ds L]⟩] (.one (edL (mad6 L))) := by
  have hb := nV_bd L 0 (m := 6) (by omega)
  unfold mad6
  by_cases h0 : nV L 0 6 = 0
  · simp only [if_pos h0]
    exact fokX XD [dApply] [true] [pT (bq_T h0)] (by kernel_rfl)
  by_cases h1 : nV L 0 6 = 1
  · simp only [if_neg h0, if_pos h1]
    exact fokX XD [dApply] [false, true] [pF (bq_F h0), pT (bq_T h1)] (by kernel_rfl)
  simp only [if_neg h0, if_neg h1]
  rw [if_pos (by omega)]
  by_cases h2 : nV L 0 6 = 2
  · exact fokX XD [dApply] [false, false, true, true] [pF (bq_F h0), pF (bq_F h1), pT (bq_T h2), pT (bq_T h2)] (by kernel_rfl)
  · have h3 : nV L 0 6 = 3 := by omega
    exact fokX XD [dApply] [false, false, false, true] [pF (bq_F h0), pF (bq_F h1), pF (bq_F h2), pT (bq_T h3)] (by kernel_rfl)
set_option maxRecDepth 100000 in
theorem mad6_arc (L : List Int) (h : ¬ nV L 0 6 < 4) : Fok Tryz.prog 10 [⟨false, [.ds L]⟩] (.one (edL (mad6 L))) := by
  have hb := nV_bd L 3 (m := 5) (by omega)
  have h0 : ¬ nV L 0 6 = 0 := by omega
  have h1 : ¬ nV L 0 6 = 1 := by omega
  have h2 : ¬ nV L 0 6 = 2 := by omega
  have h3 : ¬ nV L 0 6 = 3 := by omega
  unfold mad6 arc6
  simp only [if_neg h0, if_neg h1]
  rw [if_neg (by omega)]
  by_cases h4 : nV L 4 3 = 0
  · rw [if_pos h4]
    by_cases h5 : 2 + nV L 7 2 = 3
    · rw [if_pos h5]
      exact fokX XD [dApply] [false, false, false, false, true, true] [pF (bq_F h0), pF (bq_F h1), pF (bq_F h2), pF (bq_F h3), pP hb, pT (bq_T h4), pT (bq_T h5)] (by kernel_rfl)
    · rw [if_neg h5]
      exact fokX XD [dApply] [false, false, false, false, true, false] [pF (bq_F h0), pF (bq_F h1), pF (bq_F h2), pF (bq_F h3), pP hb, pT (bq_T h4), pF (bq_F h5)] (by kernel_rfl)
  · rw [if_neg h4]
    by_cases h5 : 2 + nV L 6 2 = 3
    · rw [if_pos h5]
      exact fokX XD [dApply] [false, false, false, false, false, true] [pF (bq_F h0), pF (bq_F h1), pF (bq_F h2), pF (bq_F h3), pP hb, pF (bq_F h4), pT (bq_T h5)] (by kernel_rfl)
    · rw [if_neg h5]
      exact fokX XD [dApply] [false, false, false, false, false, false] [pF (bq_F h0), pF (bq_F h1), pF (bq_F h2), pF (bq_F h3), pP hb, pF (bq_F h4), pF (bq_F h5)] (by kernel_rfl)
def dMade : Con where
  f := 10
  g := fun | [⟨false, [.ds L]⟩] => some (.one (edL (mad6 L)), []) | _ => none
  ok := by
    intro args res ps h hp
    split at h <;> cases h
    rename_i L
    by_cases h : nV L 0 6 < 4
    · exact mad6_line L h
    · exact mad6_arc L h
end Go.Proofs.YtighahcllmoajaaGreat

namespace Go.Proofs.YtighahcllmoajaaGreat
open Go.RowKit

def cRight : Con where
  f := 24
  g := fun | [⟨true, [.i a _, .i s _, .d (.num n), .d (.num d)]⟩] => some (.one (blV (Rt.right ⟨a, s, n, d⟩)), []) | _ => none
  ok := by
    intro args res ps h hp
    split at h <;> cases h
    intro W vals hv
    simp only [rvs_cons, rvs_nil, rv_t, rl_i, rl_num, rl_nil] at hv
    obtain ⟨_, ⟨_, ⟨⟨_, i1⟩, _, rfl, ⟨_, i2⟩, _, rfl, n1, p1, l1, c1, h1, _, rfl, m1, q1, k1, d1, h2, _, rfl, rfl⟩, rfl⟩, _, rfl, rfl⟩ := hv
    exact (root_Right _ _ _ _ _ _ _ _ _ _ _ _ W h1 h2).mono fun _ _ h => gv_bl h
def d01Same : Con where
  f := 49
  g := fun | [⟨true, [.d (.num a)]⟩, ⟨true, [.d (.num b)]⟩] => some (.one (blV (sameB a b)), []) | _ => none
  ok := by
    intro args res ps h _
    split at h <;> cases h
    intro W vals hv
    simp only [rvs_cons, rvs_nil, rv_t, rl_num, rl_nil] at hv
    obtain ⟨_, ⟨_, ⟨n, p, l, c, h1, _, rfl, rfl⟩, rfl⟩, _, rfl, _, ⟨_, ⟨m, q, k, d, h2, _, rfl, rfl⟩, rfl⟩, _, rfl, rfl⟩ := hv
    exact (r01_Same _ _ _ _ _ _ _ _ _ _ W h1 h2).mono fun _ _ h => gv_bl h
set_option maxRecDepth 100000 in
theorem dsame_ok (a b : Rt) : Fok Tryz.prog 15 [rtV a, rtV b] (.one (blV (sameR a b))) := by
  unfold sameR
  cases h1 : (a.add == b.add) with
  | false => exact fok [d01Same] [false] [pF h1] (by kernel_rfl)
  | true =>
    cases h2 : (a.s == b.s) with
    | false => exact fok [d01Same] [true, false] [pT h1, pF h2] (by kernel_rfl)
    | true =>
      cases h3 : sameB a.n b.n with
      | false => exact fok [d01Same] [true, true, false] [pT h1, pT h2, pF h3] (by kernel_rfl)
      | true => exact fok [d01Same] [true, true, true] [pT h1, pT h2, pT h3] (by kernel_rfl)
def d02Same : Con where
  f := 15
  g := fun | [⟨true, [.i a _, .i s _, .d (.num n), .d (.num d)]⟩, ⟨true, [.i b _, .i t _, .d (.num m), .d (.num e)]⟩] => some (.one (blV (sameR ⟨a, s, n, d⟩ ⟨b, t, m, e⟩)), []) | _ => none
  ok := by
    intro args res ps h hp
    split at h <;> cases h
    rename_i a A s S n d b B t T m e
    refine (dsame_ok ⟨a, s, n, d⟩ ⟨b, t, m, e⟩).pre fun W vals hv => ?_
    simp only [rvs_cons, rvs_nil, rv_t, rl_i, rl_num, rl_nil] at hv
    obtain ⟨_, ⟨_, ⟨⟨_, i1⟩, _, rfl, ⟨_, i2⟩, _, rfl, n1, p1, l1, c1, h1, _, rfl, m1, q1, k1, d1, h2, _, rfl, rfl⟩, rfl⟩, _, rfl, _, ⟨_, ⟨⟨_, i3⟩, _, rfl, ⟨_, i4⟩, _, rfl, n2, p2, l2, c2, h3, _, rfl, m2, q2, k2, d2, h4, _, rfl, rfl⟩, rfl⟩, _, rfl, rfl⟩ := hv
    exact rvs_cons.2 ⟨_, rtV_rep ⟨i1, i2⟩ h1 h2, _, rfl, rvs_cons.2 ⟨_, rtV_rep ⟨i3, i4⟩ h3 h4, _, rfl, rfl⟩⟩
end Go.Proofs.YtighahcllmoajaaGreat

namespace Go.Proofs.YtighahcllmoajaaGreat
open Go.RowKit

theorem ok_line {a b c d : Int} (ha : -1000 ≤ a ∧ a ≤ 1000) (hb : -1000 ≤ b ∧ b ≤ 1000) (hc : -1000 ≤ c ∧ c ≤ 1000) (hd : -1000 ≤ d ∧ d ≤ 1000) : (⟨1, a, b, c, d, 0, 0⟩ : Ed).ok = true := by
  simp only [Ed.ok, Ed.right, Bool.and_eq_true]
  refine ⟨⟨⟨coordB_iff.2 ?_, coordB_iff.2 ?_⟩, coordB_iff.2 ?_⟩, ?_⟩
  · unfold Co; omega
  · unfold Co; omega
  · unfold Co; omega
  · simp [Ed.lone]
theorem aq_rot (t x y : Int) : applyQ 0 0 t false x y = rot (modZ t 4).toNat (x, y) := by unfold applyQ applyP; simp [mir]
theorem ok_arc6 {cx cy r t k : Int} (hx : -1000 ≤ cx ∧ cx ≤ 1000) (hy : -1000 ≤ cy ∧ cy ≤ 1000) (hr : 1 ≤ r ∧ r ≤ 1000) (ht : 0 ≤ t ∧ t < 4) (hk : k = 2 ∨ k = 3) : (arc6 cx cy r t k).ok = true := by
  have ca : ∀ a b : Int, a + b - a = b := fun a b => by omega
  have cb : ∀ a b : Int, a - b - a = -b := fun a b => by omega
  have cc : ∀ a b : Int, a + -b - a = -b := fun a b => by omega
  have n0 : ¬ r = 0 := by omega
  have n1 : ¬ -r = 0 := by omega
  have q0 : (modZ 0 4).toNat = 0 := by decide
  have q1 : (modZ 1 4).toNat = 1 := by decide
  have q2 : (modZ 2 4).toNat = 2 := by decide
  have q3 : (modZ 3 4).toNat = 3 := by decide
  have q4 : (modZ 4 4).toNat = 0 := by decide
  have q5 : (modZ 5 4).toNat = 1 := by decide
  have q6 : (modZ 6 4).toNat = 2 := by decide
  unfold arc6
  simp only [aq_rot]
  obtain rfl | rfl | rfl | rfl : t = 0 ∨ t = 1 ∨ t = 2 ∨ t = 3 := by omega
  all_goals
    rcases hk with rfl | rfl <;>
      (simp only [Ed.ok, Ed.right, Bool.and_eq_true, if_true, show ((2 : Int) = 3) = False by simp, if_false, show (0 : Int) + 1 = 1 by rfl, show (0 : Int) + 3 = 3 by rfl, show (1 : Int) + 1 = 2 by rfl, show (1 : Int) + 3 = 4 by rfl, show (2 : Int) + 1 = 3 by rfl, show (2 : Int) + 3 = 5 by rfl, show (3 : Int) + 1 = 4 by rfl, show (3 : Int) + 3 = 6 by rfl, q0, q1, q2, q3, q4, q5, q6, rot]
       refine ⟨⟨⟨coordB_iff.2 ?_, coordB_iff.2 ?_⟩, coordB_iff.2 ?_⟩, ?_⟩
       · unfold Co; omega
       · unfold Co; omega
       · unfold Co; omega
       · simp [Ed.quarter, quarterB, rot, ca, cb, cc, n0, n1]
         try omega)
theorem mad6_ok (L : List Int) : (mad6 L).ok = true := by
  have b0 := nV_bd L 0 (m := 6) (by omega)
  have b1 := nV_bd L 1 (m := 201) (by omega)
  have b2 := nV_bd L 2 (m := 201) (by omega)
  have b3 := nV_bd L 3 (m := 201) (by omega)
  have b4 := nV_bd L 4 (m := 201) (by omega)
  have c3 := nV_bd L 3 (m := 41) (by omega)
  unfold mad6
  simp only
  split
  · exact ok_line (by omega) (by omega) (by omega) (by omega)
  split
  · exact ok_line (by omega) (by omega) (by omega) (by omega)
  split
  · exact ok_line (by omega) (by omega) (by omega) (by omega)
  split
  · have d5 := nV_bd L 5 (m := 90) (by omega)
    have d6 := nV_bd L 6 (m := 4) (by omega)
    have d7 := nV_bd L 7 (m := 2) (by omega)
    exact ok_arc6 (by omega) (by omega) (by omega) (by omega) (by omega)
  · have d5 := nV_bd L 5 (m := 4) (by omega)
    have d6 := nV_bd L 6 (m := 2) (by omega)
    have d3 := nV_bd L 3 (m := 5) (by omega)
    refine ok_arc6 (by omega) (by omega) ?_ (by omega) (by omega)
    obtain ⟨n, hn⟩ : ∃ n : Nat, nV L 3 5 = n := ⟨(nV L 3 5).toNat, by omega⟩
    rw [hn] at d3 ⊢
    obtain rfl | rfl | rfl | rfl | rfl : n = 0 ∨ n = 1 ∨ n = 2 ∨ n = 3 ∨ n = 4 := by omega
    all_goals decide
end Go.Proofs.YtighahcllmoajaaGreat

namespace Go.Proofs.YtighahcllmoajaaGreat
open Go.RowKit

def sgV (i : Int) : Int := [1, -1].getD i.toNat 0
def hyV (i : Int) : Int := [5, 5, 13, 25, 1].getD i.toNat 0
def lxV (i : Int) : Int := [3, 4, 5, 7, 0].getD i.toNat 0
def lyV (i : Int) : Int := [4, 3, 12, 24, 1].getD i.toNat 0
def shX (L : List Int) (j : Nat) (x y : Int) : Int × Int := if nV L j 2 = 0 then (x + nV L (j + 1) 3 - 1, y) else (x, y)
/-- The point that etchantref06 makes of an edge and numbers. -/
def at6 (e : Ed) (L : List Int) : Int × Int :=
  if nV L 2 6 = 0 then shX L 3 e.ax e.ay
  else if nV L 2 6 = 1 then shX L 3 e.bx e.by'
  else if nV L 2 6 = 2 then shX L 4 (e.ax + ((e.bx - e.ax) * nV L 3 5).tdiv 4) (e.ay + ((e.by' - e.ay) * nV L 3 5).tdiv 4)
  else if nV L 2 6 = 3 then shX L 7 (e.cx + (sgV (nV L 5 2) * lxV (nV L 3 5) * radZ e).tdiv (hyV (nV L 4 5))) (e.cy + (sgV (nV L 6 2) * lyV (nV L 3 5) * radZ e).tdiv (hyV (nV L 4 5)))
  else if nV L 2 6 = 4 then shX L 3 (nV L 0 241 - 120) e.ay
  else shX L 3 (nV L 0 241 - 120) (nV L 1 241 - 120)
theorem hyV_ne {i : Int} (h : 0 ≤ i ∧ i < 5) : hyV i ≠ 0 := by
  obtain rfl | rfl | rfl | rfl | rfl : i = 0 ∨ i = 1 ∨ i = 2 ∨ i = 3 ∨ i = 4 := by omega
  all_goals decide
set_option maxRecDepth 100000 in
theorem at6_a (e : Ed) (L : List Int) (h : nV L 2 6 = 0 ∨ nV L 2 6 = 1 ∨ nV L 2 6 = 2) : Fok Tryz.prog 11 [edV e 3 c26, ⟨false, [.ds L]⟩] (.one (ptL (at6 e L))) := by
  unfold at6 shX
  by_cases h0 : nV L 2 6 = 0
  · rw [if_pos h0]
    by_cases c : nV L 3 2 = 0
    · rw [if_pos c]
      exact fokX XD [d06Rad] [true, true] [pT (bq_T h0), pT (bq_T c)] (by kernel_rfl)
    · rw [if_neg c]
      exact fokX XD [d06Rad] [true, false] [pT (bq_T h0), pF (bq_F c)] (by kernel_rfl)
  rw [if_neg h0]
  by_cases h1 : nV L 2 6 = 1
  · rw [if_pos h1]
    by_cases c : nV L 3 2 = 0
    · rw [if_pos c]
      exact fokX XD [d06Rad] [false, true, true] [pF (bq_F h0), pT (bq_T h1), pT (bq_T c)] (by kernel_rfl)
    · rw [if_neg c]
      exact fokX XD [d06Rad] [false, true, false] [pF (bq_F h0), pT (bq_T h1), pF (bq_F c)] (by kernel_rfl)
  rw [if_neg h1]
  have h2 : nV L 2 6 = 2 := by omega
  rw [if_pos h2]
  by_cases c : nV L 4 2 = 0
  · rw [if_pos c]
    exact fokX XD [d06Rad] [false, false, true, true] [pF (bq_F h0), pF (bq_F h1), pT (bq_T h2), p4, p4, pT (bq_T c)] (by kernel_rfl)
  · rw [if_neg c]
    exact fokX XD [d06Rad] [false, false, true, false] [pF (bq_F h0), pF (bq_F h1), pT (bq_T h2), p4, p4, pF (bq_F c)] (by kernel_rfl)
set_option maxRecDepth 100000 in
theorem at6_b (e : Ed) (L : List Int) (he : e.ok = true) (h0 : ¬ nV L 2 6 = 0) (h1 : ¬ nV L 2 6 = 1) (h2 : ¬ nV L 2 6 = 2) : Fok Tryz.prog 11 [edV e 3 c26, ⟨false, [.ds L]⟩] (.one (ptL (at6 e L))) := by
  have b3 := nV_bd L 3 (m := 5) (by omega)
  have b4 := nV_bd L 4 (m := 5) (by omega)
  have b5 := nV_bd L 5 (m := 2) (by omega)
  have b6 := nV_bd L 6 (m := 2) (by omega)
  have hn := hyV_ne b4
  unfold at6 shX
  rw [if_neg h0, if_neg h1, if_neg h2]
  by_cases h3 : nV L 2 6 = 3
  · rw [if_pos h3]
    by_cases c : nV L 7 2 = 0
    · rw [if_pos c]
      exact fokX XD [d06Rad] [false, false, false, true, true] [pF (bq_F h0), pF (bq_F h1), pF (bq_F h2), pT (bq_T h3), pP he, pP b3, pP b4, pP b5, pP hn, pP b6, pP hn, pT (bq_T c)] (by kernel_rfl)
    · rw [if_neg c]
      exact fokX XD [d06Rad] [false, false, false, true, false] [pF (bq_F h0), pF (bq_F h1), pF (bq_F h2), pT (bq_T h3), pP he, pP b3, pP b4, pP b5, pP hn, pP b6, pP hn, pF (bq_F c)] (by kernel_rfl)
  rw [if_neg h3]
  by_cases h4 : nV L 2 6 = 4
  · rw [if_pos h4]
    by_cases c : nV L 3 2 = 0
    · rw [if_pos c]
      exact fokX XD [d06Rad] [false, false, false, false, true, true] [pF (bq_F h0), pF (bq_F h1), pF (bq_F h2), pF (bq_F h3), pT (bq_T h4), pT (bq_T c)] (by kernel_rfl)
    · rw [if_neg c]
      exact fokX XD [d06Rad] [false, false, false, false, true, false] [pF (bq_F h0), pF (bq_F h1), pF (bq_F h2), pF (bq_F h3), pT (bq_T h4), pF (bq_F c)] (by kernel_rfl)
  rw [if_neg h4]
  by_cases c : nV L 3 2 = 0
  · rw [if_pos c]
    exact fokX XD [d06Rad] [false, false, false, false, false, true] [pF (bq_F h0), pF (bq_F h1), pF (bq_F h2), pF (bq_F h3), pF (bq_F h4), pT (bq_T c)] (by kernel_rfl)
  · rw [if_neg c]
    exact fokX XD [d06Rad] [false, false, false, false, false, false] [pF (bq_F h0), pF (bq_F h1), pF (bq_F h2), pF (bq_F h3), pF (bq_F h4), pF (bq_F c)] (by kernel_rfl)
def dAt : Con where
  f := 11
  g := fun | [⟨true, l⟩, ⟨false, [.ds L]⟩] => (toEd l).map fun e => (.one (ptL (at6 e L)), [e.ok = true]) | _ => none
  ok := by
    intro args res ps h hp
    split at h <;> try cases h
    rename_i l L
    cases he : toEd l with
    | none => simp [he] at h
    | some e =>
      simp only [he, Option.map_some, Option.some.injEq, Prod.mk.injEq] at h
      obtain ⟨rfl, rfl⟩ := h
      refine Fok.pre ?_ fun W => rvs_1 (ed_ok he hp.1) (rvs_1 (fun _ h => h) rvs_0)
      by_cases h0 : nV L 2 6 = 0
      · exact at6_a e L (.inl h0)
      by_cases h1 : nV L 2 6 = 1
      · exact at6_a e L (.inr (.inl h1))
      by_cases h2 : nV L 2 6 = 2
      · exact at6_a e L (.inr (.inr h2))
      · exact at6_b e L hp.1 h0 h1 h2
end Go.Proofs.YtighahcllmoajaaGreat

namespace Go.Proofs.YtighahcllmoajaaGreat
open Go.RowKit

theorem int_rt (i : Int) : Rt.right ⟨i, 0, zero, ofZ 1⟩ = true := by
  have h := ofP_nat (add := i) (s := 0) (n := 0) (d := 1) (by decide) (by decide +kernel) (by decide +kernel) (by decide)
  obtain ⟨q1, q2, _⟩ := ofP_ok (dig_digs _) (dig_digs _) h
  have e : rootOf i 0 0 1 = ⟨i, 0, zero, ofZ 1⟩ := by unfold rootOf; rw [if_pos (.inl rfl)]
  rw [e] at q1 q2
  exact right_of q2 q1.nr q1.dr
theorem cmp_rint {add s i : Int} {n d : Nat} (hs : s = 1 ∨ s = -1) (hn : n < 4294967296 ^ 8) (hd : d < 4294967296 ^ 8) (h0 : 0 < d) : cmpRt (rootOf add s n d) ⟨i, 0, zero, ofZ 1⟩ = sideZ ((add - i) * d) s ((n : Int) * d) := by
  unfold cmpRt
  rw [(whole_ok (by omega) hn hd h0).2, int_rt]
  simp only [Bool.and_self, if_true]
  rw [zero_z, ofZ_z]
  exact cmp_int h0 (by omega)
/-- dR of numbers that are small enough. -/
theorem dR_root {add s n d : Int} (hs : -1 ≤ s ∧ s ≤ 1) (hn : 0 ≤ n) (hn2 : n < 85070591730234615865843651857942052864 * 4) (hd : 0 < d) (hd2 : d < 85070591730234615865843651857942052864 * 4) : dR add s n d = rootOf add s n.toNat d.toNat ∧ n.toNat < 4294967296 ^ 8 ∧ d.toNat < 4294967296 ^ 8 ∧ 0 < d.toNat := by
  have b : (85070591730234615865843651857942052864 * 4 : Int) < ((4294967296 ^ 8 : Nat) : Int) := by decide +kernel
  have h1 : n.toNat < 4294967296 ^ 8 := by omega
  have h2 : d.toNat < 4294967296 ^ 8 := by omega
  refine ⟨?_, h1, h2, by omega⟩
  have := ofP_nat (add := add) hs h1 h2 (by omega)
  rw [Int.toNat_of_nonneg hn, Int.toNat_of_nonneg (by omega)] at this
  unfold dR
  rw [this]
theorem sq_lt {c : Int} (h : -9223372036854775808 ≤ c ∧ c ≤ 9223372036854775807) : 0 ≤ c * c ∧ c * c < 85070591730234615865843651857942052864 * 4 := by
  refine ⟨sqz_nn c, ?_⟩
  have h1 : c.natAbs ≤ 9223372036854775808 := by omega
  have h2 := Nat.mul_le_mul h1 h1
  rw [← Int.natAbs_mul_self]
  omega
theorem foot_cmp {r c q : Int} (hr : 0 ≤ r) (hc : -9223372036854775808 ≤ c ∧ c ≤ 9223372036854775807) (hq : 0 < q) (hq2 : q ≤ 9223372036854775807) : cmpRt (dR (-r) 1 (c * c) q) ⟨0, 0, zero, ofZ 1⟩ ≤ 0 ↔ c * c ≤ r * r * q := by
  obtain ⟨s1, s2⟩ := sq_lt hc
  obtain ⟨e, h1, h2, h3⟩ := dR_root (add := -r) (s := 1) (by decide) s1 s2 hq (by omega)
  rw [e, cmp_rint (.inl rfl) h1 h2 h3, Int.toNat_of_nonneg s1, Int.toNat_of_nonneg (by omega), show (-r - 0) = -r by omega, side_whole hr hq s1]
  have e2 : q * r * r = r * r * q := by rw [Int.mul_assoc, Int.mul_comm]
  rw [e2]
  unfold sgn cmpZ
  (repeat' split) <;> omega
theorem dR_add (add s : Int) (n d : Nm) : (ofP add s n d).1.add = add ∨ (ofP add s n d).1.add = 0 := by
  unfold ofP
  (repeat' split) <;> simp [Rt.no]
end Go.Proofs.YtighahcllmoajaaGreat
