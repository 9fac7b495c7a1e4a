/- Contracts: r08.foot, r08.centres, r08.inner, by the kernel's walker (printed by gen_nag.py). | Plain: the radius of an arc, and its square. | Contract: r06.On, by the kernel's walker. | Plain: lines, as the reference has them. | Contract: r07.lines, by the kernel's walker. | The count of signs, in the order of the reference. | Contracts: sums and products of the reference over whole numbers, r02.Sign, by the kernel's walker. | Contracts: r07.axes, r07.positive, by the kernel's walker. -/
import Derived.Test.YtighahcllmoajaaGreatJ31
import Derived.Test.YtighahcllmoajaaGreatJ32
import Derived.Test.YtighahcllmoajaaGreatJ12
import Derived.Test.YtighahcllmoajaaGreatJ30
import Derived.Test.YtighahcllmoajaaGreatJ28
set_option linter.unusedVariables false
set_option linter.unusedSimpArgs false

set_option maxHeartbeats 4000000
set_option maxRecDepth 100000
namespace Go.Proofs.YtighahcllmoajaaGreat
open Go.RowKit
def KF : List Con := [d01Of, d01Mul, d01Cmp, d02Of, d06Rad, dQuarter]
def hdP : List Pr -> Pr
 | [] => ⟨Rt.no, Sp.no, Sp.no⟩
 | p :: _ => p
def someP : List Pr -> Bool
 | [] => false
 | _ :: _ => true
def inP (l : List Pr) : AV := .tup [prI (hdP l), blV (someP l)]
theorem inP_swap (l : List Pr) : inP (l.map Pr.swap) = .tup [prI (hdP l).swap, blV (someP l)] := by
 cases l <;> rfl
def farD (l a : Ed) : Nm := (mulP (ofZ (cF l a)) (ofZ (cF l a))).1
def nearD (l a : Ed) : Nm := (mulP (ofZ (radZ a * radZ a)) (ofZ (qF l))).1
def footD (l a : Ed) (nx ny : Int) : List Pr :=
 cond (decide (tF l a <= 0)) [] (cond (decide (tF l a ≥ qF l)) [] (cond (decide (cmpP (farD l a) (nearD l a) <= 0)) [] (cond (!inQ a nx ny) []
  [⟨fracD (0 - radZ a) 1 (cF l a) (qF l), ⟨l.ax, l.ay, l.bx - l.ax, l.by' - l.ay, tF l a, qF l, 0⟩, ⟨a.cx, a.cy, nx, ny, 0, 0, radZ a⟩⟩])))
theorem mulP_of64 {x y : Int} (h : I64 x) (k : I64 y) : (mulP (ofZ x) (ofZ y)).1 = ofZ (x * y) := by
 rw [mulP_small' ((Wd.of64 h).small (by omega)) ((Wd.of64 k).small (by omega)) (((Wd.of64 h).mul (Wd.of64 k)).small (by omega))]
theorem radSq {a : Ed} (ha : a.ok = true) : I64 (radZ a * radZ a) := by
 have h := (rad_b ha).1
 have h2 := Nat.mul_le_mul h h
 unfold I64
 have : (radZ a * radZ a).natAbs = (radZ a).natAbs * (radZ a).natAbs := Int.natAbs_mul _ _
 omega
theorem footD_eq {l a : Ed} (hl : l.ok = true) (ha : a.ok = true) {nx ny : Int} (hx : nx = if 0 < cF l a then l.by' - l.ay else 0 - (l.by' - l.ay)) (hy : ny = if 0 < cF l a then 0 - (l.bx - l.ax) else l.bx - l.ax) : footD l a nx ny = footR l a := by
 have E := footR_eq l a nx ny hx hy
 obtain ⟨⟨l1, l2⟩, ⟨l3, l4⟩, _⟩ := ok_right hl
 obtain ⟨_, _, a5, a6⟩ := ok_right ha
 have iC : I64 (cF l a) := (l3.sub l1).cross (a6.sub l2) (l4.sub l2) (a5.sub l1)
 have iQ : I64 (qF l) := (l3.sub l1).sq (l4.sub l2)
 have iR := radSq ha
 have hc : cmpP (farD l a) (nearD l a) <= 0 ↔ cF l a * cF l a <= radZ a * radZ a * qF l := by
  unfold farD nearD
  rw [mulP_of64 iC iC, mulP_of64 iR iQ, cmpP_side (((Wd.of64 iC).mul (Wd.of64 iC)).small (by omega)) (((Wd.of64 iR).mul (Wd.of64 iQ)).small (by omega))]
  unfold cmpZ
  (repeat' split) <;> omega
 rw [E]
 unfold footD
 rw [fracD_eq iC, zero_sub']
 by_cases h1 : tF l a <= 0
 ·rw [if_pos (.inl h1), decide_eq_true h1]; rfl
 by_cases h2 : qF l <= tF l a
 ·rw [if_pos (.inr (.inl h2)), decide_eq_false h1, ge_T h2]; rfl
 by_cases h3 : cF l a * cF l a <= radZ a * radZ a * qF l
 ·rw [if_pos (.inr (.inr (.inl h3))), decide_eq_false h1, ge_F h2, decide_eq_true (hc.2 h3)]; rfl
 have h3' : ¬ cmpP (farD l a) (nearD l a) <= 0 := fun h => h3 (hc.1 h)
 cases h4 : inQ a nx ny with
 | false => rw [if_pos (.inr (.inr (.inr rfl))), decide_eq_false h1, ge_F h2, decide_eq_false h3']; rfl
 | true => rw [if_neg (by rintro (h | h | h | h); exact h1 h; exact h2 h; exact h3 h; cases h), decide_eq_false h1, ge_F h2, decide_eq_false h3']; rfl
theorem dfoot_T (l a : Ed) (ha : a.ok = true) (G0 : decide (cF l a > 0) = true) : Fok Tryz.prog 96 [edV l 3 c26, edV a 3 c26] (inP (footD l a (0 - (0 - (l.by' - l.ay))) (0 - (l.bx - l.ax)))) := by
 unfold footD
 cases G1 : decide (tF l a <= 0) with
 | true =>
  exact fok KF [true, true] [pT G0, pP ha, pT G1] (by kernel_rfl)
 | false =>
  cases G2 : decide (tF l a ≥ qF l) with
  | true =>
   exact fok KF [true, false, true] [pT G0, pP ha, pF G1, pT G2] (by kernel_rfl)
  | false =>
   cases G3 : decide (cmpP (farD l a) (nearD l a) <= 0) with
   | true =>
    exact fok KF [true, false, false, true] [pT G0, pP ha, pF G1, pF G2, pT G3] (by kernel_rfl)
   | false =>
    cases G4 : (!inQ a (0 - (0 - (l.by' - l.ay))) (0 - (l.bx - l.ax))) with
    | true =>
     exact fok KF [true, false, false, false, true] [pT G0, pP ha, pF G1, pF G2, pF G3, pP ha, pT G4] (by kernel_rfl)
    | false =>
     exact fok KF [true, false, false, false, false] [pT G0, pP ha, pF G1, pF G2, pF G3, pP ha, pF G4] (by kernel_rfl)
theorem dfoot_F (l a : Ed) (ha : a.ok = true) (G0 : decide (cF l a > 0) = false) : Fok Tryz.prog 96 [edV l 3 c26, edV a 3 c26] (inP (footD l a (0 - (l.by' - l.ay)) (l.bx - l.ax))) := by
 unfold footD
 cases G1 : decide (tF l a <= 0) with
 | true =>
  exact fok KF [false, true] [pF G0, pP ha, pT G1] (by kernel_rfl)
 | false =>
  cases G2 : decide (tF l a ≥ qF l) with
  | true =>
   exact fok KF [false, false, true] [pF G0, pP ha, pF G1, pT G2] (by kernel_rfl)
  | false =>
   cases G3 : decide (cmpP (farD l a) (nearD l a) <= 0) with
   | true =>
    exact fok KF [false, false, false, true] [pF G0, pP ha, pF G1, pF G2, pT G3] (by kernel_rfl)
   | false =>
    cases G4 : (!inQ a (0 - (l.by' - l.ay)) (l.bx - l.ax)) with
    | true =>
     exact fok KF [false, false, false, false, true] [pF G0, pP ha, pF G1, pF G2, pF G3, pP ha, pT G4] (by kernel_rfl)
    | false =>
     exact fok KF [false, false, false, false, false] [pF G0, pP ha, pF G1, pF G2, pF G3, pP ha, pF G4] (by kernel_rfl)
def dFoot : Con where
 f := 96
 g := fun | [⟨true, l⟩, ⟨true, m⟩] => (match toEd l, toEd m with | some e, some f => some (inP (footR e f), [e.ok = true, f.ok = true]) | _, _ => none) | _ => none
 ok := by
  intro args res ps h hp
  split at h <;> try cases h
  split at h <;> cases h
  rename_i e f he hf
  obtain ⟨h1, h2, _⟩ := hp
  refine Fok.pre ?_ fun W => rvs_1 (ed_ok he h1) (rvs_1 (ed_ok hf h2) rvs_0)
  by_cases hc : 0 < cF e f
  ·rw [<- footD_eq h1 h2 (nx := 0 - (0 - (e.by' - e.ay))) (ny := 0 - (e.bx - e.ax)) (by rw [if_pos hc]; omega) (by rw [if_pos hc])]
   exact dfoot_T e f h2 (gt_T hc)
  ·rw [<- footD_eq h1 h2 (nx := 0 - (e.by' - e.ay)) (ny := e.bx - e.ax) (by rw [if_neg hc]) (by rw [if_neg hc])]
   exact dfoot_F e f h2 (gt_F hc)
def oneD (e f : Ed) (x y u v : Int) (d : Rt) : Pr := ⟨d, ⟨e.cx, e.cy, x, y, 0, 0, radZ e⟩, ⟨f.cx, f.cy, u, v, 0, 0, radZ f⟩⟩
def centD (e f : Ed) : List Pr :=
 cond (decide (nF e f > (radZ e + radZ f) * (radZ e + radZ f)) && (inQ e (f.cx - e.cx) (f.cy - e.cy) && inQ f (0 - (f.cx - e.cx)) (0 - (f.cy - e.cy))))
  [oneD e f (f.cx - e.cx) (f.cy - e.cy) (0 - (f.cx - e.cx)) (0 - (f.cy - e.cy)) (dR (0 - radZ e - radZ f) 1 (nF e f) 1)]
 (cond (decide (radZ e > radZ f) && (decide (nF e f < (radZ e - radZ f) * (radZ e - radZ f)) && (inQ e (f.cx - e.cx) (f.cy - e.cy) && inQ f (f.cx - e.cx) (f.cy - e.cy))))
  [oneD e f (f.cx - e.cx) (f.cy - e.cy) (f.cx - e.cx) (f.cy - e.cy) (dR (radZ e - radZ f) (-1) (nF e f) 1)]
 (cond (decide (radZ f > radZ e) && (decide (nF e f < (radZ f - radZ e) * (radZ f - radZ e)) && (inQ e (0 - (f.cx - e.cx)) (0 - (f.cy - e.cy)) && inQ f (0 - (f.cx - e.cx)) (0 - (f.cy - e.cy)))))
  [oneD e f (0 - (f.cx - e.cx)) (0 - (f.cy - e.cy)) (0 - (f.cx - e.cx)) (0 - (f.cy - e.cy)) (dR (radZ f - radZ e) (-1) (nF e f) 1)] []))
theorem sub_sq (r s : Int) : (s - r) * (s - r) = (r - s) * (r - s) := by
 rw [show s - r = -(r - s) by omega, Int.neg_mul_neg]
theorem add_sq {r s : Int} (hr : 0 <= r) (hs : 0 <= s) : (r - s) * (r - s) <= (r + s) * (r + s) := by
 have h := Int.mul_nonneg hr hs
 have e1 : (r + s) * (r + s) = (r - s) * (r - s) + 4 * (r * s) := by grind
 omega
theorem centD_eq {e f : Ed} (h1 : e.ok = true) (h2 : f.ok = true) (k1 : ¬ e.k = 1) (k2 : ¬ f.k = 1) : centD e f = centR e f := by
 have hr := rad_pos h1 k1
 have hs := rad_pos h2 k2
 have A := add_sq (r := radZ e) (s := radZ f) (by omega) (by omega)
 rw [centR_eq]
 unfold centD wF oneD
 rw [sub_sq (radZ e) (radZ f)]
 by_cases g : (radZ e + radZ f) * (radZ e + radZ f) < nF e f
 ·rw [if_pos g, gt_T g]
  have g2 : ¬ nF e f < (radZ e - radZ f) * (radZ e - radZ f) := by omega
  rw [decide_eq_false g2]
  cases inQ e (f.cx - e.cx) (f.cy - e.cy) <;> cases inQ f (0 - (f.cx - e.cx)) (0 - (f.cy - e.cy)) <;> simp
 ·rw [if_neg g, gt_F g]
  by_cases g2 : (radZ e - radZ f) * (radZ e - radZ f) <= nF e f
  ·rw [if_pos g2, decide_eq_false (Int.not_lt.2 g2)]
   simp
  ·rw [if_neg g2, decide_eq_true (Int.not_le.1 g2)]
   by_cases g3 : radZ f < radZ e
   ·rw [if_pos g3, gt_T g3, gt_F (a := radZ f) (b := radZ e) (by omega)]
    cases inQ e (f.cx - e.cx) (f.cy - e.cy) <;> cases inQ f (f.cx - e.cx) (f.cy - e.cy) <;> simp
   ·have g4 : radZ e < radZ f := by
     rcases Int.lt_or_eq_of_le (Int.not_lt.1 g3) with h | h
     ·exact h
     ·exfalso
      rw [h] at g2
      have := sqI_nn (f.cx - e.cx) (f.cy - e.cy)
      unfold nF at g2
      simp at g2
      omega
    rw [if_neg g3, gt_F g3, gt_T g4]
    cases inQ e (0 - (f.cx - e.cx)) (0 - (f.cy - e.cy)) <;> cases inQ f (0 - (f.cx - e.cx)) (0 - (f.cy - e.cy)) <;> simp
theorem dcent_a (e f : Ed) (h1 : e.ok = true) (h2 : f.ok = true) (G0 : decide (nF e f > (radZ e + radZ f) * (radZ e + radZ f)) = true) (G2 : decide (nF e f < (radZ e - radZ f) * (radZ e - radZ f)) = false) (H2 : decide (nF e f < (radZ f - radZ e) * (radZ f - radZ e)) = false) : Fok Tryz.prog 97 [edV e 3 c26, edV f 3 c26] (inP (centD e f)) := by
 unfold centD
 rw [G0, G2, H2]
 cases Q1 : inQ e (f.cx - e.cx) (f.cy - e.cy) with
 | true =>
  cases Q2 : inQ f (0 - (f.cx - e.cx)) (0 - (f.cy - e.cy)) with
  | true =>
   exact fok KF [true, true, true] [pP h1, pP h2, pT G0, pP h1, pT Q1, pP h2, pT Q2] (by kernel_rfl)
  | false =>
   cases G1 : decide (radZ e > radZ f) with
   | true =>
    cases H1 : decide (radZ f > radZ e) with
    | true =>
     exact fok KF [true, true, false, true, false, true, false] [pP h1, pP h2, pT G0, pP h1, pT Q1, pP h2, pF Q2, pT G1, pF G2, pT H1, pF H2] (by kernel_rfl)
    | false =>
     exact fok KF [true, true, false, true, false, false] [pP h1, pP h2, pT G0, pP h1, pT Q1, pP h2, pF Q2, pT G1, pF G2, pF H1] (by kernel_rfl)
   | false =>
    cases H1 : decide (radZ f > radZ e) with
    | true =>
     exact fok KF [true, true, false, false, true, false] [pP h1, pP h2, pT G0, pP h1, pT Q1, pP h2, pF Q2, pF G1, pT H1, pF H2] (by kernel_rfl)
    | false =>
     exact fok KF [true, true, false, false, false] [pP h1, pP h2, pT G0, pP h1, pT Q1, pP h2, pF Q2, pF G1, pF H1] (by kernel_rfl)
 | false =>
  cases G1 : decide (radZ e > radZ f) with
  | true =>
   cases H1 : decide (radZ f > radZ e) with
   | true =>
    exact fok KF [true, false, true, false, true, false] [pP h1, pP h2, pT G0, pP h1, pF Q1, pT G1, pF G2, pT H1, pF H2] (by kernel_rfl)
   | false =>
    exact fok KF [true, false, true, false, false] [pP h1, pP h2, pT G0, pP h1, pF Q1, pT G1, pF G2, pF H1] (by kernel_rfl)
  | false =>
   cases H1 : decide (radZ f > radZ e) with
   | true =>
    exact fok KF [true, false, false, true, false] [pP h1, pP h2, pT G0, pP h1, pF Q1, pF G1, pT H1, pF H2] (by kernel_rfl)
   | false =>
    exact fok KF [true, false, false, false] [pP h1, pP h2, pT G0, pP h1, pF Q1, pF G1, pF H1] (by kernel_rfl)
theorem dcent_b (e f : Ed) (h1 : e.ok = true) (h2 : f.ok = true) (G0 : decide (nF e f > (radZ e + radZ f) * (radZ e + radZ f)) = false) (G1 : decide (radZ e > radZ f) = true) (H1 : decide (radZ f > radZ e) = false) : Fok Tryz.prog 97 [edV e 3 c26, edV f 3 c26] (inP (centD e f)) := by
 unfold centD
 rw [G0, G1, H1]
 cases G2 : decide (nF e f < (radZ e - radZ f) * (radZ e - radZ f)) with
 | true =>
  cases Q3 : inQ e (f.cx - e.cx) (f.cy - e.cy) with
  | true =>
   cases Q4 : inQ f (f.cx - e.cx) (f.cy - e.cy) with
   | true =>
    exact fok KF [false, true, true, true, true] [pP h1, pP h2, pF G0, pT G1, pT G2, pP h1, pT Q3, pP h2, pT Q4] (by kernel_rfl)
   | false =>
    exact fok KF [false, true, true, true, false, false] [pP h1, pP h2, pF G0, pT G1, pT G2, pP h1, pT Q3, pP h2, pF Q4, pF H1] (by kernel_rfl)
  | false =>
   exact fok KF [false, true, true, false, false] [pP h1, pP h2, pF G0, pT G1, pT G2, pP h1, pF Q3, pF H1] (by kernel_rfl)
 | false =>
  exact fok KF [false, true, false, false] [pP h1, pP h2, pF G0, pT G1, pF G2, pF H1] (by kernel_rfl)
theorem dcent_c (e f : Ed) (h1 : e.ok = true) (h2 : f.ok = true) (G0 : decide (nF e f > (radZ e + radZ f) * (radZ e + radZ f)) = false) (G1 : decide (radZ e > radZ f) = false) : Fok Tryz.prog 97 [edV e 3 c26, edV f 3 c26] (inP (centD e f)) := by
 unfold centD
 rw [G0, G1]
 cases H1 : decide (radZ f > radZ e) with
 | true =>
  cases H2 : decide (nF e f < (radZ f - radZ e) * (radZ f - radZ e)) with
  | true =>
   cases Q5 : inQ e (0 - (f.cx - e.cx)) (0 - (f.cy - e.cy)) with
   | true =>
    cases Q6 : inQ f (0 - (f.cx - e.cx)) (0 - (f.cy - e.cy)) with
    | true =>
     exact fok KF [false, false, true, true, true, true] [pP h1, pP h2, pF G0, pF G1, pT H1, pT H2, pP h1, pT Q5, pP h2, pT Q6] (by kernel_rfl)
    | false =>
     exact fok KF [false, false, true, true, true, false] [pP h1, pP h2, pF G0, pF G1, pT H1, pT H2, pP h1, pT Q5, pP h2, pF Q6] (by kernel_rfl)
   | false =>
    exact fok KF [false, false, true, true, false] [pP h1, pP h2, pF G0, pF G1, pT H1, pT H2, pP h1, pF Q5] (by kernel_rfl)
  | false =>
   exact fok KF [false, false, true, false] [pP h1, pP h2, pF G0, pF G1, pT H1, pF H2] (by kernel_rfl)
 | false =>
  exact fok KF [false, false, false] [pP h1, pP h2, pF G0, pF G1, pF H1] (by kernel_rfl)
def dCent : Con where
 f := 97
 g := fun | [⟨true, l⟩, ⟨true, m⟩] => (match toEd l, toEd m with | some e, some f => some (inP (centR e f), [(e.ok = true /\ ¬ e.k = 1) /\ f.ok = true /\ ¬ f.k = 1]) | _, _ => none) | _ => none
 ok := by
  intro args res ps h hp
  split at h <;> try cases h
  split at h <;> cases h
  rename_i e f he hf
  obtain ⟨⟨⟨h1, k1⟩, h2, k2⟩, _⟩ := hp
  refine Fok.pre ?_ fun W => rvs_1 (ed_ok he h1) (rvs_1 (ed_ok hf h2) rvs_0)
  rw [<- centD_eq h1 h2 k1 k2]
  have A := add_sq (r := radZ e) (s := radZ f) (by have := rad_pos h1 k1; omega) (by have := rad_pos h2 k2; omega)
  by_cases g : (radZ e + radZ f) * (radZ e + radZ f) < nF e f
  ·exact dcent_a e f h1 h2 (gt_T g) (decide_eq_false (by omega)) (decide_eq_false (by rw [sub_sq (radZ e) (radZ f)]; omega))
  ·by_cases g3 : radZ f < radZ e
   ·exact dcent_b e f h1 h2 (gt_F g) (gt_T g3) (gt_F (by omega))
   ·exact dcent_c e f h1 h2 (gt_F g) (gt_F g3)
theorem dinner_ok (e f : Ed) (h1 : e.ok = true) (h2 : f.ok = true) : Fok Tryz.prog 57 [edV e 3 c26, edV f 3 c26] (inP (innerR e f)) := by
 by_cases ke : e.k = 1
 ·have b1 : (e.k == 1) = true := by simpa using ke
  by_cases kf : f.k = 1
  ·have b2 : (f.k == 1) = true := by simpa using kf
   rw [show innerR e f = [] by unfold innerR; rw [if_pos ke, if_pos kf]]
   exact fok [dFoot, dCent] [true, true] [pT b1, pT b2] (by kernel_rfl)
  ·have b2 : (f.k == 1) = false := by simpa using kf
   rw [show innerR e f = footR e f by unfold innerR; rw [if_pos ke, if_neg kf]]
   exact fok [dFoot, dCent] [true, false, true] [pT b1, pF b2, pT b1, pP h1, pP h2] (by kernel_rfl)
 ·have b1 : (e.k == 1) = false := by simpa using ke
  by_cases kf : f.k = 1
  ·have b2 : (f.k == 1) = true := by simpa using kf
   rw [show innerR e f = (footR f e).map Pr.swap by unfold innerR; rw [if_neg ke, if_pos kf], inP_swap]
   exact fok [dFoot, dCent] [false, false, true] [pF b1, pF b1, pT b2, pP h2, pP h1] (by kernel_rfl)
  ·have b2 : (f.k == 1) = false := by simpa using kf
   rw [show innerR e f = centR e f by unfold innerR; rw [if_neg ke, if_neg kf]]
   exact fok [dFoot, dCent] [false, false, false] [pF b1, pF b1, pF b2, pP (And.intro (And.intro h1 ke) (And.intro h2 kf))] (by kernel_rfl)
def dInner : Con where
 f := 57
 g := fun | [⟨true, l⟩, ⟨true, m⟩] => (match toEd l, toEd m with | some e, some f => some (inP (innerR e f), [e.ok = true /\ f.ok = true]) | _, _ => none) | _ => none
 ok := by
  intro args res ps h hp
  split at h <;> try cases h
  split at h <;> cases h
  rename_i e f he hf
  obtain ⟨⟨h1, h2⟩, _⟩ := hp
  exact (dinner_ok e f h1 h2).pre fun W => rvs_1 (ed_ok he h1) (rvs_1 (ed_ok hf h2) rvs_0)
end Go.Proofs.YtighahcllmoajaaGreat

namespace Go.Proofs.YtighahcllmoajaaGreat
open Go.RowKit
theorem ok_xor {e : Ed} (h : e.ok = true) (hk : ¬ e.k = 1) : e.ax - e.cx = 0 \/ e.ay - e.cy = 0 := by
 have hq : ((e.ax - e.cx == 0) != (e.ay - e.cy == 0)) = true := by
  simp only [Ed.ok, Bool.and_eq_true, if_neg hk] at h
  have h2 := h.2
  split at h2
  ·simp only [Ed.quarter, quarterB, Bool.and_eq_true] at h2
   exact h2.1
  ·split at h2
   ·simp only [Ed.quarter, quarterB, Bool.and_eq_true] at h2
    exact h2.1
   ·cases h2
 by_cases h1 : e.ax - e.cx = 0
 ·exact .inl h1
 ·by_cases h2 : e.ay - e.cy = 0
  ·exact .inr h2
  ·have e1 : (e.ax - e.cx == 0) = false := by simpa using h1
   have e2 : (e.ay - e.cy == 0) = false := by simpa using h2
   rw [e1, e2] at hq
   cases hq
theorem radZ_sum {e : Ed} (h : e.ok = true) (hk : ¬ e.k = 1) : max (e.ax - e.cx) (-(e.ax - e.cx)) + max (e.ay - e.cy) (-(e.ay - e.cy)) = radZ e := by
 have hkb : (e.k == 1) = false := by simpa using hk
 unfold radZ
 rw [h, hkb]
 simp only [Bool.not_false, Bool.and_self, if_true]
 have := ok_xor h hk
 omega
theorem radZ_sq {e : Ed} (h : e.ok = true) (hk : ¬ e.k = 1) : (e.ax - e.cx) * (e.ax - e.cx) + (e.ay - e.cy) * (e.ay - e.cy) = radZ e * radZ e := by
 rw [<- radZ_sum h hk]
 have mm : ∀ x : Int, max x (-x) * max x (-x) = x * x := by
  intro x
  rcases Int.le_total 0 x with h | h
  ·rw [show max x (-x) = x by omega]
  ·rw [show max x (-x) = -x by omega, Int.neg_mul_neg]
 rcases ok_xor h hk with h0 | h0 <;> rw [h0]
 ·rw [show max (0 : Int) (-0) = 0 by decide]
  simp only [Int.zero_add, Int.zero_mul]
  exact (mm _).symm
 ·rw [show max (0 : Int) (-0) = 0 by decide]
  simp only [Int.add_zero, Int.zero_mul]
  exact (mm _).symm
theorem sideI_zero (x : Int) : (sideI x == 0) = (x == 0) := by
 rw [Bool.eq_iff_iff]
 simp only [beq_iff_eq]
 unfold sideI
 (repeat' split) <;> omega
theorem powerI_rad {e : Ed} (h : e.ok = true) (hk : ¬ e.k = 1) (dx dy : Int) : (powerI dx dy (e.ax - e.cx) (e.ay - e.cy) == 0) = (dx * dx + dy * dy == radZ e * radZ e) := by
 have := radZ_sq h hk
 rw [Bool.eq_iff_iff]
 simp only [beq_iff_eq]
 unfold powerI
 omega
end Go.Proofs.YtighahcllmoajaaGreat

set_option maxRecDepth 100000
namespace Go.Proofs.YtighahcllmoajaaGreat
open Go.RowKit
def K7 : List Con := [d06Chk, d06Rad]
theorem don_ok (e : Ed) (px py : Int) (ho : e.ok = true) : Fok Tryz.prog 174 [edV e 3 c26, ptV px py c26] (.one (blV (onE e px py))) := by
 have E : onE e px py = (inB (min e.ax e.bx) (min e.ay e.by') (max e.ax e.bx) (max e.ay e.by') px py && (if e.k = 1 then (e.bx - e.ax) * (py - e.ay) - (e.by' - e.ay) * (px - e.ax) == 0 else (px - e.cx) * (px - e.cx) + (py - e.cy) * (py - e.cy) == radZ e * radZ e)) := by
  unfold onE
  rw [ho, Bool.true_and]
  by_cases hk : e.k = 1
  ·rw [if_pos hk, if_pos hk, sideI_zero]
  ·rw [if_neg hk, if_neg hk, powerI_rad ho hk]
 rw [E]
 unfold inB
 cases h0 : decide (min e.ax e.bx <= px) with
 | false => exact fok K7 [false, false] [pF h0, pF (chk_F ho)] (by kernel_rfl)
 | true =>
  cases h1 : decide (px <= max e.ax e.bx) with
  | false => exact fok K7 [true, false, false] [pT h0, pF h1, pF (chk_F ho)] (by kernel_rfl)
  | true =>
   cases h2 : decide (min e.ay e.by' <= py) with
   | false => exact fok K7 [true, true, false, false] [pT h0, pT h1, pF h2, pF (chk_F ho)] (by kernel_rfl)
   | true =>
    cases h3 : decide (py <= max e.ay e.by') with
    | false => exact fok K7 [true, true, true, false, true] [pT h0, pT h1, pT h2, pF (chk_F ho), pT (not_T h3)] (by kernel_rfl)
    | true =>
     by_cases hk : e.k = 1
     ·rw [if_pos hk]
      exact fok K7 [true, true, true, false, false, true] [pT h0, pT h1, pT h2, pF (chk_F ho), pF (not_F h3), pT (bq_T hk)] (by kernel_rfl)
     ·rw [if_neg hk]
      exact fok K7 [true, true, true, false, false, false] [pT h0, pT h1, pT h2, pF (chk_F ho), pF (not_F h3), pF (bq_F hk), pP ho] (by kernel_rfl)
def d06On : Con where
 f := 174
 g := fun | [⟨true, l⟩, ⟨true, [.i x A, .i y B]⟩] => if A <= c26 /\ B <= c26 then (toEd l).map fun e => (.one (blV (onE e x y)), [e.ok = true]) else none | _ => none
 ok := by
  intro args res ps h hp
  split at h <;> try cases h
  rename_i l x A y B
  split at h <;> try cases h
  rename_i hb
  cases he : toEd l with
  | none => simp [he] at h
  | some e =>
   simp only [he, Option.map_some, Option.some.injEq, Prod.mk.injEq] at h
   obtain ⟨rfl, rfl⟩ := h
   exact (don_ok e x y hp.1).pre fun W => rvs_1 (ed_ok he hp.1) (rvs_1 (pt_c26 hb.1 hb.2) rvs_0)
end Go.Proofs.YtighahcllmoajaaGreat

namespace Go.Proofs.YtighahcllmoajaaGreat
open Go.RowKit
def linesE (e f : Ed) : Int := if e.pt then onZ f e.ax e.ay else if f.pt then onZ e f.ax f.ay else linesZ e.ax e.ay e.bx e.by' f.ax f.ay f.bx f.by'
theorem sq_nonneg (x : Int) : 0 <= x * x := by
 rcases Int.le_total 0 x with h | h
 ·exact Int.mul_nonneg h h
 ·rw [<- Int.neg_mul_neg]; exact Int.mul_nonneg (by omega) (by omega)
theorem shift_lines {a b c d x y z : Int} (h1 : c - a = x) (h2 : d - a = y) (h3 : b - a = z) (h4 : 0 <= z) :
  max (min a b) (min c d) = a + max 0 (min x y) /\ min (max a b) (max c d) = a + min z (max x y) := by omega
end Go.Proofs.YtighahcllmoajaaGreat

set_option maxHeartbeats 1000000
set_option maxRecDepth 100000
namespace Go.Proofs.YtighahcllmoajaaGreat
open Go.RowKit
def d05Side : Con where
 f := 168
 g := fun | [⟨true, [.i ax A, .i ay B]⟩, ⟨true, [.i bx C, .i b D]⟩, ⟨true, [.i px E, .i py F]⟩] => if (A <= c26 /\ B <= c26) /\ (C <= c26 /\ D <= c26) /\ (E <= c26 /\ F <= c26) then some (.one (inV (sideI ((bx - ax) * (py - ay) - (b - ay) * (px - ax))) 1), []) else none | _ => none
 ok := by
  intro args res ps h hp
  split at h <;> try cases h
  split at h <;> cases h
  rename_i ax A ay B bx C b D px E py F hb
  intro W vals hv
  simp only [rvs_cons, rvs_nil, rv_t, rl_i, rl_nil] at hv
  obtain ⟨_, ⟨_, ⟨⟨a1, _⟩, _, rfl, ⟨a2, _⟩, _, rfl, rfl⟩, rfl⟩, _, rfl, _, ⟨_, ⟨⟨a3, _⟩, _, rfl, ⟨a4, _⟩, _, rfl, rfl⟩, rfl⟩, _, rfl, _, ⟨_, ⟨⟨a5, _⟩, _, rfl, ⟨a6, _⟩, _, rfl, rfl⟩, rfl⟩, _, rfl, rfl⟩ := hv
  have c1 := co_of a1 hb.1.1
  have c2 := co_of a2 hb.1.2
  have d1 := (co_of a3 hb.2.1.1).sub c1
  have d2 := (co_of a4 hb.2.1.2).sub c2
  have d3 := (co_of a5 hb.2.2.1).sub c1
  have d4 := (co_of a6 hb.2.2.2).sub c2
  have hs := sideI_bd ((bx - ax) * (py - ay) - (b - ay) * (px - ax))
  exact (r05_Side ax ay bx b px py W d1.i64 d2.i64 d3.i64 d4.i64 (d1.mul64 d4) (d2.mul64 d3) (d1.cross d4 d2 d3)).mono fun _ _ h => gv_in ⟨by omega, by unfold I64; omega⟩ h
def K8 : List Con := [d06On, d05Side]
theorem crossP {e : Ed} (h : (e.ax == e.bx && e.ay == e.by') = true) : e.bx - e.ax = 0 /\ e.by' - e.ay = 0 := by
 simp only [Bool.and_eq_true, beq_iff_eq] at h
 omega
theorem le_TR {a b : Int} (h : a <= b) : decide (a <= b) = true := by simpa using h
theorem le_FR {a b : Int} (h : ¬ a <= b) : decide (a <= b) = false := by simpa using h
theorem ltq_T {x y u v : Int} (h1 : x = u) (h2 : y = v) (h : u < v) : decide (x < y) = true := by subst h1 h2; simpa using h
theorem ltq_F {x y u v : Int} (h1 : x = u) (h2 : y = v) (h : ¬ u < v) : decide (x < y) = false := by subst h1 h2; simpa using h
theorem eqq_T {x y u v : Int} (h1 : x = u) (h2 : y = v) (h : u = v) : (x == y) = true := by subst h1 h2; simpa using h
theorem eqq_F {x y u v : Int} (h1 : x = u) (h2 : y = v) (h : ¬ u = v) : (x == y) = false := by subst h1 h2; simpa using h
theorem dlines_ok (e f : Ed) (h1 : e.ok = true) (h2 : f.ok = true) : Fok Tryz.prog 132 [edV e 3 c26, edV f 3 c26] (.one (inV (linesE e f) lim)) := by
 unfold linesE
 by_cases c : (e.bx - e.ax) * (f.by' - f.ay) - (e.by' - e.ay) * (f.bx - f.ax) ≠ 0
 ·have pe : e.pt = false := by
   rw [pt_eq]
   cases h : (e.ax == e.bx && e.ay == e.by') with
   | false => rfl
   | true => obtain ⟨x, y⟩ := crossP h; rw [x, y] at c; simp at c
  have pf : f.pt = false := by
   rw [pt_eq]
   cases h : (f.ax == f.bx && f.ay == f.by') with
   | false => rfl
   | true => obtain ⟨x, y⟩ := crossP h; rw [x, y] at c; simp at c
  rw [pe, pf]
  simp only [Bool.false_eq_true, if_false]
  unfold linesZ
  rw [if_pos c]
  by_cases g1 : sideI (crI e.ax e.ay e.bx e.by' f.ax f.ay) * sideI (crI e.ax e.ay e.bx e.by' f.bx f.by') <= 0
  ·rw [if_neg (by omega)]
   by_cases g2 : sideI (crI f.ax f.ay f.bx f.by' e.ax e.ay) * sideI (crI f.ax f.ay f.bx f.by' e.bx e.by') <= 0
   ·rw [if_neg (by omega)]
    exact fok K8 [true, true, true] [pT (ne_T c), pT (le_TR g1), pT (le_TR g2)] (by kernel_rfl)
   ·rw [if_pos (by omega)]
    exact fok K8 [true, true, false] [pT (ne_T c), pT (le_TR g1), pF (le_FR g2)] (by kernel_rfl)
  ·rw [if_pos (by omega)]
   exact fok K8 [true, false] [pT (ne_T c), pF (le_FR g1)] (by kernel_rfl)
 cases pe : (e.ax == e.bx && e.ay == e.by') with
 | true =>
  rw [pt_eq, pe, if_pos rfl]
  unfold onZ
  cases ho : onE f e.ax e.ay with
  | true => exact fok K8 [false, true, true] [pF (ne_F c), pT pe, pP h2, pT ho] (by kernel_rfl)
  | false => exact fok K8 [false, true, false] [pF (ne_F c), pT pe, pP h2, pF ho] (by kernel_rfl)
 | false =>
  rw [pt_eq, pe, if_neg (by simp)]
  cases pf : (f.ax == f.bx && f.ay == f.by') with
  | true =>
   rw [pt_eq, pf, if_pos rfl]
   unfold onZ
   cases ho : onE e f.ax f.ay with
   | true => exact fok K8 [false, false, true, true] [pF (ne_F c), pF pe, pT pf, pP h1, pT ho] (by kernel_rfl)
   | false => exact fok K8 [false, false, true, false] [pF (ne_F c), pF pe, pT pf, pP h1, pF ho] (by kernel_rfl)
  | false =>
   rw [pt_eq, pf, if_neg (by simp)]
   unfold linesZ
   rw [if_neg c]
   by_cases s : sideI (crI e.ax e.ay e.bx e.by' f.ax f.ay) ≠ 0
   ·rw [if_pos s]
    exact fok K8 [false, false, false, true] [pF (ne_F c), pF pe, pF pf, pT (ne_T s)] (by kernel_rfl)
   rw [if_neg s]
   have nn : 0 <= (e.bx - e.ax) * (e.bx - e.ax) + (e.by' - e.ay) * (e.by' - e.ay) := by
    have := sq_nonneg (e.bx - e.ax); have := sq_nonneg (e.by' - e.ay); omega
   obtain ⟨m1, m2⟩ := shift_lines (a := e.ax * (e.bx - e.ax) + e.ay * (e.by' - e.ay)) (b := e.bx * (e.bx - e.ax) + e.by' * (e.by' - e.ay)) (c := f.ax * (e.bx - e.ax) + f.ay * (e.by' - e.ay)) (d := f.bx * (e.bx - e.ax) + f.by' * (e.by' - e.ay))
    (x := (f.ax - e.ax) * (e.bx - e.ax) + (f.ay - e.ay) * (e.by' - e.ay)) (y := (f.bx - e.ax) * (e.bx - e.ax) + (f.by' - e.ay) * (e.by' - e.ay)) (z := (e.bx - e.ax) * (e.bx - e.ax) + (e.by' - e.ay) * (e.by' - e.ay)) (by grind) (by grind) (by grind) nn
   split
   ·rename_i g
    exact fok K8 [false, false, false, false, true] [pF (ne_F c), pF pe, pF pf, pF (ne_F s), pT (ltq_T m1 m2 (Int.add_lt_add_left g _))] (by kernel_rfl)
   ·rename_i g
    split
    ·rename_i g2
     exact fok K8 [false, false, false, false, false, true] [pF (ne_F c), pF pe, pF pf, pF (ne_F s), pF (ltq_F m1 m2 (fun h => g (Int.lt_of_add_lt_add_left h))), pT (eqq_T m1 m2 (congrArg _ g2))] (by kernel_rfl)
    ·rename_i g2
     exact fok K8 [false, false, false, false, false, false] [pF (ne_F c), pF pe, pF pf, pF (ne_F s), pF (ltq_F m1 m2 (fun h => g (Int.lt_of_add_lt_add_left h))), pF (eqq_F m1 m2 (fun h => g2 (Int.add_left_cancel h)))] (by kernel_rfl)
theorem linesE_bd (e f : Ed) : (linesE e f).natAbs <= 4 := by
 have b1 := onZ_bd e f.ax f.ay
 have b2 := onZ_bd f e.ax e.ay
 have b3 := linesZ_bd e.ax e.ay e.bx e.by' f.ax f.ay f.bx f.by'
 unfold linesE
 (repeat' split) <;> omega
def d07Lines : Con where
 f := 132
 g := fun | [⟨true, l⟩, ⟨true, m⟩] => (match toEd l, toEd m with | some e, some f => some (.one (inV (linesE e f) 4), [e.ok = true, f.ok = true]) | _, _ => none) | _ => none
 ok := by
  intro args res ps h hp
  split at h <;> try cases h
  split at h <;> cases h
  rename_i e f he hf
  exact ((dlines_ok e f hp.1 hp.2.1).bd (linesE_bd e f)).pre fun W => rvs_1 (ed_ok he hp.1) (rvs_1 (ed_ok hf hp.2.1) rvs_0)
end Go.Proofs.YtighahcllmoajaaGreat

namespace Go.Proofs.YtighahcllmoajaaGreat
open Go.RowKit
def b01 (b : Bool) : Int := if b then 1 else 0
theorem sideZ_zero (x y z : Int) : sideZ x y 0 = sideZ x z 0 := by
 have e (b : Int) : sgn b * sgn (0 : Int) = 0 := by rw [show sgn (0 : Int) = 0 by decide, Int.mul_zero]
 unfold sideZ
 rw [e, e, Int.mul_zero, if_pos (Int.le_refl 0), if_pos (Int.le_refl 0)]
theorem goodS_zero (s t : Int) (l : List (Int × Int)) : goodS 0 s l = goodS 0 t l := by
 unfold goodS
 congr 1
 funext p
 rw [sideZ_zero p.1 (s * p.2) (t * p.2)]
theorem b01_bd (b : Bool) : 0 <= b01 b /\ b01 b <= 1 := by cases b <;> decide
theorem digs_len (d : Int) : (digs d.natAbs).length = 0 ↔ d = 0 := by
 constructor
 ·intro h
  have h2 := val_digs d.natAbs
  rw [List.eq_nil_of_length_eq_zero h] at h2
  have h3 : d.natAbs = 0 := h2.symm
  omega
 ·rintro rfl
  show (digs 0).length = 0
  rw [digs_zero]
  rfl
theorem countZ_ref {d : Int} {l : List (Int × Int)} {a b : Bool} (ha : goodS d (-1) l = a) (hb : goodS d 1 l = b) :
  countZ d l = if d < 0 then 0 else if d = 0 then b01 a else b01 a + b01 b := by
 have fl : ∀ (s : Sgn) (c : Bool), goodS d s.1 l = c -> countL d l [s] = b01 c := by
  intro s c h
  unfold countL b01
  cases c <;> simp [h]
 have fm := fl sM a ha
 have fp := fl sP b hb
 unfold countZ signL
 by_cases h : d < 0
 ·rw [if_pos h, if_pos (decide_eq_true h)]
  rfl
 ·rw [if_neg h, if_neg (by simp; omega)]
  by_cases h0 : d = 0
  ·subst h0
   rw [if_pos rfl, if_pos ((digs_len 0).2 rfl)]
   rw [fp, <- hb, goodS_zero 1 (-1), ha]
  ·rw [if_neg h0, if_neg (fun h1 => h0 ((digs_len d).1 h1))]
   have : countL d l [sP, sM] = countL d l ([sP] ++ [sM]) := rfl
   rw [this, countL_snoc, fp]
   show b01 b + (if goodS d (-1) l then 1 else 0) = _
   rw [ha]
   unfold b01
   omega
end Go.Proofs.YtighahcllmoajaaGreat

namespace Go.Proofs.YtighahcllmoajaaGreat
open Go.RowKit
def KX : List Con := [d1ZOf, d1ZMul, d1ZSub, d2Sign, d06Rad]
end Go.Proofs.YtighahcllmoajaaGreat

set_option maxRecDepth 100000
namespace Go.Proofs.YtighahcllmoajaaGreat
open Go.RowKit
def cP : Nat := 4294967296 ^ 19
theorem daxes_ok (e : Ed) (ho : e.ok = true) (hr : radZ e ≠ 0) : Fok Tryz.prog 169 [edV e 3 c26] (.one ⟨true, [.i e.ux 134217728, .i e.uy 134217728, .i e.vx 134217728, .i e.vy 134217728]⟩) :=
 fokB KX [] [pP ho, pP hr, pP hr, pP hr, pP hr] [] (by kernel_rfl)
def d7Axes : Con where
 f := 169
 g := fun | [⟨true, l⟩] => (toEd l).map fun e => (.one ⟨true, [.i e.ux 134217728, .i e.uy 134217728, .i e.vx 134217728, .i e.vy 134217728]⟩, [e.ok = true /\ radZ e ≠ 0]) | _ => none
 ok := by
  intro args res ps h hp
  split at h <;> try cases h
  rename_i l
  cases he : toEd l with
  | none => simp [he] at h
  | some e =>
   simp only [he, Option.map_some, Option.some.injEq, Prod.mk.injEq] at h
   obtain ⟨rfl, rfl⟩ := h
   exact (daxes_ok e hp.1.1 hp.1.2).pre fun W => rvs_1 (ed_ok he hp.1.1) rvs_0
theorem dpos_ok (x y d s : Int) (h : 0 <= d) : Fok Tryz.prog 173 [ziV x cP, inV s 1, ziV y cP, ziV d cP] (.one (blV (decide (sideZ x (s * y) d ≥ 0)))) :=
 fok KX [] [pP h] (by kernel_rfl)
def d7Pos : Con where
 f := 173
 g := fun | [⟨true, [.d (.zi x A)]⟩, ⟨false, [.i s S]⟩, ⟨true, [.d (.zi y B)]⟩, ⟨true, [.d (.zi d D)]⟩] => if (A <= cP /\ S <= 1) /\ (B <= cP /\ D <= cP) then some (.one (blV (decide (sideZ x (s * y) d ≥ 0))), [0 <= d]) else none | _ => none
 ok := by
  intro args res ps h hp
  split at h <;> try cases h
  split at h <;> cases h
  rename_i hb
  exact (dpos_ok _ _ _ _ hp.1).pre fun W => rvs_1 (zi_up hb.1.1) (rvs_1 (in_up hb.1.2) (rvs_1 (zi_up hb.2.1) (rvs_1 (zi_up hb.2.2) rvs_0)))
def KY : List Con := [d1ZOf, d1ZMul, d1ZSub, d7Axes, d7Pos, d06Rad]
end Go.Proofs.YtighahcllmoajaaGreat
