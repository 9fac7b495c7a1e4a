/- MeetEnds, its plain part: an edge that is moved to begin at an end of another; an edge and a point. | MeetTurns, its plain part: neither the order nor the directions of edges play a part, nor does a motion of both: lines and counts of signs. | MeetTurns, its plain part: the number of common points does not depend on the order of two edges, nor on which end comes first. | Contract: edge.Reverse, of a valid edge. -/
import Derived.Test.YtmmhiiiaccldmaaJ33
import Derived.Test.YtmmhiiiaccldmaaJ34
import Derived.Test.YtmmhiiiaccldmaaJ29
import Derived.Test.YtmmhiiiaccldmaaJ11
import Derived.Deep.DeepCutAuto
set_option linter.unusedVariables false
set_option linter.unusedSimpArgs false

namespace Go.Proofs.Ytmmhiiiaccldmaa
open Go.RowKit

/-- Small coordinates. -/
def Sm (x : Int) : Prop := -50 ≤ x ∧ x ≤ 50
theorem madeE_small (L : List Int) : Sm (madeE L 1).ax ∧ Sm (madeE L 1).ay ∧ Sm (madeE L 1).bx ∧ Sm (madeE L 1).by' ∧ Sm (madeE L 1).cx ∧ Sm (madeE L 1).cy := by
  obtain ⟨x, y, z, v, e, h1, h2, h3, h4, h5, h6, h7, h8⟩ | ⟨x, y, r, ux, uy, vx, vy, k, e, h1, h2, h3, h4, h5, h6, hu, hk⟩ := madeE_form L 1 (by omega)
  · rw [e]
    unfold Sm
    simp only
    omega
  · rw [e]
    unfold Sm
    simp only [Int.one_mul]
    rcases hu with ⟨rfl, rfl⟩ | ⟨rfl, rfl⟩ | ⟨rfl, rfl⟩ | ⟨rfl, rfl⟩ <;> rcases hk with ⟨_, rfl, rfl⟩ | ⟨_, rfl, rfl⟩ <;> simp <;> omega
theorem applyP_shift (x y px py : Int) : applyP x y 0 false px py = (px + x, py + y) := by simp [applyP, mir, rot]
/-- An edge that is moved without a turn. -/
theorem shift_ok {e : Ed} (h : e.ok = true) (h1 : Sm e.ax) (h2 : Sm e.ay) (h3 : Sm e.bx) (h4 : Sm e.by') (h5 : Sm e.cx) (h6 : Sm e.cy) {x y : Int} (hx : -100 ≤ x ∧ x ≤ 100) (hy : -100 ≤ y ∧ y ≤ 100) : (moveE e x y 0 false).ok = true := by
  unfold Sm at *
  have ca : ∀ a b c : Int, a + c - (b + c) = a - b := fun a b c => by omega
  have hr : (moveE e x y 0 false).right = true := by
    unfold Ed.right moveE
    simp only [applyP_shift, Bool.and_eq_true]
    refine ⟨⟨coordB_iff.2 ⟨by unfold Co; omega, by unfold Co; omega⟩, coordB_iff.2 ⟨by unfold Co; omega, by unfold Co; omega⟩⟩, coordB_iff.2 ⟨?_, ?_⟩⟩
    · unfold Co; split <;> omega
    · unfold Co; split <;> omega
  have hk : (moveE e x y 0 false).k = e.k := rfl
  unfold Ed.ok at h ⊢
  rw [hr, hk]
  simp only [Bool.and_eq_true, Bool.true_and] at h ⊢
  have h2' := h.2
  by_cases k1 : e.k = 1
  · rw [if_pos k1] at h2' ⊢
    unfold Ed.lone moveE at *
    simpa [k1] using h2'
  · rw [if_neg k1] at h2' ⊢
    have q (t : Nat) : (moveE e x y 0 false).quarter t = e.quarter t := by
      unfold Ed.quarter moveE
      simp only [applyP_shift, if_neg k1, ca]
    rw [q, q]
    exact h2'
/-- An edge meets one that begins at its end. -/
theorem ends_meet (L M : List Int) : (moveE (madeE M 1) ((madeE L 1).bx - (madeE M 1).ax) ((madeE L 1).by' - (madeE M 1).ay) 0 false).ok = true ∧ countE (madeE L 1) (moveE (madeE M 1) ((madeE L 1).bx - (madeE M 1).ax) ((madeE L 1).by' - (madeE M 1).ay) 0 false) ≠ 0 := by
  obtain ⟨a1, a2, a3, a4, a5, a6⟩ := madeE_small L
  obtain ⟨b1, b2, b3, b4, b5, b6⟩ := madeE_small M
  have oa := madeE_ok L 1 (by omega)
  have ob := madeE_ok M 1 (by omega)
  have om : (moveE (madeE M 1) ((madeE L 1).bx - (madeE M 1).ax) ((madeE L 1).by' - (madeE M 1).ay) 0 false).ok = true :=
    shift_ok ob b1 b2 b3 b4 b5 b6 (by unfold Sm at *; omega) (by unfold Sm at *; omega)
  refine ⟨om, ?_⟩
  have e1 := end_b oa
  have e2 := end_a om
  have f1 : (moveE (madeE M 1) ((madeE L 1).bx - (madeE M 1).ax) ((madeE L 1).by' - (madeE M 1).ay) 0 false).ax = (madeE L 1).bx := by unfold moveE; simp only [applyP_shift]; omega
  have f2 : (moveE (madeE M 1) ((madeE L 1).bx - (madeE M 1).ax) ((madeE L 1).by' - (madeE M 1).ay) 0 false).ay = (madeE L 1).by' := by unfold moveE; simp only [applyP_shift]; omega
  rw [f1, f2] at e2
  exact common_point e1 e2
/-- An edge and a point. -/
theorem count_point {e : Ed} (h : e.ok = true) {x y : Int} (hx : Co x) (hy : Co y) : countE e ⟨1, x, y, x, y, 0, 0⟩ = onZ e x y := by
  have op : (Ed.mk 1 x y x y 0 0).ok = true := line_ok hx hy hx hy
  have pp : (Ed.mk 1 x y x y 0 0).pt = true := by simp [Ed.pt]
  unfold countE
  rw [h, op, pp]
  simp only [Bool.and_self, Bool.not_true, Bool.false_eq_true, if_false, if_true]
  by_cases k1 : e.k = 1
  · rw [if_pos k1]
    cases p1 : e.pt with
    | true =>
      rw [if_pos rfl]
      have hq : e.ax = e.bx ∧ e.ay = e.by' := by simpa [Ed.pt] using p1
      unfold onZ
      have : onE (Ed.mk 1 x y x y 0 0) e.ax e.ay = onE e x y := by
        rw [Bool.eq_iff_iff]
        constructor
        · intro g
          obtain ⟨g1, g2⟩ := pt_on rfl pp g
          simp only at g1 g2
          rw [← g1, ← g2]
          exact onE_self h k1
        · intro g
          obtain ⟨g1, g2⟩ := pt_on k1 p1 g
          rw [← g1, ← g2]
          exact onE_self op rfl
      rw [this]
    | false => simp
  · rw [if_neg k1]
end Go.Proofs.Ytmmhiiiaccldmaa

namespace Go.Proofs.Ytmmhiiiaccldmaa
open Go.RowKit

/-- All second numbers negated. -/
def negs (l : List (Int × Int)) : List (Int × Int) := l.map fun p => (p.1, -p.2)
theorem goodS_negs (d s : Int) (l : List (Int × Int)) : goodS d s (negs l) = goodS d (-s) l := by
  unfold goodS negs
  rw [List.all_map]
  congr 1
  funext p
  simp only [Function.comp_apply, Int.mul_neg, Int.neg_mul]
theorem sideZ_d0 (x y z : Int) : sideZ x y 0 = sideZ x z 0 := by
  unfold sideZ
  rw [sgn_zero]
  simp only [Int.mul_zero]
theorem goodS_d0 (s t : Int) (l : List (Int × Int)) : goodS 0 s l = goodS 0 t l := by
  unfold goodS
  congr 1
  funext p
  rw [sideZ_d0 p.1 (s * p.2) (t * p.2)]
theorem countC_negs (d : Int) (l : List (Int × Int)) : countC d (negs l) = countC d l := by
  unfold countC
  by_cases h : d < 0
  · rw [if_pos h, if_pos h]
  · rw [if_neg h, if_neg h]
    by_cases h0 : d = 0
    · subst h0
      rw [if_pos rfl, if_pos rfl, goodS_negs, goodS_d0 (-1) 1]
    · rw [if_neg h0, if_neg h0, goodS_negs, goodS_negs, Int.neg_neg]
      omega
theorem goodS_perm {d s : Int} {l l' : List (Int × Int)} (h : l.Perm l') : goodS d s l = goodS d s l' := by
  unfold goodS
  rw [Bool.eq_iff_iff, List.all_eq_true, List.all_eq_true]
  exact ⟨fun g x hx => g x (h.mem_iff.2 hx), fun g x hx => g x (h.mem_iff.1 hx)⟩
theorem countC_perm {d : Int} {l l' : List (Int × Int)} (h : l.Perm l') : countC d l = countC d l' := by
  unfold countC
  rw [goodS_perm h, goodS_perm h]
theorem perm4 {α : Type} (a b c d : α) : [a, b, c, d].Perm [b, a, d, c] :=
  (List.Perm.swap b a [c, d]).trans (.cons b (.cons a (.swap d c [])))
theorem perm_uv {α : Type} (a b c d : α) : [a, b, c, d].Perm [a, b, d, c] := .cons a (.cons b (.swap d c []))
theorem perm_lr {α : Type} (a b c d : α) : [a, b, c, d].Perm [c, d, a, b] := List.perm_append_comm (l₁ := [a, b]) (l₂ := [c, d])
theorem perm_ab {α : Type} (a b c d : α) : [a, b, c, d].Perm [b, a, c, d] := .swap b a [c, d]

/-- How two intervals overlap. -/
def ov (p q r s : Int) : Int :=
  if max (min p q) (min r s) < min (max p q) (max r s) then -1 else if max (min p q) (min r s) = min (max p q) (max r s) then 1 else 0
theorem ov_comm (p q r s : Int) : ov p q r s = ov r s p q := by unfold ov; rw [Int.max_comm (min p q), Int.min_comm (max p q)]
theorem ov_flip (p q r s : Int) : ov p q r s = ov q p r s := by unfold ov; rw [Int.min_comm p q, Int.max_comm p q]
theorem ov_shift (p q r s t : Int) : ov (p + t) (q + t) (r + t) (s + t) = ov p q r s := by
  unfold ov
  (repeat' split) <;> omega
theorem max_pos {k p q : Int} (h : 0 < k) : max (k * p) (k * q) = k * max p q := by
  rcases Int.le_total p q with g | g
  · have := Int.mul_le_mul_of_nonneg_left g (Int.le_of_lt h)
    rw [Int.max_eq_right g, Int.max_eq_right this]
  · have := Int.mul_le_mul_of_nonneg_left g (Int.le_of_lt h)
    rw [Int.max_eq_left g, Int.max_eq_left this]
theorem min_pos {k p q : Int} (h : 0 < k) : min (k * p) (k * q) = k * min p q := by
  rcases Int.le_total p q with g | g
  · have := Int.mul_le_mul_of_nonneg_left g (Int.le_of_lt h)
    rw [Int.min_eq_left g, Int.min_eq_left this]
  · have := Int.mul_le_mul_of_nonneg_left g (Int.le_of_lt h)
    rw [Int.min_eq_right g, Int.min_eq_right this]
theorem ov_pos {k : Int} (h : 0 < k) (p q r s : Int) : ov (k * p) (k * q) (k * r) (k * s) = ov p q r s := by
  unfold ov
  rw [max_pos h, max_pos h, min_pos h, min_pos h, max_pos h, min_pos h]
  have e1 (x y : Int) : k * x < k * y ↔ x < y := Int.mul_lt_mul_left h
  have e2 (x y : Int) : k * x = k * y ↔ x = y := Int.mul_eq_mul_left_iff (by omega)
  simp only [e1, e2]
theorem ov_neg (p q r s : Int) : ov (-p) (-q) (-r) (-s) = ov p q r s := by
  unfold ov
  (repeat' split) <;> omega
theorem ov_scale {k : Int} (h : k ≠ 0) (p q r s : Int) : ov (k * p) (k * q) (k * r) (k * s) = ov p q r s := by
  rcases Int.lt_or_gt_of_ne h with g | g
  · rw [← ov_neg (k * p), ← Int.neg_mul, ← Int.neg_mul, ← Int.neg_mul, ← Int.neg_mul]
    exact ov_pos (by omega) ..
  · exact ov_pos g ..

theorem sideI_ne {n : Int} : sideI n ≠ 0 ↔ n ≠ 0 := by unfold sideI; (repeat' split) <;> omega
theorem sideI_opp (n : Int) : sideI (-n) = -sideI n := by unfold sideI; (repeat' split) <;> omega
/-- linesZ by the vectors alone. -/
theorem linesZ_eq (px py qx qy rx ry sx sy : Int) : linesZ px py qx qy rx ry sx sy =
    if (qx - px) * (sy - ry) - (qy - py) * (sx - rx) ≠ 0 then
      if 0 < sideI (crI px py qx qy rx ry) * sideI (crI px py qx qy sx sy) ∨ 0 < sideI (crI rx ry sx sy px py) * sideI (crI rx ry sx sy qx qy) then 0 else 1
    else if crI px py qx qy rx ry ≠ 0 then 0
    else ov 0 ((qx - px) * (qx - px) + (qy - py) * (qy - py)) ((rx - px) * (qx - px) + (ry - py) * (qy - py)) ((sx - px) * (qx - px) + (sy - py) * (qy - py)) := by
  have hs : 0 ≤ (qx - px) * (qx - px) + (qy - py) * (qy - py) := by
    have a1 : 0 ≤ (qx - px) * (qx - px) := by rw [← Int.natAbs_mul_self]; omega
    have a2 : 0 ≤ (qy - py) * (qy - py) := by rw [← Int.natAbs_mul_self]; omega
    omega
  unfold linesZ ov
  simp only [sideI_ne]
  obtain ⟨S, hS⟩ : ∃ z, (qx - px) * (qx - px) + (qy - py) * (qy - py) = z := ⟨_, rfl⟩
  rw [hS] at hs ⊢
  rw [Int.min_eq_left hs, Int.max_eq_right hs]
  split
  · split
    · rename_i h; rw [if_pos (.inl h)]
    · rename_i h
      split
      · rename_i h2; rw [if_pos (.inr h2)]
      · rename_i h2; rw [if_neg (fun g => g.elim h h2)]
  · rfl
theorem linesZ_comm {px py qx qy rx ry sx sy : Int} (hn : ¬ (px = qx ∧ py = qy)) (hm : ¬ (rx = sx ∧ ry = sy)) : linesZ rx ry sx sy px py qx qy = linesZ px py qx qy rx ry sx sy := by
  rw [linesZ_eq, linesZ_eq]
  by_cases hD : (qx - px) * (sy - ry) - (qy - py) * (sx - rx) = 0
  · have hD' : (sx - rx) * (qy - py) - (sy - ry) * (qx - px) = 0 := by grind
    rw [if_neg (not_not_intro hD'), if_neg (not_not_intro hD)]
    have p1 := sq_pos (x := qx - px) (y := qy - py) (by omega)
    have p2 := sq_pos (x := sx - rx) (y := sy - ry) (by omega)
    have hg : (qx - px) * (sx - rx) + (qy - py) * (sy - ry) ≠ 0 := by
      intro h
      have e : ((qx - px) * (qx - px) + (qy - py) * (qy - py)) * ((sx - rx) * (sx - rx) + (sy - ry) * (sy - ry)) = 0 := by grind
      have := Int.mul_pos p1 p2
      omega
    by_cases hc : crI px py qx qy rx ry = 0
    · have hc' : crI rx ry sx sy px py = 0 := by
        unfold crI at hc ⊢
        by_cases hx : qx - px = 0
        · refine zero_of_mul (c := qy - py) (fun e => hn ⟨by omega, by omega⟩) ?_
          grind
        · refine zero_of_mul (c := qx - px) hx ?_
          grind
      rw [if_neg (not_not_intro hc'), if_neg (not_not_intro hc)]
      unfold crI at hc
      rw [← ov_pos p1, ← ov_shift _ _ _ _ (((qx - px) * (sx - rx) + (qy - py) * (sy - ry)) * ((rx - px) * (qx - px) + (ry - py) * (qy - py))),
        show ((qx - px) * (qx - px) + (qy - py) * (qy - py)) * 0 + ((qx - px) * (sx - rx) + (qy - py) * (sy - ry)) * ((rx - px) * (qx - px) + (ry - py) * (qy - py)) = ((qx - px) * (sx - rx) + (qy - py) * (sy - ry)) * ((rx - px) * (qx - px) + (ry - py) * (qy - py)) by grind,
        show ((qx - px) * (qx - px) + (qy - py) * (qy - py)) * ((sx - rx) * (sx - rx) + (sy - ry) * (sy - ry)) + ((qx - px) * (sx - rx) + (qy - py) * (sy - ry)) * ((rx - px) * (qx - px) + (ry - py) * (qy - py)) = ((qx - px) * (sx - rx) + (qy - py) * (sy - ry)) * ((sx - px) * (qx - px) + (sy - py) * (qy - py)) by grind,
        show ((qx - px) * (qx - px) + (qy - py) * (qy - py)) * ((px - rx) * (sx - rx) + (py - ry) * (sy - ry)) + ((qx - px) * (sx - rx) + (qy - py) * (sy - ry)) * ((rx - px) * (qx - px) + (ry - py) * (qy - py)) = ((qx - px) * (sx - rx) + (qy - py) * (sy - ry)) * 0 by grind,
        show ((qx - px) * (qx - px) + (qy - py) * (qy - py)) * ((qx - rx) * (sx - rx) + (qy - ry) * (sy - ry)) + ((qx - px) * (sx - rx) + (qy - py) * (sy - ry)) * ((rx - px) * (qx - px) + (ry - py) * (qy - py)) = ((qx - px) * (sx - rx) + (qy - py) * (sy - ry)) * ((qx - px) * (qx - px) + (qy - py) * (qy - py)) by grind,
        ov_scale hg, ov_comm]
    · have hc' : ¬ crI rx ry sx sy px py = 0 := by
        intro h
        apply hc
        unfold crI at h ⊢
        by_cases hx : sx - rx = 0
        · refine zero_of_mul (c := sy - ry) (fun e => hm ⟨by omega, by omega⟩) ?_
          grind
        · refine zero_of_mul (c := sx - rx) hx ?_
          grind
      rw [if_pos hc', if_pos hc]
  · have hD' : (sx - rx) * (qy - py) - (sy - ry) * (qx - px) ≠ 0 := by
      intro h; apply hD; grind
    rw [if_pos hD', if_pos hD]
    simp only [Or.comm]
theorem linesZ_rev (px py qx qy rx ry sx sy : Int) : linesZ qx qy px py rx ry sx sy = linesZ px py qx qy rx ry sx sy := by
  rw [linesZ_eq, linesZ_eq]
  have e1 : crI qx qy px py rx ry = -crI px py qx qy rx ry := by unfold crI; grind
  have e2 : crI qx qy px py sx sy = -crI px py qx qy sx sy := by unfold crI; grind
  have e3 : (px - qx) * (sy - ry) - (py - qy) * (sx - rx) = -((qx - px) * (sy - ry) - (qy - py) * (sx - rx)) := by grind
  rw [e1, e2, e3, sideI_opp, sideI_opp, Int.neg_mul_neg, Int.mul_comm (sideI (crI rx ry sx sy qx qy))]
  simp only [ne_eq, Int.neg_eq_zero]
  have e4 : (px - qx) * (px - qx) + (py - qy) * (py - qy) = (qx - px) * (qx - px) + (qy - py) * (qy - py) := by grind
  have e5 : (rx - qx) * (px - qx) + (ry - qy) * (py - qy) = -((rx - px) * (qx - px) + (ry - py) * (qy - py)) + ((qx - px) * (qx - px) + (qy - py) * (qy - py)) := by grind
  have e6 : (sx - qx) * (px - qx) + (sy - qy) * (py - qy) = -((sx - px) * (qx - px) + (sy - py) * (qy - py)) + ((qx - px) * (qx - px) + (qy - py) * (qy - py)) := by grind
  rw [e4, e5, e6]
  obtain ⟨S, hS⟩ : ∃ z, (qx - px) * (qx - px) + (qy - py) * (qy - py) = z := ⟨_, rfl⟩
  rw [hS]
  have k (a b : Int) : ov 0 S (-a + S) (-b + S) = ov 0 S a b := by
    rw [← ov_neg 0 S a b, ← ov_shift (-0) (-S) (-a) (-b) S, show -0 + S = S by omega, show -S + S = 0 by omega, ov_flip S 0]
  rw [k]
end Go.Proofs.Ytmmhiiiaccldmaa

namespace Go.Proofs.Ytmmhiiiaccldmaa
open Go.RowKit

theorem beq_swap (a b : Int) : (a == b) = (b == a) := by rw [Bool.eq_iff_iff, beq_iff_eq, beq_iff_eq]; exact eq_comm
theorem bne_swap (a b : Bool) : (a != b) = (b != a) := by cases a <;> cases b <;> rfl
theorem sameZ_comm (q a b c d : Bool) : sameZ q a c b d = sameZ q a b c d := by
  unfold sameZ
  rw [show one a q + one c q + one b q + one d q = one a q + one b q + one c q + one d q by omega]
theorem sameZ_rev (q a b c d : Bool) : sameZ q c d a b = sameZ q a b c d := by
  unfold sameZ
  rw [show one c q + one d q + one a q + one b q = one a q + one b q + one c q + one d q by omega]
theorem arcsZ_comm (e f : Ed) : arcsZ f e = arcsZ e f := by
  unfold arcsZ
  by_cases hc : e.cx = f.cx ∧ e.cy = f.cy
  · rw [if_pos hc, if_pos ⟨hc.1.symm, hc.2.symm⟩, beq_swap (radZ f), beq_swap f.ux e.ux, beq_swap f.uy e.uy, beq_swap f.ux e.vx, beq_swap f.uy e.vy, beq_swap f.vx e.ux, beq_swap f.vy e.uy, beq_swap f.vx e.vx, beq_swap f.vy e.vy]
    exact sameZ_comm ..
  · rw [if_neg hc, if_neg (fun g => hc ⟨g.1.symm, g.2.symm⟩), countZ_eq, countZ_eq]
    have hk : (aaE f e).k = 2 * (aaE e f).S - (aaE e f).k := by
      unfold AA.k aaE
      simp only
      grind
    have hS : (aaE f e).S = (aaE e f).S := by
      unfold aaE
      simp only
      grind
    have hkk : (aaE e f).k = (aaE e f).S - (radZ f * radZ f - radZ e * radZ e) := rfl
    have hd : (aaE f e).delta = (aaE e f).delta := by
      unfold AA.delta
      rw [hS, hk, hkk]
      have e1 : (aaE f e).r = radZ f := rfl
      have e2 : (aaE e f).r = radZ e := rfl
      rw [e1, e2]
      grind
    obtain ⟨k, K⟩ : ∃ k, (aaE e f).k = k := ⟨_, rfl⟩
    obtain ⟨S, hS'⟩ : ∃ S, (aaE e f).S = S := ⟨_, rfl⟩
    have hl : (aaE f e).list = negs [((k - 2 * S) * (aaE e f).ds, (aaE e f).ps), ((k - 2 * S) * (aaE e f).dt, (aaE e f).pt), (k * (aaE e f).du, (aaE e f).pu), (k * (aaE e f).dv, (aaE e f).pv)] := by
      unfold AA.list negs
      rw [hk, hS, K, hS']
      simp only [List.map_cons, List.map_nil, List.cons.injEq, Prod.mk.injEq, and_true, aaE]
      (repeat' apply And.intro) <;> grind
    rw [hd, hl, countC_negs, countC_perm (perm_lr ..)]
    unfold AA.list
    rw [K, hS']
theorem countE_comm (e f : Ed) : countE f e = countE e f := by
  unfold countE
  rw [Bool.and_comm]
  cases ho : (e.ok && f.ok) with
  | false => rfl
  | true =>
    obtain ⟨oe, of⟩ : e.ok = true ∧ f.ok = true := by simpa using ho
    simp only [Bool.not_true, Bool.false_eq_true, if_false]
    by_cases k1 : e.k = 1
    · by_cases k2 : f.k = 1
      · simp only [if_pos k1, if_pos k2]
        cases p1 : e.pt with
        | true =>
          cases p2 : f.pt with
          | true =>
            simp only [if_true]
            unfold onZ
            have : onE e f.ax f.ay = onE f e.ax e.ay := by
              rw [Bool.eq_iff_iff]
              constructor
              · intro g
                obtain ⟨g1, g2⟩ := pt_on k1 p1 g
                rw [← g1, ← g2]
                exact onE_self of k2
              · intro g
                obtain ⟨g1, g2⟩ := pt_on k2 p2 g
                rw [← g1, ← g2]
                exact onE_self oe k1
            rw [this]
          | false => simp
        | false =>
          cases p2 : f.pt with
          | true => simp
          | false =>
            simp only [Bool.false_eq_true, if_false]
            refine linesZ_comm ?_ ?_
            · intro g
              rw [show e.pt = true by simp [Ed.pt, g.1, g.2]] at p1; cases p1
            · intro g
              rw [show f.pt = true by simp [Ed.pt, g.1, g.2]] at p2; cases p2
      · simp only [if_pos k1, if_neg k2]
    · by_cases k2 : f.k = 1
      · simp only [if_neg k1, if_pos k2]
      · simp only [if_neg k1, if_neg k2]
        exact arcsZ_comm e f

/-- An edge with its ends exchanged. -/
def revE (e : Ed) : Ed := ⟨(fam e.k).k, e.bx, e.by', e.ax, e.ay, e.cx, e.cy⟩
theorem kind_of {e : Ed} (h : e.ok = true) : e.k = 1 ∨ e.k = 2 ∨ e.k = 3 := by
  simp only [Ed.ok, Bool.and_eq_true] at h
  have h2 := h.2
  by_cases k1 : e.k = 1
  · exact .inl k1
  · by_cases k2 : e.k = 2
    · exact .inr (.inl k2)
    · by_cases k3 : e.k = 3
      · exact .inr (.inr k3)
      · rw [if_neg k1, if_neg k2, if_neg k3] at h2; cases h2
theorem rev_k {e : Ed} (h : e.ok = true) : (e.k = 1 ∧ (revE e).k = 1) ∨ (e.k = 2 ∧ (revE e).k = 3) ∨ (e.k = 3 ∧ (revE e).k = 2) := by
  rcases kind_of h with k | k | k
  · left; exact ⟨k, by show (fam e.k).k = 1; rw [k]; rfl⟩
  · right; left; exact ⟨k, by show (fam e.k).k = 3; rw [k]; rfl⟩
  · right; right; exact ⟨k, by show (fam e.k).k = 2; rw [k]; rfl⟩
theorem rev_k1 {e : Ed} (h : e.ok = true) : (revE e).k = 1 ↔ e.k = 1 := by rcases rev_k h with ⟨a, b⟩ | ⟨a, b⟩ | ⟨a, b⟩ <;> rw [a, b] <;> decide
theorem rev_ok {e : Ed} (h : e.ok = true) : (revE e).ok = true := by
  have hk := rev_k h
  unfold Ed.ok at h ⊢
  simp only [Bool.and_eq_true] at h ⊢
  obtain ⟨h1, h2⟩ := h
  refine ⟨?_, ?_⟩
  · unfold Ed.right at h1 ⊢
    simp only [Bool.and_eq_true] at h1 ⊢
    exact ⟨⟨h1.1.2, h1.1.1⟩, h1.2⟩
  · have c1 : ¬ (2 : Int) = 1 := by decide
    have c2 : ¬ (3 : Int) = 1 := by decide
    have c3 : ¬ (3 : Int) = 2 := by decide
    rcases hk with ⟨a, b⟩ | ⟨a, b⟩ | ⟨a, b⟩ <;> rw [a] at h2 <;> rw [b] <;> simp only [if_pos, if_neg c1, if_neg c2, if_neg c3] at h2 ⊢
    · exact h2
    · simp only [Ed.quarter, quarterB, Bool.and_eq_true, beq_iff_eq, rot, revE] at h2 ⊢
      obtain ⟨q1, q2, q3⟩ := h2
      rw [q2, q3]
      refine ⟨?_, by omega, by omega⟩
      rw [← q1]
      rw [show (-(e.ay - e.cy) == 0) = (e.ay - e.cy == 0) by rw [Bool.eq_iff_iff, beq_iff_eq, beq_iff_eq, Int.neg_eq_zero]]
      exact bne_swap _ _
    · simp only [Ed.quarter, quarterB, Bool.and_eq_true, beq_iff_eq, rot, revE] at h2 ⊢
      obtain ⟨q1, q2, q3⟩ := h2
      rw [q2, q3, Int.neg_neg]
      refine ⟨?_, by omega, by omega⟩
      rw [← q1]
      rw [show (-(e.ax - e.cx) == 0) = (e.ax - e.cx == 0) by rw [Bool.eq_iff_iff, beq_iff_eq, beq_iff_eq, Int.neg_eq_zero]]
      exact bne_swap _ _
theorem rad_eq {e : Ed} (h : e.ok = true) (hk : ¬ e.k = 1) : radZ e = max (max (e.ax - e.cx) (-(e.ax - e.cx))) (max (e.ay - e.cy) (-(e.ay - e.cy))) := by
  have hkb : (e.k == 1) = false := by simpa using hk
  unfold radZ
  rw [h, hkb]
  rfl
theorem rev_rad {e : Ed} (h : e.ok = true) (hk : ¬ e.k = 1) : radZ (revE e) = radZ e := by
  have h1 := rad_eq h hk
  rw [rad_eq (rev_ok h) (fun g => hk ((rev_k1 h).1 g))]
  show max (max (e.bx - e.cx) (-(e.bx - e.cx))) (max (e.by' - e.cy) (-(e.by' - e.cy))) = radZ e
  obtain ⟨hr, hu, hv, a1, a2, a3, a4⟩ := arc_axes h hk
  obtain ⟨r, R⟩ : ∃ r, radZ e = r := ⟨_, rfl⟩
  rw [R] at a1 a2 a3 a4 hr ⊢
  have m0 : r * 0 = 0 := by omega
  have m1 : r * 1 = r := by omega
  have m2 : r * -1 = -r := by omega
  have n0 : -(0 : Int) = 0 := rfl
  have n1 : -(-1 : Int) = 1 := rfl
  rcases hu with ⟨u1, u2⟩ | ⟨u1, u2⟩ | ⟨u1, u2⟩ | ⟨u1, u2⟩ <;> rcases hv with ⟨_, v1, v2⟩ | ⟨_, v1, v2⟩ <;>
    (rw [u1] at v2; rw [u2] at v1; rw [v1] at a3; rw [v2] at a4
     simp only [m0, m1, m2, n0, n1] at a3 a4
     omega)
theorem rev_on {e : Ed} (h : e.ok = true) (x y : Int) : onE (revE e) x y = onE e x y := by
  unfold onE
  rw [h, rev_ok h]
  have hb : inB (min (revE e).ax (revE e).bx) (min (revE e).ay (revE e).by') (max (revE e).ax (revE e).bx) (max (revE e).ay (revE e).by') x y = inB (min e.ax e.bx) (min e.ay e.by') (max e.ax e.bx) (max e.ay e.by') x y := by
    show inB (min e.bx e.ax) (min e.by' e.ay) (max e.bx e.ax) (max e.by' e.ay) x y = _
    rw [Int.min_comm e.bx, Int.min_comm e.by', Int.max_comm e.bx, Int.max_comm e.by']
  rw [hb]
  by_cases hk : e.k = 1
  · rw [if_pos hk, if_pos ((rev_k1 h).2 hk)]
    have : (sideI (((revE e).bx - (revE e).ax) * (y - (revE e).ay) - ((revE e).by' - (revE e).ay) * (x - (revE e).ax)) == 0) = (sideI ((e.bx - e.ax) * (y - e.ay) - (e.by' - e.ay) * (x - e.ax)) == 0) := by
      rw [Bool.eq_iff_iff, sideI_zero, sideI_zero]
      show (e.ax - e.bx) * (y - e.by') - (e.ay - e.by') * (x - e.bx) = 0 ↔ _
      have : (e.ax - e.bx) * (y - e.by') - (e.ay - e.by') * (x - e.bx) = -((e.bx - e.ax) * (y - e.ay) - (e.by' - e.ay) * (x - e.ax)) := by grind
      rw [this, Int.neg_eq_zero]
    rw [this]
  · rw [if_neg hk, if_neg (fun g => hk ((rev_k1 h).1 g))]
    have : powerI (x - (revE e).cx) (y - (revE e).cy) ((revE e).ax - (revE e).cx) ((revE e).ay - (revE e).cy) = powerI (x - e.cx) (y - e.cy) (e.ax - e.cx) (e.ay - e.cy) := by
      show powerI (x - e.cx) (y - e.cy) (e.bx - e.cx) (e.by' - e.cy) = _
      unfold powerI
      obtain ⟨hr, hu, hv, a1, a2, a3, a4⟩ := arc_axes h hk
      have q : (e.bx - e.cx = -(e.ay - e.cy) ∧ e.by' - e.cy = e.ax - e.cx) ∨ (e.bx - e.cx = e.ay - e.cy ∧ e.by' - e.cy = -(e.ax - e.cx)) := by
        rcases hv with ⟨_, v1, v2⟩ | ⟨_, v1, v2⟩
        · left; rw [v1] at a3; rw [v2] at a4; refine ⟨?_, by omega⟩; rw [a3, a2]; grind
        · right; rw [v1] at a3; rw [v2] at a4; refine ⟨by omega, ?_⟩; rw [a4, a1]; grind
      rcases q with ⟨q1, q2⟩ | ⟨q1, q2⟩ <;> rw [q1, q2] <;> grind
    rw [this]
theorem rev_axes {e : Ed} (h : e.ok = true) (hk : ¬ e.k = 1) : (revE e).ux = e.vx ∧ (revE e).uy = e.vy ∧ (revE e).vx = e.ux ∧ (revE e).vy = e.uy := by
  unfold Ed.ux Ed.uy Ed.vx Ed.vy
  rw [rev_rad h hk]
  exact ⟨rfl, rfl, rfl, rfl⟩
theorem crossZ_revA {l e : Ed} (h : e.ok = true) (hk : ¬ e.k = 1) : crossZ l (revE e) = crossZ l e := by
  obtain ⟨x1, x2, x3, x4⟩ := rev_axes h hk
  have hl : laE l (revE e) = { laE l e with u1 := (laE l e).v1, u2 := (laE l e).v2, v1 := (laE l e).u1, v2 := (laE l e).u2 } := by
    unfold laE
    rw [x1, x2, x3, x4, rev_rad h hk]
    rfl
  unfold crossZ
  rw [countZ_eq, countZ_eq, hl]
  exact countC_perm (perm_uv ..)
theorem crossZ_revL {l e : Ed} (h : l.ok = true) : crossZ (revE l) e = crossZ l e := by
  unfold crossZ
  rw [countZ_eq, countZ_eq]
  have hS : (laE (revE l) e).S = (laE l e).S := by
    unfold laE revE; simp only; grind
  have hh : (laE (revE l) e).h = -(laE l e).h - (laE l e).S := by
    unfold laE revE; simp only; grind
  have hF : (laE (revE l) e).F = (laE l e).F + 2 * (laE l e).h + (laE l e).S := by
    unfold laE revE; simp only; grind
  have hu1 : (laE (revE l) e).u1 = (laE l e).u1 + (laE l e).u2 := by
    unfold laE revE; simp only; grind
  have hu2 : (laE (revE l) e).u2 = -(laE l e).u2 := by
    unfold laE revE; simp only; grind
  have hv1 : (laE (revE l) e).v1 = (laE l e).v1 + (laE l e).v2 := by
    unfold laE revE; simp only; grind
  have hv2 : (laE (revE l) e).v2 = -(laE l e).v2 := by
    unfold laE revE; simp only; grind
  have hr : (laE (revE l) e).r = (laE l e).r := rfl
  generalize laE (revE l) e = N at *
  generalize laE l e = M at *
  have hd : N.delta = M.delta := by
    unfold LA.delta
    rw [hS, hh, hF, hr]
    grind
  have hl : N.list = negs [(M.S - (0 - M.h), -1), (0 - M.h, 1), (M.S * M.u1 - M.h * M.u2, M.u2), (M.S * M.v1 - M.h * M.v2, M.v2)] := by
    unfold LA.list negs
    rw [hS, hh, hu1, hu2, hv1, hv2]
    simp only [List.map_cons, List.map_nil, List.cons.injEq, Prod.mk.injEq, and_true]
    (repeat' apply And.intro) <;> grind
  rw [hd, hl, countC_negs]
  exact countC_perm (perm_ab ..)
theorem arcsZ_rev {e f : Ed} (h : e.ok = true) (hk : ¬ e.k = 1) : arcsZ (revE e) f = arcsZ e f := by
  obtain ⟨x1, x2, x3, x4⟩ := rev_axes h hk
  unfold arcsZ
  rw [show (revE e).cx = e.cx from rfl, show (revE e).cy = e.cy from rfl, x1, x2, x3, x4, rev_rad h hk]
  split
  · exact sameZ_rev ..
  · have hl : aaE (revE e) f = { aaE e f with du := (aaE e f).dv, dv := (aaE e f).du, pu := (aaE e f).pv, pv := (aaE e f).pu } := by
      unfold aaE
      rw [x1, x2, x3, x4, rev_rad h hk]
      rfl
    rw [countZ_eq, countZ_eq, hl]
    exact countC_perm (perm_ab ..)
theorem rev_pt (e : Ed) : (revE e).pt = e.pt := by
  show ((e.bx == e.ax) && (e.by' == e.ay)) = _
  rw [beq_swap e.bx, beq_swap e.by']
  rfl
/-- Which end of an edge comes first plays no part. -/
theorem countE_rev {e : Ed} (f : Ed) (h : e.ok = true) : countE (revE e) f = countE e f := by
  unfold countE
  rw [rev_ok h, h, rev_pt]
  by_cases k1 : e.k = 1
  · rw [if_pos k1, if_pos ((rev_k1 h).2 k1)]
    have hl : linesZ (revE e).ax (revE e).ay (revE e).bx (revE e).by' f.ax f.ay f.bx f.by' = linesZ e.ax e.ay e.bx e.by' f.ax f.ay f.bx f.by' := linesZ_rev ..
    rw [hl, crossZ_revL h]
    unfold onZ
    rw [rev_on h]
    cases p1 : e.pt with
    | false => simp
    | true =>
      have : (revE e).ax = e.ax ∧ (revE e).ay = e.ay := by
        have : e.ax = e.bx ∧ e.ay = e.by' := by simpa [Ed.pt] using p1
        exact ⟨this.1.symm, this.2.symm⟩
      rw [this.1, this.2]
  · rw [if_neg k1, if_neg (fun g => k1 ((rev_k1 h).1 g)), crossZ_revA h k1, arcsZ_rev h k1]
    unfold onZ
    rw [rev_on h]
end Go.Proofs.Ytmmhiiiaccldmaa

namespace Go.Proofs.Ytmmhiiiaccldmaa
open Go.RowKit
attribute [local go_sem] Gives givesU

set_option maxRecDepth 100000 in
set_option maxHeartbeats 1000000 in
theorem Rev_core (k ax ay bx by' cx cy ko : Int) (fv gv hv : FuncId) (w : World)
    (OF : ∀ W, Calls Try.prog 31 #[.agg #[.int .i64 k, .int .i64 ax, .int .i64 ay, .int .i64 bx, .int .i64 by', .int .i64 cx, .int .i64 cy]] W fun e w' => e = .returned (.tuple #[.agg #[.func (.func fv) #[] #[], .func (.func gv) #[] #[], .func (.func hv) #[] #[], .int .i64 ko], .bool true]) ∧ Ext W w') :
    Calls Try.prog 21 #[.agg #[.int .i64 k, .int .i64 ax, .int .i64 ay, .int .i64 bx, .int .i64 by', .int .i64 cx, .int .i64 cy]] w fun e w' => e = .returned (.agg #[.int .i64 ko, .int .i64 bx, .int .i64 by', .int .i64 ax, .int .i64 ay, .int .i64 cx, .int .i64 cy]) ∧ Ext w w' := by
  replace OF := Lib.hid OF
  go_enter Try.func21, Try.ntmps21
  go_wp2_with fail
  refine (OF.out _).mono ?_
  rintro e w1 ⟨rfl, hx⟩
  have hx0 : Ext w w1 := Ext.step (by (repeat (first | exact Below.refl _ _ | assumption | refine Below.drewN ?_ _ | refine Below.drew ?_ | refine Below.setCell ?_ (by first | exact Nat.le_refl _ | (simp; done) | (simp; omega) | omega) _ | refine Below.alloc ?_ (by first | exact Nat.le_refl _ | (simp; done) | (simp; omega) | omega) _))) hx
  have hs0 := hx0.size
  have hz_w1 : w.heap.size + 2 ≤ w1.heap.size := Nat.le_trans (by first | omega | (simp; done) | (simp; omega)) hx.size
  have hl_w1_0 : w.heap.size < w1.heap.size := Nat.lt_of_lt_of_le (by omega) hz_w1
  have hk_w1_0 : ∀ o, w1.cell? ⟨w.heap.size, o, none⟩ = _ := fun o => hx.cell (p := ⟨w.heap.size, o, none⟩) (show w.heap.size < _ from (by first | omega | (simp; done) | (simp; omega)))
  have hf_w1_0 : ∀ o, w1.frozen? ⟨w.heap.size, o, none⟩ = _ := fun o => hx.frozen (p := ⟨w.heap.size, o, none⟩) (show w.heap.size < _ from (by first | omega | (simp; done) | (simp; omega)))
  have hl_w1_1 : w.heap.size + 1 < w1.heap.size := Nat.lt_of_lt_of_le (by omega) hz_w1
  have hk_w1_1 : ∀ o, w1.cell? ⟨w.heap.size + 1, o, none⟩ = _ := fun o => hx.cell (p := ⟨w.heap.size + 1, o, none⟩) (show w.heap.size + 1 < _ from (by first | omega | (simp; done) | (simp; omega)))
  have hf_w1_1 : ∀ o, w1.frozen? ⟨w.heap.size + 1, o, none⟩ = _ := fun o => hx.frozen (p := ⟨w.heap.size + 1, o, none⟩) (show w.heap.size + 1 < _ from (by first | omega | (simp; done) | (simp; omega)))
  clear hx
  go_upto_region 2 with (fail)
  refine wp_world (fun W => Ext w W ∧ (W.cell? ⟨w.heap.size, 0, none⟩ = some (.int .i64 k) ∧ W.cell? ⟨w.heap.size, 1, none⟩ = some (.int .i64 ax) ∧ W.cell? ⟨w.heap.size, 2, none⟩ = some (.int .i64 ay) ∧ W.cell? ⟨w.heap.size, 3, none⟩ = some (.int .i64 bx) ∧ W.cell? ⟨w.heap.size, 4, none⟩ = some (.int .i64 by') ∧ W.cell? ⟨w.heap.size, 5, none⟩ = some (.int .i64 cx) ∧ W.cell? ⟨w.heap.size, 6, none⟩ = some (.int .i64 cy) ∧ W.cell? ⟨w.heap.size + 1, 0, none⟩ = some (.int .i64 0) ∧ W.cell? ⟨w.heap.size + 1, 1, none⟩ = some (.int .i64 0) ∧ W.cell? ⟨w.heap.size + 1, 2, none⟩ = some (.int .i64 0) ∧ W.cell? ⟨w.heap.size + 1, 3, none⟩ = some (.int .i64 0) ∧ W.cell? ⟨w.heap.size + 1, 4, none⟩ = some (.int .i64 0) ∧ W.cell? ⟨w.heap.size + 1, 5, none⟩ = some (.int .i64 0) ∧ W.cell? ⟨w.heap.size + 1, 6, none⟩ = some (.int .i64 0) ∧ W.cell? ⟨w1.heap.size, 3, none⟩ = some (.int .i64 ko) ∧ (∀ o, W.frozen? ⟨w.heap.size + 1, o, none⟩ = false) ) ∧ w1.heap.size < W.heap.size) ?_ ?_
  · refine ⟨by (repeat (first | exact Below.refl _ _ | assumption | refine Below.drewN ?_ _ | refine Below.drew ?_ | refine Below.setCell ?_ (by first | exact Nat.le_refl _ | (simp; done) | (simp; omega) | omega) _ | refine Below.alloc ?_ (by first | exact Nat.le_refl _ | (simp; done) | (simp; omega) | omega) _)), ⟨by go_simp, by go_simp, by go_simp, by go_simp, by go_simp, by go_simp, by go_simp, by go_simp, by go_simp, by go_simp, by go_simp, by go_simp, by go_simp, by go_simp, by go_simp, by intro o; go_simp⟩, by simp⟩
  rintro V2 ⟨hx2, ⟨u0, u1, u2, u3, u4, u5, u6, r0, r1, r2, r3, r4, r5, r6, fk, rf⟩, hl2⟩
  obtain ⟨G, hG⟩ : ∃ G, Hid (w1.heap.size = G) := ⟨_, rfl⟩
  have l0 : w.heap.size < V2.heap.size := by omega
  have l1 : w.heap.size + 1 < V2.heap.size := by omega
  have gE : w.heap.size ≠ w1.heap.size := by omega
  have gE' : w1.heap.size ≠ w.heap.size := by omega
  rw [hG.out] at fk hl2 gE gE' ⊢
  clear hk_w1_0 hk_w1_1 hf_w1_0 hf_w1_1 hl_w1_0 hl_w1_1 hz_w1 hs0 hx0
  have e01 : w.heap.size ≠ w.heap.size + 1 := by omega
  have e10 : w.heap.size + 1 ≠ w.heap.size := by omega
  go_wp2
  refine bodyPost_ret (v := .agg #[.int .i64 ko, .int .i64 bx, .int .i64 by', .int .i64 ax, .int .i64 ay, .int .i64 cx, .int .i64 cy]) (by simp only [results, Try.results21]; go_simp) rfl ⟨rfl, ?_⟩
  repeat refine Below.setCell ?_ (by first | exact Nat.le_refl _ | (dsimp only; omega)) _
  exact hx2
theorem edge_Reverse (k ax ay bx by' cx cy : Int) (w : World) (h : (Ed.mk k ax ay bx by' cx cy).ok = true) :
    Calls Try.prog 21 #[.agg #[.int .i64 k, .int .i64 ax, .int .i64 ay, .int .i64 bx, .int .i64 by', .int .i64 cx, .int .i64 cy]] w fun e w' => e = .returned (.agg #[.int .i64 (revE (Ed.mk k ax ay bx by' cx cy)).k, .int .i64 (revE (Ed.mk k ax ay bx by' cx cy)).ax, .int .i64 (revE (Ed.mk k ax ay bx by' cx cy)).ay, .int .i64 (revE (Ed.mk k ax ay bx by' cx cy)).bx, .int .i64 (revE (Ed.mk k ax ay bx by' cx cy)).by', .int .i64 (revE (Ed.mk k ax ay bx by' cx cy)).cx, .int .i64 (revE (Ed.mk k ax ay bx by' cx cy)).cy]) ∧ Ext w w' := by
  have OF := fun w => edge_of k ax ay bx by' cx cy w
  have hk := kind_of h
  rw [h] at OF
  simp only at hk
  obtain rfl | rfl | rfl := hk
  · exact Rev_core 1 ax ay bx by' cx cy 1 _ _ _ w OF
  · exact Rev_core 2 ax ay bx by' cx cy 3 _ _ _ w OF
  · exact Rev_core 3 ax ay bx by' cx cy 2 _ _ _ w OF
end Go.Proofs.Ytmmhiiiaccldmaa
