/- MeetEnds, its plain part: an edge that is moved to begin at an end of another; an edge and a point. | MeetTurns, its plain part: neither the order nor the directions of edges play a part, nor does a motion of both: lines and counts of signs. -/
import Derived.Test.YtmmhiiiaccldmaaJ33
import Derived.Test.YtmmhiiiaccldmaaJ34
import Derived.Test.YtmmhiiiaccldmaaJ29
set_option linter.unusedVariables false
set_option linter.unusedSimpArgs false

namespace Go.Proofs.Ytmmhiiiaccldmaa
open Go.RowKit

/-- Small coordinates. -/
def Sm (x : Int) : Prop := -50 ≤ x ∧ x ≤ 50
theorem madeE_small (L : List Int) : Sm (madeE L 1).ax ∧ Sm (madeE L 1).ay ∧ Sm (madeE L 1).bx ∧ Sm (madeE L 1).by' ∧ Sm (madeE L 1).cx ∧ Sm (madeE L 1).cy := by
  obtain ⟨x, y, z, v, e, h1, h2, h3, h4, h5, h6, h7, h8⟩ | ⟨x, y, r, ux, uy, vx, vy, k, e, h1, h2, h3, h4, h5, h6, hu, hk⟩ := madeE_form L 1 (by omega)
  · rw [e]
    unfold Sm
    simp only
    omega
  · rw [e]
    unfold Sm
    simp only [Int.one_mul]
    rcases hu with ⟨rfl, rfl⟩ | ⟨rfl, rfl⟩ | ⟨rfl, rfl⟩ | ⟨rfl, rfl⟩ <;> rcases hk with ⟨_, rfl, rfl⟩ | ⟨_, rfl, rfl⟩ <;> simp <;> omega
theorem applyP_shift (x y px py : Int) : applyP x y 0 false px py = (px + x, py + y) := by simp [applyP, mir, rot]
/-- An edge that is moved without a turn. -/
theorem shift_ok {e : Ed} (h : e.ok = true) (h1 : Sm e.ax) (h2 : Sm e.ay) (h3 : Sm e.bx) (h4 : Sm e.by') (h5 : Sm e.cx) (h6 : Sm e.cy) {x y : Int} (hx : -100 ≤ x ∧ x ≤ 100) (hy : -100 ≤ y ∧ y ≤ 100) : (moveE e x y 0 false).ok = true := by
  unfold Sm at *
  have ca : ∀ a b c : Int, a + c - (b + c) = a - b := fun a b c => by omega
  have hr : (moveE e x y 0 false).right = true := by
    unfold Ed.right moveE
    simp only [applyP_shift, Bool.and_eq_true]
    refine ⟨⟨coordB_iff.2 ⟨by unfold Co; omega, by unfold Co; omega⟩, coordB_iff.2 ⟨by unfold Co; omega, by unfold Co; omega⟩⟩, coordB_iff.2 ⟨?_, ?_⟩⟩
    · unfold Co; split <;> omega
    · unfold Co; split <;> omega
  have hk : (moveE e x y 0 false).k = e.k := rfl
  unfold Ed.ok at h ⊢
  rw [hr, hk]
  simp only [Bool.and_eq_true, Bool.true_and] at h ⊢
  have h2' := h.2
  by_cases k1 : e.k = 1
  · rw [if_pos k1] at h2' ⊢
    unfold Ed.lone moveE at *
    simpa [k1] using h2'
  · rw [if_neg k1] at h2' ⊢
    have q (t : Nat) : (moveE e x y 0 false).quarter t = e.quarter t := by
      unfold Ed.quarter moveE
      simp only [applyP_shift, if_neg k1, ca]
    rw [q, q]
    exact h2'
/-- An edge meets one that begins at its end. -/
theorem ends_meet (L M : List Int) : (moveE (madeE M 1) ((madeE L 1).bx - (madeE M 1).ax) ((madeE L 1).by' - (madeE M 1).ay) 0 false).ok = true ∧ countE (madeE L 1) (moveE (madeE M 1) ((madeE L 1).bx - (madeE M 1).ax) ((madeE L 1).by' - (madeE M 1).ay) 0 false) ≠ 0 := by
  obtain ⟨a1, a2, a3, a4, a5, a6⟩ := madeE_small L
  obtain ⟨b1, b2, b3, b4, b5, b6⟩ := madeE_small M
  have oa := madeE_ok L 1 (by omega)
  have ob := madeE_ok M 1 (by omega)
  have om : (moveE (madeE M 1) ((madeE L 1).bx - (madeE M 1).ax) ((madeE L 1).by' - (madeE M 1).ay) 0 false).ok = true :=
    shift_ok ob b1 b2 b3 b4 b5 b6 (by unfold Sm at *; omega) (by unfold Sm at *; omega)
  refine ⟨om, ?_⟩
  have e1 := end_b oa
  have e2 := end_a om
  have f1 : (moveE (madeE M 1) ((madeE L 1).bx - (madeE M 1).ax) ((madeE L 1).by' - (madeE M 1).ay) 0 false).ax = (madeE L 1).bx := by unfold moveE; simp only [applyP_shift]; omega
  have f2 : (moveE (madeE M 1) ((madeE L 1).bx - (madeE M 1).ax) ((madeE L 1).by' - (madeE M 1).ay) 0 false).ay = (madeE L 1).by' := by unfold moveE; simp only [applyP_shift]; omega
  rw [f1, f2] at e2
  exact common_point e1 e2
/-- An edge and a point. -/
theorem count_point {e : Ed} (h : e.ok = true) {x y : Int} (hx : Co x) (hy : Co y) : countE e ⟨1, x, y, x, y, 0, 0⟩ = onZ e x y := by
  have op : (Ed.mk 1 x y x y 0 0).ok = true := line_ok hx hy hx hy
  have pp : (Ed.mk 1 x y x y 0 0).pt = true := by simp [Ed.pt]
  unfold countE
  rw [h, op, pp]
  simp only [Bool.and_self, Bool.not_true, Bool.false_eq_true, if_false, if_true]
  by_cases k1 : e.k = 1
  · rw [if_pos k1]
    cases p1 : e.pt with
    | true =>
      rw [if_pos rfl]
      have hq : e.ax = e.bx ∧ e.ay = e.by' := by simpa [Ed.pt] using p1
      unfold onZ
      have : onE (Ed.mk 1 x y x y 0 0) e.ax e.ay = onE e x y := by
        rw [Bool.eq_iff_iff]
        constructor
        · intro g
          obtain ⟨g1, g2⟩ := pt_on rfl pp g
          simp only at g1 g2
          rw [← g1, ← g2]
          exact onE_self h k1
        · intro g
          obtain ⟨g1, g2⟩ := pt_on k1 p1 g
          rw [← g1, ← g2]
          exact onE_self op rfl
      rw [this]
    | false => simp
  · rw [if_neg k1]
end Go.Proofs.Ytmmhiiiaccldmaa

namespace Go.Proofs.Ytmmhiiiaccldmaa
open Go.RowKit

/-- All second numbers negated. -/
def negs (l : List (Int × Int)) : List (Int × Int) := l.map fun p => (p.1, -p.2)
theorem goodS_negs (d s : Int) (l : List (Int × Int)) : goodS d s (negs l) = goodS d (-s) l := by
  unfold goodS negs
  rw [List.all_map]
  congr 1
  funext p
  simp only [Function.comp_apply, Int.mul_neg, Int.neg_mul]
theorem sideZ_d0 (x y z : Int) : sideZ x y 0 = sideZ x z 0 := by
  unfold sideZ
  rw [sgn_zero]
  simp only [Int.mul_zero]
theorem goodS_d0 (s t : Int) (l : List (Int × Int)) : goodS 0 s l = goodS 0 t l := by
  unfold goodS
  congr 1
  funext p
  rw [sideZ_d0 p.1 (s * p.2) (t * p.2)]
theorem countC_negs (d : Int) (l : List (Int × Int)) : countC d (negs l) = countC d l := by
  unfold countC
  by_cases h : d < 0
  · rw [if_pos h, if_pos h]
  · rw [if_neg h, if_neg h]
    by_cases h0 : d = 0
    · subst h0
      rw [if_pos rfl, if_pos rfl, goodS_negs, goodS_d0 (-1) 1]
    · rw [if_neg h0, if_neg h0, goodS_negs, goodS_negs, Int.neg_neg]
      omega
theorem goodS_perm {d s : Int} {l l' : List (Int × Int)} (h : l.Perm l') : goodS d s l = goodS d s l' := by
  unfold goodS
  rw [Bool.eq_iff_iff, List.all_eq_true, List.all_eq_true]
  exact ⟨fun g x hx => g x (h.mem_iff.2 hx), fun g x hx => g x (h.mem_iff.1 hx)⟩
theorem countC_perm {d : Int} {l l' : List (Int × Int)} (h : l.Perm l') : countC d l = countC d l' := by
  unfold countC
  rw [goodS_perm h, goodS_perm h]
theorem perm4 {α : Type} (a b c d : α) : [a, b, c, d].Perm [b, a, d, c] :=
  (List.Perm.swap b a [c, d]).trans (.cons b (.cons a (.swap d c [])))
theorem perm_uv {α : Type} (a b c d : α) : [a, b, c, d].Perm [a, b, d, c] := .cons a (.cons b (.swap d c []))
theorem perm_lr {α : Type} (a b c d : α) : [a, b, c, d].Perm [c, d, a, b] := List.perm_append_comm (l₁ := [a, b]) (l₂ := [c, d])
theorem perm_ab {α : Type} (a b c d : α) : [a, b, c, d].Perm [b, a, c, d] := .swap b a [c, d]

/-- How two intervals overlap. -/
def ov (p q r s : Int) : Int :=
  if max (min p q) (min r s) < min (max p q) (max r s) then -1 else if max (min p q) (min r s) = min (max p q) (max r s) then 1 else 0
theorem ov_comm (p q r s : Int) : ov p q r s = ov r s p q := by unfold ov; rw [Int.max_comm (min p q), Int.min_comm (max p q)]
theorem ov_flip (p q r s : Int) : ov p q r s = ov q p r s := by unfold ov; rw [Int.min_comm p q, Int.max_comm p q]
theorem ov_shift (p q r s t : Int) : ov (p + t) (q + t) (r + t) (s + t) = ov p q r s := by
  unfold ov
  (repeat' split) <;> omega
theorem max_pos {k p q : Int} (h : 0 < k) : max (k * p) (k * q) = k * max p q := by
  rcases Int.le_total p q with g | g
  · have := Int.mul_le_mul_of_nonneg_left g (Int.le_of_lt h)
    rw [Int.max_eq_right g, Int.max_eq_right this]
  · have := Int.mul_le_mul_of_nonneg_left g (Int.le_of_lt h)
    rw [Int.max_eq_left g, Int.max_eq_left this]
theorem min_pos {k p q : Int} (h : 0 < k) : min (k * p) (k * q) = k * min p q := by
  rcases Int.le_total p q with g | g
  · have := Int.mul_le_mul_of_nonneg_left g (Int.le_of_lt h)
    rw [Int.min_eq_left g, Int.min_eq_left this]
  · have := Int.mul_le_mul_of_nonneg_left g (Int.le_of_lt h)
    rw [Int.min_eq_right g, Int.min_eq_right this]
theorem ov_pos {k : Int} (h : 0 < k) (p q r s : Int) : ov (k * p) (k * q) (k * r) (k * s) = ov p q r s := by
  unfold ov
  rw [max_pos h, max_pos h, min_pos h, min_pos h, max_pos h, min_pos h]
  have e1 (x y : Int) : k * x < k * y ↔ x < y := Int.mul_lt_mul_left h
  have e2 (x y : Int) : k * x = k * y ↔ x = y := Int.mul_eq_mul_left_iff (by omega)
  simp only [e1, e2]
theorem ov_neg (p q r s : Int) : ov (-p) (-q) (-r) (-s) = ov p q r s := by
  unfold ov
  (repeat' split) <;> omega
theorem ov_scale {k : Int} (h : k ≠ 0) (p q r s : Int) : ov (k * p) (k * q) (k * r) (k * s) = ov p q r s := by
  rcases Int.lt_or_gt_of_ne h with g | g
  · rw [← ov_neg (k * p), ← Int.neg_mul, ← Int.neg_mul, ← Int.neg_mul, ← Int.neg_mul]
    exact ov_pos (by omega) ..
  · exact ov_pos g ..

theorem sideI_ne {n : Int} : sideI n ≠ 0 ↔ n ≠ 0 := by unfold sideI; (repeat' split) <;> omega
theorem sideI_opp (n : Int) : sideI (-n) = -sideI n := by unfold sideI; (repeat' split) <;> omega
/-- linesZ by the vectors alone. -/
theorem linesZ_eq (px py qx qy rx ry sx sy : Int) : linesZ px py qx qy rx ry sx sy =
    if (qx - px) * (sy - ry) - (qy - py) * (sx - rx) ≠ 0 then
      if 0 < sideI (crI px py qx qy rx ry) * sideI (crI px py qx qy sx sy) ∨ 0 < sideI (crI rx ry sx sy px py) * sideI (crI rx ry sx sy qx qy) then 0 else 1
    else if crI px py qx qy rx ry ≠ 0 then 0
    else ov 0 ((qx - px) * (qx - px) + (qy - py) * (qy - py)) ((rx - px) * (qx - px) + (ry - py) * (qy - py)) ((sx - px) * (qx - px) + (sy - py) * (qy - py)) := by
  have hs : 0 ≤ (qx - px) * (qx - px) + (qy - py) * (qy - py) := by
    have a1 : 0 ≤ (qx - px) * (qx - px) := by rw [← Int.natAbs_mul_self]; omega
    have a2 : 0 ≤ (qy - py) * (qy - py) := by rw [← Int.natAbs_mul_self]; omega
    omega
  unfold linesZ ov
  simp only [sideI_ne]
  obtain ⟨S, hS⟩ : ∃ z, (qx - px) * (qx - px) + (qy - py) * (qy - py) = z := ⟨_, rfl⟩
  rw [hS] at hs ⊢
  rw [Int.min_eq_left hs, Int.max_eq_right hs]
  split
  · split
    · rename_i h; rw [if_pos (.inl h)]
    · rename_i h
      split
      · rename_i h2; rw [if_pos (.inr h2)]
      · rename_i h2; rw [if_neg (fun g => g.elim h h2)]
  · rfl
theorem linesZ_comm {px py qx qy rx ry sx sy : Int} (hn : ¬ (px = qx ∧ py = qy)) (hm : ¬ (rx = sx ∧ ry = sy)) : linesZ rx ry sx sy px py qx qy = linesZ px py qx qy rx ry sx sy := by
  rw [linesZ_eq, linesZ_eq]
  by_cases hD : (qx - px) * (sy - ry) - (qy - py) * (sx - rx) = 0
  · have hD' : (sx - rx) * (qy - py) - (sy - ry) * (qx - px) = 0 := by grind
    rw [if_neg (not_not_intro hD'), if_neg (not_not_intro hD)]
    have p1 := sq_pos (x := qx - px) (y := qy - py) (by omega)
    have p2 := sq_pos (x := sx - rx) (y := sy - ry) (by omega)
    have hg : (qx - px) * (sx - rx) + (qy - py) * (sy - ry) ≠ 0 := by
      intro h
      have e : ((qx - px) * (qx - px) + (qy - py) * (qy - py)) * ((sx - rx) * (sx - rx) + (sy - ry) * (sy - ry)) = 0 := by grind
      have := Int.mul_pos p1 p2
      omega
    by_cases hc : crI px py qx qy rx ry = 0
    · have hc' : crI rx ry sx sy px py = 0 := by
        unfold crI at hc ⊢
        by_cases hx : qx - px = 0
        · refine zero_of_mul (c := qy - py) (fun e => hn ⟨by omega, by omega⟩) ?_
          grind
        · refine zero_of_mul (c := qx - px) hx ?_
          grind
      rw [if_neg (not_not_intro hc'), if_neg (not_not_intro hc)]
      unfold crI at hc
      rw [← ov_pos p1, ← ov_shift _ _ _ _ (((qx - px) * (sx - rx) + (qy - py) * (sy - ry)) * ((rx - px) * (qx - px) + (ry - py) * (qy - py))),
        show ((qx - px) * (qx - px) + (qy - py) * (qy - py)) * 0 + ((qx - px) * (sx - rx) + (qy - py) * (sy - ry)) * ((rx - px) * (qx - px) + (ry - py) * (qy - py)) = ((qx - px) * (sx - rx) + (qy - py) * (sy - ry)) * ((rx - px) * (qx - px) + (ry - py) * (qy - py)) by grind,
        show ((qx - px) * (qx - px) + (qy - py) * (qy - py)) * ((sx - rx) * (sx - rx) + (sy - ry) * (sy - ry)) + ((qx - px) * (sx - rx) + (qy - py) * (sy - ry)) * ((rx - px) * (qx - px) + (ry - py) * (qy - py)) = ((qx - px) * (sx - rx) + (qy - py) * (sy - ry)) * ((sx - px) * (qx - px) + (sy - py) * (qy - py)) by grind,
        show ((qx - px) * (qx - px) + (qy - py) * (qy - py)) * ((px - rx) * (sx - rx) + (py - ry) * (sy - ry)) + ((qx - px) * (sx - rx) + (qy - py) * (sy - ry)) * ((rx - px) * (qx - px) + (ry - py) * (qy - py)) = ((qx - px) * (sx - rx) + (qy - py) * (sy - ry)) * 0 by grind,
        show ((qx - px) * (qx - px) + (qy - py) * (qy - py)) * ((qx - rx) * (sx - rx) + (qy - ry) * (sy - ry)) + ((qx - px) * (sx - rx) + (qy - py) * (sy - ry)) * ((rx - px) * (qx - px) + (ry - py) * (qy - py)) = ((qx - px) * (sx - rx) + (qy - py) * (sy - ry)) * ((qx - px) * (qx - px) + (qy - py) * (qy - py)) by grind,
        ov_scale hg, ov_comm]
    · have hc' : ¬ crI rx ry sx sy px py = 0 := by
        intro h
        apply hc
        unfold crI at h ⊢
        by_cases hx : sx - rx = 0
        · refine zero_of_mul (c := sy - ry) (fun e => hm ⟨by omega, by omega⟩) ?_
          grind
        · refine zero_of_mul (c := sx - rx) hx ?_
          grind
      rw [if_pos hc', if_pos hc]
  · have hD' : (sx - rx) * (qy - py) - (sy - ry) * (qx - px) ≠ 0 := by
      intro h; apply hD; grind
    rw [if_pos hD', if_pos hD]
    simp only [Or.comm]
theorem linesZ_rev (px py qx qy rx ry sx sy : Int) : linesZ qx qy px py rx ry sx sy = linesZ px py qx qy rx ry sx sy := by
  rw [linesZ_eq, linesZ_eq]
  have e1 : crI qx qy px py rx ry = -crI px py qx qy rx ry := by unfold crI; grind
  have e2 : crI qx qy px py sx sy = -crI px py qx qy sx sy := by unfold crI; grind
  have e3 : (px - qx) * (sy - ry) - (py - qy) * (sx - rx) = -((qx - px) * (sy - ry) - (qy - py) * (sx - rx)) := by grind
  rw [e1, e2, e3, sideI_opp, sideI_opp, Int.neg_mul_neg, Int.mul_comm (sideI (crI rx ry sx sy qx qy))]
  simp only [ne_eq, Int.neg_eq_zero]
  have e4 : (px - qx) * (px - qx) + (py - qy) * (py - qy) = (qx - px) * (qx - px) + (qy - py) * (qy - py) := by grind
  have e5 : (rx - qx) * (px - qx) + (ry - qy) * (py - qy) = -((rx - px) * (qx - px) + (ry - py) * (qy - py)) + ((qx - px) * (qx - px) + (qy - py) * (qy - py)) := by grind
  have e6 : (sx - qx) * (px - qx) + (sy - qy) * (py - qy) = -((sx - px) * (qx - px) + (sy - py) * (qy - py)) + ((qx - px) * (qx - px) + (qy - py) * (qy - py)) := by grind
  rw [e4, e5, e6]
  obtain ⟨S, hS⟩ : ∃ z, (qx - px) * (qx - px) + (qy - py) * (qy - py) = z := ⟨_, rfl⟩
  rw [hS]
  have k (a b : Int) : ov 0 S (-a + S) (-b + S) = ov 0 S a b := by
    rw [← ov_neg 0 S a b, ← ov_shift (-0) (-S) (-a) (-b) S, show -0 + S = S by omega, show -S + S = 0 by omega, ov_flip S 0]
  rw [k]
end Go.Proofs.Ytmmhiiiaccldmaa
