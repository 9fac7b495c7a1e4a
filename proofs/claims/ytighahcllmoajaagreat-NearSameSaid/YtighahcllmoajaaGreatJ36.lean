/- MeetTurns, its plain part: the number of common points does not depend on the order of two edges, nor on which end comes first. | Plain: a moved edge. | MeetTurns, its plain part: a motion of both edges plays no part. -/
import Derived.Test.YtighahcllmoajaaGreatJ35
import Derived.Test.YtighahcllmoajaaGreatJ12
set_option linter.unusedVariables false
set_option linter.unusedSimpArgs false

namespace Go.Proofs.YtighahcllmoajaaGreat
open Go.RowKit
theorem beq_swap (a b : Int) : (a == b) = (b == a) := by rw [Bool.eq_iff_iff, beq_iff_eq, beq_iff_eq]; exact eq_comm
theorem bne_swap (a b : Bool) : (a != b) = (b != a) := by cases a <;> cases b <;> rfl
theorem sameZ_comm (q a b c d : Bool) : sameZ q a c b d = sameZ q a b c d := by
  unfold sameZ
  rw [show one a q + one c q + one b q + one d q = one a q + one b q + one c q + one d q by omega]
theorem sameZ_rev (q a b c d : Bool) : sameZ q c d a b = sameZ q a b c d := by
  unfold sameZ
  rw [show one c q + one d q + one a q + one b q = one a q + one b q + one c q + one d q by omega]
theorem arcsZ_comm (e f : Ed) : arcsZ f e = arcsZ e f := by
  unfold arcsZ
  by_cases hc : e.cx = f.cx /\ e.cy = f.cy
  · rw [if_pos hc, if_pos ⟨hc.1.symm, hc.2.symm⟩, beq_swap (radZ f), beq_swap f.ux e.ux, beq_swap f.uy e.uy, beq_swap f.ux e.vx, beq_swap f.uy e.vy, beq_swap f.vx e.ux, beq_swap f.vy e.uy, beq_swap f.vx e.vx, beq_swap f.vy e.vy]
    exact sameZ_comm ..
  · rw [if_neg hc, if_neg (fun g => hc ⟨g.1.symm, g.2.symm⟩), countZ_eq, countZ_eq]
    have hk : (aaE f e).k = 2 * (aaE e f).S - (aaE e f).k := by
      unfold AA.k aaE
      simp only
      grind
    have hS : (aaE f e).S = (aaE e f).S := by
      unfold aaE
      simp only
      grind
    have hkk : (aaE e f).k = (aaE e f).S - (radZ f * radZ f - radZ e * radZ e) := rfl
    have hd : (aaE f e).delta = (aaE e f).delta := by
      unfold AA.delta
      rw [hS, hk, hkk]
      have e1 : (aaE f e).r = radZ f := rfl
      have e2 : (aaE e f).r = radZ e := rfl
      rw [e1, e2]
      grind
    obtain ⟨k, K⟩ : ∃ k, (aaE e f).k = k := ⟨_, rfl⟩
    obtain ⟨S, hS'⟩ : ∃ S, (aaE e f).S = S := ⟨_, rfl⟩
    have hl : (aaE f e).list = negs [((k - 2 * S) * (aaE e f).ds, (aaE e f).ps), ((k - 2 * S) * (aaE e f).dt, (aaE e f).pt), (k * (aaE e f).du, (aaE e f).pu), (k * (aaE e f).dv, (aaE e f).pv)] := by
      unfold AA.list negs
      rw [hk, hS, K, hS']
      simp only [List.map_cons, List.map_nil, List.cons.injEq, Prod.mk.injEq, and_true, aaE]
      (repeat' apply And.intro) <;> grind
    rw [hd, hl, countC_negs, countC_perm (perm_lr ..)]
    unfold AA.list
    rw [K, hS']
theorem countE_comm (e f : Ed) : countE f e = countE e f := by
  unfold countE
  rw [Bool.and_comm]
  cases ho : (e.ok && f.ok) with
  | false => rfl
  | true =>
    obtain ⟨oe, of⟩ : e.ok = true /\ f.ok = true := by simpa using ho
    simp only [Bool.not_true, Bool.false_eq_true, if_false]
    by_cases k1 : e.k = 1
    · by_cases k2 : f.k = 1
      · simp only [if_pos k1, if_pos k2]
        cases p1 : e.pt with
        | true =>
          cases p2 : f.pt with
          | true =>
            simp only [if_true]
            unfold onZ
            have : onE e f.ax f.ay = onE f e.ax e.ay := by
              rw [Bool.eq_iff_iff]
              constructor
              · intro g
                obtain ⟨g1, g2⟩ := pt_on k1 p1 g
                rw [<- g1, <- g2]
                exact onE_self of k2
              · intro g
                obtain ⟨g1, g2⟩ := pt_on k2 p2 g
                rw [<- g1, <- g2]
                exact onE_self oe k1
            rw [this]
          | false => simp
        | false =>
          cases p2 : f.pt with
          | true => simp
          | false =>
            simp only [Bool.false_eq_true, if_false]
            refine linesZ_comm ?_ ?_
            · intro g
              rw [show e.pt = true by simp [Ed.pt, g.1, g.2]] at p1; cases p1
            · intro g
              rw [show f.pt = true by simp [Ed.pt, g.1, g.2]] at p2; cases p2
      · simp only [if_pos k1, if_neg k2]
    · by_cases k2 : f.k = 1
      · simp only [if_neg k1, if_pos k2]
      · simp only [if_neg k1, if_neg k2]
        exact arcsZ_comm e f
theorem rev_k {e : Ed} (h : e.ok = true) : (e.k = 1 /\ (revE e).k = 1) \/ (e.k = 2 /\ (revE e).k = 3) \/ (e.k = 3 /\ (revE e).k = 2) := by
  rcases kind_of h with k | k | k
  · left; exact ⟨k, by show (fam e.k).k = 1; rw [k]; rfl⟩
  · right; left; exact ⟨k, by show (fam e.k).k = 3; rw [k]; rfl⟩
  · right; right; exact ⟨k, by show (fam e.k).k = 2; rw [k]; rfl⟩
theorem rev_k1 {e : Ed} (h : e.ok = true) : (revE e).k = 1 ↔ e.k = 1 := by rcases rev_k h with ⟨a, b⟩ | ⟨a, b⟩ | ⟨a, b⟩ <;> rw [a, b] <;> decide
theorem rev_ok {e : Ed} (h : e.ok = true) : (revE e).ok = true := by
  have hk := rev_k h
  unfold Ed.ok at h ⊢
  simp only [Bool.and_eq_true] at h ⊢
  obtain ⟨h1, h2⟩ := h
  refine ⟨?_, ?_⟩
  · unfold Ed.right at h1 ⊢
    simp only [Bool.and_eq_true] at h1 ⊢
    exact ⟨⟨h1.1.2, h1.1.1⟩, h1.2⟩
  · have c1 : ¬ (2 : Int) = 1 := by decide
    have c2 : ¬ (3 : Int) = 1 := by decide
    have c3 : ¬ (3 : Int) = 2 := by decide
    rcases hk with ⟨a, b⟩ | ⟨a, b⟩ | ⟨a, b⟩ <;> rw [a] at h2 <;> rw [b] <;> simp only [if_pos, if_neg c1, if_neg c2, if_neg c3] at h2 ⊢
    · exact h2
    · simp only [Ed.quarter, quarterB, Bool.and_eq_true, beq_iff_eq, rot, revE] at h2 ⊢
      obtain ⟨q1, q2, q3⟩ := h2
      rw [q2, q3]
      refine ⟨?_, by omega, by omega⟩
      rw [<- q1]
      rw [show (-(e.ay - e.cy) == 0) = (e.ay - e.cy == 0) by rw [Bool.eq_iff_iff, beq_iff_eq, beq_iff_eq, Int.neg_eq_zero]]
      exact bne_swap _ _
    · simp only [Ed.quarter, quarterB, Bool.and_eq_true, beq_iff_eq, rot, revE] at h2 ⊢
      obtain ⟨q1, q2, q3⟩ := h2
      rw [q2, q3, Int.neg_neg]
      refine ⟨?_, by omega, by omega⟩
      rw [<- q1]
      rw [show (-(e.ax - e.cx) == 0) = (e.ax - e.cx == 0) by rw [Bool.eq_iff_iff, beq_iff_eq, beq_iff_eq, Int.neg_eq_zero]]
      exact bne_swap _ _
theorem rad_eq {e : Ed} (h : e.ok = true) (hk : ¬ e.k = 1) : radZ e = max (max (e.ax - e.cx) (-(e.ax - e.cx))) (max (e.ay - e.cy) (-(e.ay - e.cy))) := by
  have hkb : (e.k == 1) = false := by simpa using hk
  unfold radZ
  rw [h, hkb]
  rfl
theorem rev_rad {e : Ed} (h : e.ok = true) (hk : ¬ e.k = 1) : radZ (revE e) = radZ e := by
  have h1 := rad_eq h hk
  rw [rad_eq (rev_ok h) (fun g => hk ((rev_k1 h).1 g))]
  show max (max (e.bx - e.cx) (-(e.bx - e.cx))) (max (e.by' - e.cy) (-(e.by' - e.cy))) = radZ e
  obtain ⟨hr, hu, hv, a1, a2, a3, a4⟩ := arc_axes h hk
  obtain ⟨r, R⟩ : ∃ r, radZ e = r := ⟨_, rfl⟩
  rw [R] at a1 a2 a3 a4 hr ⊢
  have m0 : r * 0 = 0 := by omega
  have m1 : r * 1 = r := by omega
  have m2 : r * -1 = -r := by omega
  have n0 : -(0 : Int) = 0 := rfl
  have n1 : -(-1 : Int) = 1 := rfl
  rcases hu with ⟨u1, u2⟩ | ⟨u1, u2⟩ | ⟨u1, u2⟩ | ⟨u1, u2⟩ <;> rcases hv with ⟨_, v1, v2⟩ | ⟨_, v1, v2⟩ <;>
    (rw [u1] at v2; rw [u2] at v1; rw [v1] at a3; rw [v2] at a4
     simp only [m0, m1, m2, n0, n1] at a3 a4
     omega)
theorem rev_on {e : Ed} (h : e.ok = true) (x y : Int) : onE (revE e) x y = onE e x y := by
  unfold onE
  rw [h, rev_ok h]
  have hb : inB (min (revE e).ax (revE e).bx) (min (revE e).ay (revE e).by') (max (revE e).ax (revE e).bx) (max (revE e).ay (revE e).by') x y = inB (min e.ax e.bx) (min e.ay e.by') (max e.ax e.bx) (max e.ay e.by') x y := by
    show inB (min e.bx e.ax) (min e.by' e.ay) (max e.bx e.ax) (max e.by' e.ay) x y = _
    rw [Int.min_comm e.bx, Int.min_comm e.by', Int.max_comm e.bx, Int.max_comm e.by']
  rw [hb]
  by_cases hk : e.k = 1
  · rw [if_pos hk, if_pos ((rev_k1 h).2 hk)]
    have : (sideI (((revE e).bx - (revE e).ax) * (y - (revE e).ay) - ((revE e).by' - (revE e).ay) * (x - (revE e).ax)) == 0) = (sideI ((e.bx - e.ax) * (y - e.ay) - (e.by' - e.ay) * (x - e.ax)) == 0) := by
      rw [Bool.eq_iff_iff, sideI_zero, sideI_zero]
      show (e.ax - e.bx) * (y - e.by') - (e.ay - e.by') * (x - e.bx) = 0 ↔ _
      have : (e.ax - e.bx) * (y - e.by') - (e.ay - e.by') * (x - e.bx) = -((e.bx - e.ax) * (y - e.ay) - (e.by' - e.ay) * (x - e.ax)) := by grind
      rw [this, Int.neg_eq_zero]
    rw [this]
  · rw [if_neg hk, if_neg (fun g => hk ((rev_k1 h).1 g))]
    have : powerI (x - (revE e).cx) (y - (revE e).cy) ((revE e).ax - (revE e).cx) ((revE e).ay - (revE e).cy) = powerI (x - e.cx) (y - e.cy) (e.ax - e.cx) (e.ay - e.cy) := by
      show powerI (x - e.cx) (y - e.cy) (e.bx - e.cx) (e.by' - e.cy) = _
      unfold powerI
      obtain ⟨hr, hu, hv, a1, a2, a3, a4⟩ := arc_axes h hk
      have q : (e.bx - e.cx = -(e.ay - e.cy) /\ e.by' - e.cy = e.ax - e.cx) \/ (e.bx - e.cx = e.ay - e.cy /\ e.by' - e.cy = -(e.ax - e.cx)) := by
        rcases hv with ⟨_, v1, v2⟩ | ⟨_, v1, v2⟩
        · left; rw [v1] at a3; rw [v2] at a4; refine ⟨?_, by omega⟩; rw [a3, a2]; grind
        · right; rw [v1] at a3; rw [v2] at a4; refine ⟨by omega, ?_⟩; rw [a4, a1]; grind
      rcases q with ⟨q1, q2⟩ | ⟨q1, q2⟩ <;> rw [q1, q2] <;> grind
    rw [this]
theorem rev_axes {e : Ed} (h : e.ok = true) (hk : ¬ e.k = 1) : (revE e).ux = e.vx /\ (revE e).uy = e.vy /\ (revE e).vx = e.ux /\ (revE e).vy = e.uy := by
  unfold Ed.ux Ed.uy Ed.vx Ed.vy
  rw [rev_rad h hk]
  exact ⟨rfl, rfl, rfl, rfl⟩
theorem crossZ_revA {l e : Ed} (h : e.ok = true) (hk : ¬ e.k = 1) : crossZ l (revE e) = crossZ l e := by
  obtain ⟨x1, x2, x3, x4⟩ := rev_axes h hk
  have hl : laE l (revE e) = { laE l e with u1 := (laE l e).v1, u2 := (laE l e).v2, v1 := (laE l e).u1, v2 := (laE l e).u2 } := by
    unfold laE
    rw [x1, x2, x3, x4, rev_rad h hk]
    rfl
  unfold crossZ
  rw [countZ_eq, countZ_eq, hl]
  exact countC_perm (perm_uv ..)
theorem crossZ_revL {l e : Ed} (h : l.ok = true) : crossZ (revE l) e = crossZ l e := by
  unfold crossZ
  rw [countZ_eq, countZ_eq]
  have hS : (laE (revE l) e).S = (laE l e).S := by
    unfold laE revE; simp only; grind
  have hh : (laE (revE l) e).h = -(laE l e).h - (laE l e).S := by
    unfold laE revE; simp only; grind
  have hF : (laE (revE l) e).F = (laE l e).F + 2 * (laE l e).h + (laE l e).S := by
    unfold laE revE; simp only; grind
  have hu1 : (laE (revE l) e).u1 = (laE l e).u1 + (laE l e).u2 := by
    unfold laE revE; simp only; grind
  have hu2 : (laE (revE l) e).u2 = -(laE l e).u2 := by
    unfold laE revE; simp only; grind
  have hv1 : (laE (revE l) e).v1 = (laE l e).v1 + (laE l e).v2 := by
    unfold laE revE; simp only; grind
  have hv2 : (laE (revE l) e).v2 = -(laE l e).v2 := by
    unfold laE revE; simp only; grind
  have hr : (laE (revE l) e).r = (laE l e).r := rfl
  generalize laE (revE l) e = N at *
  generalize laE l e = M at *
  have hd : N.delta = M.delta := by
    unfold LA.delta
    rw [hS, hh, hF, hr]
    grind
  have hl : N.list = negs [(M.S - (0 - M.h), -1), (0 - M.h, 1), (M.S * M.u1 - M.h * M.u2, M.u2), (M.S * M.v1 - M.h * M.v2, M.v2)] := by
    unfold LA.list negs
    rw [hS, hh, hu1, hu2, hv1, hv2]
    simp only [List.map_cons, List.map_nil, List.cons.injEq, Prod.mk.injEq, and_true]
    (repeat' apply And.intro) <;> grind
  rw [hd, hl, countC_negs]
  exact countC_perm (perm_ab ..)
theorem arcsZ_rev {e f : Ed} (h : e.ok = true) (hk : ¬ e.k = 1) : arcsZ (revE e) f = arcsZ e f := by
  obtain ⟨x1, x2, x3, x4⟩ := rev_axes h hk
  unfold arcsZ
  rw [show (revE e).cx = e.cx from rfl, show (revE e).cy = e.cy from rfl, x1, x2, x3, x4, rev_rad h hk]
  split
  · exact sameZ_rev ..
  · have hl : aaE (revE e) f = { aaE e f with du := (aaE e f).dv, dv := (aaE e f).du, pu := (aaE e f).pv, pv := (aaE e f).pu } := by
      unfold aaE
      rw [x1, x2, x3, x4, rev_rad h hk]
      rfl
    rw [countZ_eq, countZ_eq, hl]
    exact countC_perm (perm_ab ..)
theorem rev_pt (e : Ed) : (revE e).pt = e.pt := by
  show ((e.bx == e.ax) && (e.by' == e.ay)) = _
  rw [beq_swap e.bx, beq_swap e.by']
  rfl
theorem countE_rev {e : Ed} (f : Ed) (h : e.ok = true) : countE (revE e) f = countE e f := by
  unfold countE
  rw [rev_ok h, h, rev_pt]
  by_cases k1 : e.k = 1
  · rw [if_pos k1, if_pos ((rev_k1 h).2 k1)]
    have hl : linesZ (revE e).ax (revE e).ay (revE e).bx (revE e).by' f.ax f.ay f.bx f.by' = linesZ e.ax e.ay e.bx e.by' f.ax f.ay f.bx f.by' := linesZ_rev ..
    rw [hl, crossZ_revL h]
    unfold onZ
    rw [rev_on h]
    cases p1 : e.pt with
    | false => simp
    | true =>
      have : (revE e).ax = e.ax /\ (revE e).ay = e.ay := by
        have : e.ax = e.bx /\ e.ay = e.by' := by simpa [Ed.pt] using p1
        exact ⟨this.1.symm, this.2.symm⟩
      rw [this.1, this.2]
  · rw [if_neg k1, if_neg (fun g => k1 ((rev_k1 h).1 g)), crossZ_revA h k1, arcsZ_rev h k1]
    unfold onZ
    rw [rev_on h]
end Go.Proofs.YtighahcllmoajaaGreat

namespace Go.Proofs.YtighahcllmoajaaGreat
open Go.RowKit
def moveE (e : Ed) (x y t : Int) (m : Bool) : Ed :=
 ⟨if m then (fam e.k).k else e.k, (applyP x y t m e.ax e.ay).1, (applyP x y t m e.ax e.ay).2, (applyP x y t m e.bx e.by').1, (applyP x y t m e.bx e.by').2,
  if e.k = 1 then e.cx else (applyP x y t m e.cx e.cy).1, if e.k = 1 then e.cy else (applyP x y t m e.cx e.cy).2⟩
end Go.Proofs.YtighahcllmoajaaGreat

namespace Go.Proofs.YtighahcllmoajaaGreat
open Go.RowKit
def IsoOk (a b c d : Int) : Prop := (b = 0 /\ c = 0 /\ (a = 1 \/ a = -1) /\ (d = 1 \/ d = -1)) \/ (a = 0 /\ d = 0 /\ (b = 1 \/ b = -1) /\ (c = 1 \/ c = -1))
theorem dot_iso {a b c d : Int} (h : IsoOk a b c d) (x y z w : Int) : (a * x + b * y) * (a * z + b * w) + (c * x + d * y) * (c * z + d * w) = x * z + y * w := by
 rcases h with ⟨rfl, rfl, rfl | rfl, rfl | rfl⟩ | ⟨rfl, rfl, rfl | rfl, rfl | rfl⟩ <;> grind
theorem crs_iso {a b c d : Int} (x y z w : Int) : (a * x + b * y) * (c * z + d * w) - (c * x + d * y) * (a * z + b * w) = (a * d - b * c) * (x * w - y * z) := by grind
theorem det_iso {a b c d : Int} (h : IsoOk a b c d) : a * d - b * c = 1 \/ a * d - b * c = -1 := by
 rcases h with ⟨rfl, rfl, rfl | rfl, rfl | rfl⟩ | ⟨rfl, rfl, rfl | rfl, rfl | rfl⟩ <;> decide
theorem sub_iso (a b x y z w t : Int) : a * x + b * y + t - (a * z + b * w + t) = a * (x - z) + b * (y - w) := by grind
theorem applyP_iso (x y t : Int) (m : Bool) (ht : 0 <= t /\ t <= 3) : ∃ a b c d, IsoOk a b c d /\ ∀ px py, applyP x y t m px py = (a * px + b * py + x, c * px + d * py + y) := by
 unfold IsoOk
 obtain rfl | rfl | rfl | rfl : t = 0 \/ t = 1 \/ t = 2 \/ t = 3 := by omega
 ·cases m
  ·exact ⟨1, 0, 0, 1, by decide, fun px py => by simp [applyP, mir, rot]⟩
  ·exact ⟨-1, 0, 0, 1, by decide, fun px py => by simp [applyP, mir, rot]⟩
 ·cases m
  ·exact ⟨0, -1, 1, 0, by decide, fun px py => by simp [applyP, mir, rot]⟩
  ·exact ⟨0, -1, -1, 0, by decide, fun px py => by simp [applyP, mir, rot]⟩
 ·cases m
  ·exact ⟨-1, 0, 0, -1, by decide, fun px py => by simp [applyP, mir, rot]⟩
  ·exact ⟨1, 0, 0, -1, by decide, fun px py => by simp [applyP, mir, rot]⟩
 ·cases m
  ·exact ⟨0, 1, -1, 0, by decide, fun px py => by simp [applyP, mir, rot]⟩
  ·exact ⟨0, 1, 1, 0, by decide, fun px py => by simp [applyP, mir, rot]⟩
structure Mvd (a b c d x y : Int) (e e' : Ed) : Prop where
 iso : IsoOk a b c d
 ok : e.ok = true
 ok' : e'.ok = true
 k : e'.k = 1 ↔ e.k = 1
 ax : e'.ax = a * e.ax + b * e.ay + x
 ay : e'.ay = c * e.ax + d * e.ay + y
 bx : e'.bx = a * e.bx + b * e.by' + x
 by' : e'.by' = c * e.bx + d * e.by' + y
 cx : ¬ e.k = 1 -> e'.cx = a * e.cx + b * e.cy + x
 cy : ¬ e.k = 1 -> e'.cy = c * e.cx + d * e.cy + y
variable {a b c d x y : Int} {e e' f f' : Ed}
theorem Mvd.rad (h : Mvd a b c d x y e e') (hk : ¬ e.k = 1) : radZ e' = radZ e := by
 rw [rad_eq h.ok hk, rad_eq h.ok' (fun g => hk (h.k.1 g)), h.ax, h.ay, h.cx hk, h.cy hk, sub_iso, sub_iso]
 rcases h.iso with ⟨rfl, rfl, rfl | rfl, rfl | rfl⟩ | ⟨rfl, rfl, rfl | rfl, rfl | rfl⟩ <;> omega
theorem tdiv_iso {a b c d : Int} (h : IsoOk a b c d) (x y r : Int) : (a * x + b * y).tdiv r = a * x.tdiv r + b * y.tdiv r /\ (c * x + d * y).tdiv r = c * x.tdiv r + d * y.tdiv r := by
 rcases h with ⟨rfl, rfl, rfl | rfl, rfl | rfl⟩ | ⟨rfl, rfl, rfl | rfl, rfl | rfl⟩ <;> simp [Int.neg_tdiv, Int.neg_mul]
theorem Mvd.axes (h : Mvd a b c d x y e e') (hk : ¬ e.k = 1) : e'.ux = a * e.ux + b * e.uy /\ e'.uy = c * e.ux + d * e.uy /\ e'.vx = a * e.vx + b * e.vy /\ e'.vy = c * e.vx + d * e.vy := by
 unfold Ed.ux Ed.uy Ed.vx Ed.vy
 rw [h.rad hk, h.ax, h.ay, h.bx, h.by', h.cx hk, h.cy hk, sub_iso, sub_iso, sub_iso, sub_iso]
 exact ⟨(tdiv_iso h.iso ..).1, (tdiv_iso h.iso ..).2, (tdiv_iso h.iso ..).1, (tdiv_iso h.iso ..).2⟩
theorem btw_iso {a b c d : Int} (h : IsoOk a b c d) (x y px py ax ay bx by' : Int) : (Btw (a * ax + b * ay + x) (a * px + b * py + x) (a * bx + b * by' + x) /\ Btw (c * ax + d * ay + y) (c * px + d * py + y) (c * bx + d * by' + y)) ↔ Btw ax px bx /\ Btw ay py by' := by
 unfold Btw
 rcases h with ⟨rfl, rfl, rfl | rfl, rfl | rfl⟩ | ⟨rfl, rfl, rfl | rfl, rfl | rfl⟩ <;> omega
theorem Mvd.on (h : Mvd a b c d x y e e') (px py : Int) : onE e' (a * px + b * py + x) (c * px + d * py + y) = onE e px py := by
 unfold onE
 rw [h.ok, h.ok']
 have hb : inB (min e'.ax e'.bx) (min e'.ay e'.by') (max e'.ax e'.bx) (max e'.ay e'.by') (a * px + b * py + x) (c * px + d * py + y) = inB (min e.ax e.bx) (min e.ay e.by') (max e.ax e.bx) (max e.ay e.by') px py := by
  rw [Bool.eq_iff_iff, inB_iff, inB_iff, h.ax, h.ay, h.bx, h.by']
  exact btw_iso h.iso ..
 rw [hb]
 by_cases hk : e.k = 1
 ·rw [if_pos hk, if_pos (h.k.2 hk)]
  have : (sideI ((e'.bx - e'.ax) * (c * px + d * py + y - e'.ay) - (e'.by' - e'.ay) * (a * px + b * py + x - e'.ax)) == 0) = (sideI ((e.bx - e.ax) * (py - e.ay) - (e.by' - e.ay) * (px - e.ax)) == 0) := by
   rw [Bool.eq_iff_iff, sideI_zero, sideI_zero, h.ax, h.ay, h.bx, h.by', sub_iso, sub_iso, sub_iso, sub_iso, crs_iso]
   rcases det_iso h.iso with g | g <;> rw [g] <;> omega
  rw [this]
 ·rw [if_neg hk, if_neg (fun g => hk (h.k.1 g))]
  have : powerI (a * px + b * py + x - e'.cx) (c * px + d * py + y - e'.cy) (e'.ax - e'.cx) (e'.ay - e'.cy) = powerI (px - e.cx) (py - e.cy) (e.ax - e.cx) (e.ay - e.cy) := by
   unfold powerI
   rw [h.ax, h.ay, h.cx hk, h.cy hk, sub_iso, sub_iso, sub_iso, sub_iso, dot_iso h.iso, dot_iso h.iso]
  rw [this]
theorem eq_iso {a b c d : Int} (h : IsoOk a b c d) (x y z w : Int) : (a * x + b * y = a * z + b * w /\ c * x + d * y = c * z + d * w) ↔ x = z /\ y = w := by
 rcases h with ⟨rfl, rfl, rfl | rfl, rfl | rfl⟩ | ⟨rfl, rfl, rfl | rfl, rfl | rfl⟩ <;> omega
theorem beq_iso {a b c d : Int} (h : IsoOk a b c d) (x y z w : Int) : (a * x + b * y == a * z + b * w && c * x + d * y == c * z + d * w) = (x == z && y == w) := by
 rw [Bool.eq_iff_iff, Bool.and_eq_true, Bool.and_eq_true, beq_iff_eq, beq_iff_eq, beq_iff_eq, beq_iff_eq]
 exact eq_iso h ..
theorem Mvd.pt (h : Mvd a b c d x y e e') : e'.pt = e.pt := by
 unfold Ed.pt
 rw [h.ax, h.ay, h.bx, h.by', <- beq_iso h.iso e.ax e.ay e.bx e.by', Bool.eq_iff_iff]
 simp only [Bool.and_eq_true, beq_iff_eq]
 omega
theorem side_iso {g : Int} (hg : g = 1 \/ g = -1) (m n : Int) : sideI (g * m) * sideI (g * n) = sideI m * sideI n := by
 rcases hg with rfl | rfl
 ·rw [Int.one_mul, Int.one_mul]
 ·rw [Int.neg_one_mul, Int.neg_one_mul, sideI_opp, sideI_opp, Int.neg_mul_neg]
theorem lines_iso {a b c d : Int} (h : IsoOk a b c d) (x y px py qx qy rx ry sx sy : Int) : linesZ (a * px + b * py + x) (c * px + d * py + y) (a * qx + b * qy + x) (c * qx + d * qy + y) (a * rx + b * ry + x) (c * rx + d * ry + y) (a * sx + b * sy + x) (c * sx + d * sy + y) = linesZ px py qx qy rx ry sx sy := by
 rw [linesZ_eq, linesZ_eq]
 unfold crI
 simp only [sub_iso, crs_iso, dot_iso h]
 have hg := det_iso h
 rw [side_iso hg, side_iso hg]
 have e1 (n : Int) : (a * d - b * c) * n ≠ 0 ↔ n ≠ 0 := by rcases hg with g | g <;> rw [g] <;> omega
 simp only [e1]
theorem countC_sgn {g : Int} (hg : g = 1 \/ g = -1) (D : Int) (x1 y1 x2 y2 x3 y3 x4 y4 : Int) : countC D [(x1, g * y1), (x2, g * y2), (x3, g * y3), (x4, g * y4)] = countC D [(x1, y1), (x2, y2), (x3, y3), (x4, y4)] := by
 rcases hg with rfl | rfl
 ·simp only [Int.one_mul]
 ·rw [<- countC_negs D [(x1, y1), (x2, y2), (x3, y3), (x4, y4)]]
  unfold negs
  simp only [Int.neg_one_mul, List.map_cons, List.map_nil]
theorem Mvd.cross (h : Mvd a b c d x y e e') (g : Mvd a b c d x y f f') (hk : ¬ f.k = 1) : crossZ e' f' = crossZ e f := by
 have : laE e' f' = laE e f := by
  obtain ⟨x1, x2, x3, x4⟩ := g.axes hk
  unfold laE
  rw [x1, x2, x3, x4, g.rad hk, h.ax, h.ay, h.bx, h.by', g.cx hk, g.cy hk]
  simp only [sub_iso, dot_iso h.iso]
 unfold crossZ
 rw [this]
theorem prp_iso {a b c d : Int} (x y z w : Int) : -(c * x + d * y) * (a * z + b * w) + (a * x + b * y) * (c * z + d * w) = (a * d - b * c) * (-y * z + x * w) := by grind
theorem Mvd.arcs (h : Mvd a b c d x y e e') (g : Mvd a b c d x y f f') (hk : ¬ e.k = 1) (gk : ¬ f.k = 1) : arcsZ e' f' = arcsZ e f := by
 obtain ⟨x1, x2, x3, x4⟩ := h.axes hk
 obtain ⟨y1, y2, y3, y4⟩ := g.axes gk
 have hc : (e'.cx = f'.cx /\ e'.cy = f'.cy) ↔ e.cx = f.cx /\ e.cy = f.cy := by
  rw [h.cx hk, h.cy hk, g.cx gk, g.cy gk, <- eq_iso h.iso e.cx e.cy f.cx f.cy]
  omega
 unfold arcsZ
 rw [x1, x2, x3, x4, y1, y2, y3, y4, h.rad hk, g.rad gk]
 simp only [hc, beq_iso h.iso]
 split
 ·rfl
 ·rw [countZ_eq, countZ_eq]
  have hl : aaE e' f' = { aaE e f with pu := (a * d - b * c) * (aaE e f).pu, pv := (a * d - b * c) * (aaE e f).pv, ps := (a * d - b * c) * (aaE e f).ps, pt := (a * d - b * c) * (aaE e f).pt } := by
   unfold aaE
   rw [x1, x2, x3, x4, y1, y2, y3, y4, h.rad hk, g.rad gk, h.cx hk, h.cy hk, g.cx gk, g.cy gk]
   simp only [sub_iso, dot_iso h.iso, prp_iso]
  rw [hl]
  exact countC_sgn (det_iso h.iso) ..
theorem Mvd.count (h : Mvd a b c d x y e e') (g : Mvd a b c d x y f f') : countE e' f' = countE e f := by
 have hl : linesZ e'.ax e'.ay e'.bx e'.by' f'.ax f'.ay f'.bx f'.by' = linesZ e.ax e.ay e.bx e.by' f.ax f.ay f.bx f.by' := by
  rw [h.ax, h.ay, h.bx, h.by', g.ax, g.ay, g.bx, g.by']
  exact lines_iso h.iso ..
 have o1 : onZ f' e'.ax e'.ay = onZ f e.ax e.ay := by unfold onZ; rw [h.ax, h.ay, g.on]
 have o2 : onZ e' f'.ax f'.ay = onZ e f.ax f.ay := by unfold onZ; rw [g.ax, g.ay, h.on]
 unfold countE
 rw [h.ok, h.ok', g.ok, g.ok', h.pt, g.pt, hl, o1, o2]
 by_cases k1 : e.k = 1
 ·by_cases k2 : f.k = 1
  ·simp only [if_pos k1, if_pos k2, if_pos (h.k.2 k1), if_pos (g.k.2 k2)]
  ·simp only [if_pos k1, if_neg k2, if_pos (h.k.2 k1), if_neg (fun t => k2 (g.k.1 t)), h.cross g k2]
 ·by_cases k2 : f.k = 1
  ·simp only [if_neg k1, if_pos k2, if_neg (fun t => k1 (h.k.1 t)), if_pos (g.k.2 k2), g.cross h k1]
  ·simp only [if_neg k1, if_neg k2, if_neg (fun t => k1 (h.k.1 t)), if_neg (fun t => k2 (g.k.1 t)), h.arcs g k1 k2]
theorem moved (x y t : Int) (m : Bool) (ht : 0 <= t /\ t <= 3) : ∃ a b c d, ∀ e : Ed, e.ok = true -> (moveE e x y t m).ok = true -> Mvd a b c d x y e (moveE e x y t m) := by
 obtain ⟨a, b, c, d, hi, h⟩ := applyP_iso x y t m ht
 refine ⟨a, b, c, d, fun e h1 h2 => ⟨hi, h1, h2, ?_, ?_, ?_, ?_, ?_, ?_, ?_⟩⟩
 ·show (if m then (fam e.k).k else e.k) = 1 ↔ _
  cases m
  ·exact Iff.rfl
  ·exact rev_k1 h1
 ·show (applyP x y t m e.ax e.ay).1 = _; rw [h]
 ·show (applyP x y t m e.ax e.ay).2 = _; rw [h]
 ·show (applyP x y t m e.bx e.by').1 = _; rw [h]
 ·show (applyP x y t m e.bx e.by').2 = _; rw [h]
 ·intro hk
  show (if e.k = 1 then e.cx else (applyP x y t m e.cx e.cy).1) = _
  rw [if_neg hk, h]
 ·intro hk
  show (if e.k = 1 then e.cy else (applyP x y t m e.cx e.cy).2) = _
  rw [if_neg hk, h]
theorem move_ok {e : Ed} (h : e.ok = true) (x y t : Int) (m : Bool) (ht : 0 <= t /\ t <= 3) (hx : -1048576 <= x /\ x <= 1048576) (hy : -1048576 <= y /\ y <= 1048576)
  (s1 : -1048576 <= e.ax /\ e.ax <= 1048576) (s2 : -1048576 <= e.ay /\ e.ay <= 1048576) (s3 : -1048576 <= e.bx /\ e.bx <= 1048576) (s4 : -1048576 <= e.by' /\ e.by' <= 1048576) (s5 : -1048576 <= e.cx /\ e.cx <= 1048576) (s6 : -1048576 <= e.cy /\ e.cy <= 1048576) : (moveE e x y t m).ok = true := by
 have co : ∀ px py : Int, -1048576 <= px /\ px <= 1048576 -> -1048576 <= py /\ py <= 1048576 -> coordB (applyP x y t m px py).1 (applyP x y t m px py).2 = true := by
  intro px py h1 h2
  obtain ⟨a, b, c, d, hi, hp⟩ := applyP_iso x y t m ht
  rw [hp, coordB_iff]
  unfold Co
  rcases hi with ⟨rfl, rfl, rfl | rfl, rfl | rfl⟩ | ⟨rfl, rfl, rfl | rfl, rfl | rfl⟩ <;> omega
 have hr := h
 unfold Ed.ok at h ⊢
 simp only [Bool.and_eq_true] at h ⊢
 obtain ⟨h1, h2⟩ := h
 have hk : (moveE e x y t m).k = if m then (fam e.k).k else e.k := rfl
 have hrk := rev_k hr
 have hrk' : (revE e).k = (fam e.k).k := rfl
 refine ⟨?_, ?_⟩
 ·unfold Ed.right moveE
  simp only [Bool.and_eq_true]
  refine ⟨⟨co _ _ s1 s2, co _ _ s3 s4⟩, ?_⟩
  by_cases k1 : e.k = 1
  ·simp only [if_pos k1]
   rw [coordB_iff]
   unfold Co
   omega
  ·simp only [if_neg k1]
   exact co _ _ s5 s6
 ·by_cases k1 : e.k = 1
  ·have : (moveE e x y t m).k = 1 := by rw [hk]; cases m <;> first | exact k1 | (rw [k1]; rfl)
   rw [if_pos this]
   rw [if_pos k1] at h2
   unfold Ed.lone moveE at *
   simpa [k1] using h2
  ·have q (n : Nat) : (moveE e x y t m).quarter n = quarterB ((applyP x y t m e.ax e.ay).1 - (applyP x y t m e.cx e.cy).1) ((applyP x y t m e.ax e.ay).2 - (applyP x y t m e.cx e.cy).2) ((applyP x y t m e.bx e.by').1 - (applyP x y t m e.cx e.cy).1) ((applyP x y t m e.bx e.by').2 - (applyP x y t m e.cx e.cy).2) n := by
    unfold Ed.quarter moveE
    simp only [if_neg k1]
   have q2 (n : Nat) : quarterB ((applyP x y t m e.ax e.ay).1 - (applyP x y t m e.cx e.cy).1) ((applyP x y t m e.ax e.ay).2 - (applyP x y t m e.cx e.cy).2) ((applyP x y t m e.bx e.by').1 - (applyP x y t m e.cx e.cy).1) ((applyP x y t m e.bx e.by').2 - (applyP x y t m e.cx e.cy).2) n = quarterB (rot t.toNat (mir m (e.ax - e.cx, e.ay - e.cy))).1 (rot t.toNat (mir m (e.ax - e.cx, e.ay - e.cy))).2 (rot t.toNat (mir m (e.bx - e.cx, e.by' - e.cy))).1 (rot t.toNat (mir m (e.bx - e.cx, e.by' - e.cy))).2 n := by
    have r (px py : Int) : (applyP x y t m px py).1 - (applyP x y t m e.cx e.cy).1 = (rot t.toNat (mir m (px - e.cx, py - e.cy))).1 /\ (applyP x y t m px py).2 - (applyP x y t m e.cx e.cy).2 = (rot t.toNat (mir m (px - e.cx, py - e.cy))).2 := by
     obtain rfl | rfl | rfl | rfl : t = 0 \/ t = 1 \/ t = 2 \/ t = 3 := by omega
     all_goals cases m <;> simp [applyP, mir, rot] <;> omega
    rw [(r _ _).1, (r _ _).2, (r _ _).1, (r _ _).2]
   obtain ⟨D, hD⟩ : ∃ D, e.ax - e.cx = D := ⟨_, rfl⟩
   obtain ⟨F, hF⟩ : ∃ F, e.ay - e.cy = F := ⟨_, rfl⟩
   have key (n n' : Nat) (hq : e.quarter n = true) (hn : (n = 1 \/ n = 3) /\ n' = if m then 4 - n else n) : (moveE e x y t m).quarter n' = true := by
    rw [q, q2]
    unfold Ed.quarter at hq
    rw [hD, hF] at hq ⊢
    unfold quarterB at hq
    simp only [Bool.and_eq_true, beq_iff_eq] at hq
    obtain ⟨g1, g2, g3⟩ := hq
    rw [g2, g3]
    have bn (z : Int) : (-z == 0) = (z == 0) := by rw [Bool.eq_iff_iff, beq_iff_eq, beq_iff_eq, Int.neg_eq_zero]
    have g1' : ((F == 0) != (D == 0)) = true := by rw [bne_swap]; exact g1
    obtain rfl | rfl | rfl | rfl : t = 0 \/ t = 1 \/ t = 2 \/ t = 3 := by omega
    all_goals
     obtain ⟨rfl | rfl, rfl⟩ := hn
     all_goals
      cases m
      all_goals
       simp [quarterB, rot, mir, bn]
       first | exact g1 | exact g1' | simpa using g1 | simpa using g1'
   rw [hk]
   rcases hrk with ⟨c1, c2⟩ | ⟨c1, c2⟩ | ⟨c1, c2⟩
   ·exact absurd c1 k1
   ·rw [hrk'] at c2
    rw [c1] at h2
    have := key 1 (if m then 3 else 1) h2 ⟨.inl rfl, by cases m <;> rfl⟩
    cases m
    ·simp only [Bool.false_eq_true, if_false, c1]
     exact this
    ·simp only [if_true, c2]
     exact this
   ·rw [hrk'] at c2
    rw [c1] at h2
    have := key 3 (if m then 1 else 3) h2 ⟨.inr rfl, by cases m <;> rfl⟩
    cases m
    ·simp only [Bool.false_eq_true, if_false, c1]
     exact this
    ·simp only [if_true, c2]
     exact this
end Go.Proofs.YtighahcllmoajaaGreat
