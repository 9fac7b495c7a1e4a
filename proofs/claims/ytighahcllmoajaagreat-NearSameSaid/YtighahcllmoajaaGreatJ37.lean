/- Plain: neither order nor direction nor motion of two edges changes the candidates' distances. | Contracts: vec.turns, vec.Apply at any turn from -8 to 8, edge.Move, by the kernel's walker. | The law NearSame, by the kernel's walker. -/
import Derived.Test.YtighahcllmoajaaGreatJ34
import Derived.Test.YtighahcllmoajaaGreatJ36
import Derived.Test.YtighahcllmoajaaGreatJ31
import Derived.Test.YtighahcllmoajaaGreatJ32
set_option linter.unusedVariables false
set_option linter.unusedSimpArgs false

namespace Go.Proofs.YtighahcllmoajaaGreat
open Go.RowKit
theorem sgQ {x y : Q4} (hx : x.ok) (hy : y.ok) : Sg (cmpQ x y) (df x.rt y.rt) := by
 obtain ⟨_, k1, r1⟩ := hx.root
 obtain ⟨_, k2, r2⟩ := hy.root
 rw [<- cmpQ_rt hx hy]
 unfold cmpRt
 rw [r1, r2]
 exact cmpRt_sg k1 k2
theorem cmpQ_anti {x y : Q4} (hx : x.ok) (hy : y.ok) : cmpQ y x = -cmpQ x y := by
 refine Sg.uniq (sgQ hy hx) (Sg.eq (sgQ hx hy).neg fun k => ?_)
 rw [neg_f, df_f, df_f]
 grind
theorem cmpQ_self {x : Q4} (hx : x.ok) : cmpQ x x = 0 := by have := cmpQ_anti hx hx; omega
theorem cmpQ_trans {x y z : Q4} (hx : x.ok) (hy : y.ok) (hz : z.ok) (h1 : cmpQ x y <= 0) (h2 : cmpQ y z <= 0) : cmpQ x z <= 0 :=
 ((cmp_trans hx.root.2.1 hy.root.2.1 hz.root.2.1 (sgQ hx hy) (sgQ hy hz) (sgQ hx hz)).1 h1 h2).1
theorem fold_le : ∀ {m : List Q4} {y : Q4}, y.ok -> (∀ z ∈ m, z.ok) -> (m.foldl (fun x y => if cmpQ y x < 0 then y else x) y).ok /\ cmpQ (m.foldl (fun x y => if cmpQ y x < 0 then y else x) y) y <= 0 /\ ∀ z ∈ m, cmpQ (m.foldl (fun x y => if cmpQ y x < 0 then y else x) y) z <= 0
 | [], y, hy, _ => ⟨hy, by rw [show List.foldl _ y [] = y from rfl, cmpQ_self hy]; exact Int.le_refl 0, nofun⟩
 | b :: m, y, hy, hm => by
  have hb := hm b (List.mem_cons_self ..)
  have hm' : ∀ z ∈ m, z.ok := fun z hz => hm z (List.mem_cons_of_mem _ hz)
  simp only [List.foldl_cons]
  split
  ·rename_i h
   obtain ⟨k0, k1, k2⟩ := fold_le (y := b) hb hm'
   refine ⟨k0, cmpQ_trans k0 hb hy k1 (Int.le_of_lt h), fun z hz => ?_⟩
   rcases List.mem_cons.1 hz with rfl | hz
   ·exact k1
   ·exact k2 z hz
  ·rename_i h
   obtain ⟨k0, k1, k2⟩ := fold_le (y := y) hy hm'
   refine ⟨k0, k1, fun z hz => ?_⟩
   rcases List.mem_cons.1 hz with rfl | hz
   ·exact cmpQ_trans k0 hy hb k1 (by rw [cmpQ_anti hb hy]; omega)
   ·exact k2 z hz
theorem leastQ_le {m : List Q4} (h0 : m ≠ []) (hm : ∀ z ∈ m, z.ok) : (leastQ m).ok /\ ∀ z ∈ m, cmpQ (leastQ m) z <= 0 := by
 cases m with
 | nil => exact absurd rfl h0
 | cons y m =>
  obtain ⟨k0, k1, k2⟩ := fold_le (m := m) (hm y (List.mem_cons_self ..)) fun z hz => hm z (List.mem_cons_of_mem _ hz)
  refine ⟨k0, fun z hz => ?_⟩
  rcases List.mem_cons.1 hz with rfl | hz
  ·exact k1
  ·exact k2 z hz
theorem leastQ_perm {m m' : List Q4} (h0 : m ≠ []) (hm : ∀ z ∈ m, z.ok) (h : ∀ z, z ∈ m ↔ z ∈ m') : cmpQ (leastQ m) (leastQ m') = 0 := by
 have h0' : m' ≠ [] := fun e => by
  cases m with
  | nil => exact h0 rfl
  | cons y m => have := (h y).1 (List.mem_cons_self ..); rw [e] at this; cases this
 have hm' : ∀ z ∈ m', z.ok := fun z hz => hm z ((h z).2 hz)
 obtain ⟨k1, k2⟩ := leastQ_le h0 hm
 obtain ⟨j1, j2⟩ := leastQ_le h0' hm'
 have a := k2 _ ((h _).2 (leastQ_mem h0'))
 have b := j2 _ ((h _).1 (leastQ_mem h0))
 rw [cmpQ_anti k1 j1] at b
 omega
theorem arc_ends {e : Ed} (h : e.ok = true) (hk : ¬ e.k = 1) : (e.k = 2 /\ e.bx - e.cx = -(e.ay - e.cy) /\ e.by' - e.cy = e.ax - e.cx) \/ (e.k = 3 /\ e.bx - e.cx = e.ay - e.cy /\ e.by' - e.cy = -(e.ax - e.cx)) := by
 have hk' := kind_of h
 unfold Ed.ok at h
 simp only [Bool.and_eq_true] at h
 obtain ⟨_, h2⟩ := h
 rcases hk' with k | k | k
 ·exact absurd k hk
 ·rw [k] at h2
  simp only [show ¬ (2 : Int) = 1 by decide, if_false, if_true, Ed.quarter, quarterB, Bool.and_eq_true, beq_iff_eq, rot] at h2
  exact .inl ⟨k, h2.2.1, h2.2.2⟩
 ·rw [k] at h2
  simp only [show ¬ (3 : Int) = 1 by decide, show ¬ (3 : Int) = 2 by decide, if_false, if_true, Ed.quarter, quarterB, Bool.and_eq_true, beq_iff_eq, rot] at h2
  refine .inr ⟨k, ?_, ?_⟩ <;> omega
def dotA (e : Ed) (x y : Int) : Int := x * (e.ax - e.cx) + y * (e.ay - e.cy)
def dotB (e : Ed) (x y : Int) : Int := x * (e.bx - e.cx) + y * (e.by' - e.cy)
theorem inQ_dot {e : Ed} (h : e.ok = true) (hk : ¬ e.k = 1) (x y : Int) : inQ e x y = (!(x == 0 && y == 0) && (decide (0 <= dotA e x y) && decide (0 <= dotB e x y))) := by
 unfold inQ wiB dotA dotB
 rcases arc_ends h hk with ⟨k, e1, e2⟩ | ⟨k, e1, e2⟩
 ·rw [if_neg (by omega), e1, e2]
  rw [show (e.ax - e.cx) * y - (e.ay - e.cy) * x = x * -(e.ay - e.cy) + y * (e.ax - e.cx) by grind, show x * (e.ax - e.cx) - y * -(e.ay - e.cy) = x * (e.ax - e.cx) + y * (e.ay - e.cy) by grind]
  congr 1
  exact Bool.and_comm _ _
 ·rw [if_pos k, e1, e2]
  rw [show (e.ay - e.cy) * y - -(e.ax - e.cx) * x = x * (e.ax - e.cx) + y * (e.ay - e.cy) by grind, show x * (e.ay - e.cy) - y * (e.ax - e.cx) = x * (e.ay - e.cy) + y * -(e.ax - e.cx) by grind]
theorem inQ_rev {e : Ed} (h : e.ok = true) (hk : ¬ e.k = 1) (x y : Int) : inQ (revE e) x y = inQ e x y := by
 rw [inQ_dot h hk, inQ_dot (rev_ok h) (fun g => hk ((rev_k1 h).1 g))]
 show (!(x == 0 && y == 0) && (decide (0 <= dotB e x y) && decide (0 <= dotA e x y))) = _
 congr 1
 exact Bool.and_comm _ _
theorem endQ_eq {a b c d e f : Int} (h : sqI (a - c) (b - d) = sqI (a - e) (b - f)) : endQ a b c d = endQ a b e f := by unfold endQ; rw [h]
theorem lineQ_rev (e : Ed) (x y : Int) : lineQ (revE e) x y = lineQ e x y := by
 rw [lineQ_eq, lineQ_eq]
 have e1 : tI (revE e) x y = qI e - tI e x y := by unfold tI qI sqI revE; simp only; grind
 have e2 : cI (revE e) x y = -cI e x y := by unfold cI revE; simp only; grind
 have e3 : qI (revE e) = qI e := by unfold qI sqI revE; simp only; grind
 rw [e1, e2, e3, Int.neg_mul_neg]
 have hq : 0 <= qI e := sqI_nn _ _
 show (if qI e - tI e x y <= 0 then endQ x y e.bx e.by' else if qI e <= qI e - tI e x y then endQ x y e.ax e.ay else _) = _
 by_cases h1 : tI e x y <= 0
 ·rw [if_pos h1]
  by_cases h2 : qI e - tI e x y <= 0
  ·rw [if_pos h2]
   have h3 : sqI (e.bx - e.ax) (e.by' - e.ay) = 0 := by show qI e = 0; omega
   have h4 : e.bx - e.ax = 0 /\ e.by' - e.ay = 0 := by
    apply Classical.byContradiction
    intro hn
    have := sqI_pos hn
    omega
   rw [show e.bx = e.ax by omega, show e.by' = e.ay by omega]
  ·rw [if_neg h2, if_pos (by omega)]
 ·rw [if_neg h1]
  by_cases h2 : qI e <= tI e x y
  ·rw [if_pos h2, if_pos (by omega)]
  ·rw [if_neg h2, if_neg (by omega), if_neg (by omega)]
theorem arcQ_rev {e : Ed} (h : e.ok = true) (hk : ¬ e.k = 1) (x y : Int) : arcQ (revE e) x y = arcQ e x y := by
 unfold arcQ
 rw [rev_rad h hk]
 show (if inQ (revE e) (x - e.cx) (y - e.cy) = true then (if radZ e * radZ e <= sqI (x - e.cx) (y - e.cy) then ⟨-radZ e, 1, sqI (x - e.cx) (y - e.cy), 1⟩ else ⟨radZ e, -1, sqI (x - e.cx) (y - e.cy), 1⟩)
  else if sqI (x - e.ax) (y - e.ay) < sqI (x - e.bx) (y - e.by') then endQ x y e.ax e.ay else endQ x y e.bx e.by') = _
 rw [inQ_rev h hk]
 split
 ·rfl
 ·split
  ·rw [if_neg (by omega)]
  ·rename_i h1
   by_cases h2 : sqI (x - e.bx) (y - e.by') < sqI (x - e.ax) (y - e.ay)
   ·rw [if_pos h2]
   ·rw [if_neg h2]
    exact endQ_eq (by omega)
theorem pointQ_rev {e : Ed} (h : e.ok = true) (x y : Int) : pointQ (revE e) x y = pointQ e x y := by
 unfold pointQ
 by_cases hk : e.k = 1
 ·rw [if_pos hk, if_pos ((rev_k1 h).2 hk), lineQ_rev]
 ·rw [if_neg hk, if_neg (fun g => hk ((rev_k1 h).1 g)), arcQ_rev h hk]
theorem footQ_eq (l a : Ed) : footQ l a = if tI l a.cx a.cy <= 0 \/ qI l <= tI l a.cx a.cy \/ cI l a.cx a.cy * cI l a.cx a.cy <= radZ a * radZ a * qI l \/ inQ a (if 0 < cI l a.cx a.cy then l.by' - l.ay else -(l.by' - l.ay)) (if 0 < cI l a.cx a.cy then -(l.bx - l.ax) else l.bx - l.ax) = false then [] else [⟨-radZ a, 1, cI l a.cx a.cy * cI l a.cx a.cy, qI l⟩] := rfl
theorem footQ_revA {l a : Ed} (h : a.ok = true) (hk : ¬ a.k = 1) : footQ l (revE a) = footQ l a := by
 rw [footQ_eq, footQ_eq, rev_rad h hk, inQ_rev h hk]
 rfl
theorem footQ_revL (l a : Ed) : footQ (revE l) a = footQ l a := by
 rw [footQ_eq, footQ_eq]
 have e1 : tI (revE l) a.cx a.cy = qI l - tI l a.cx a.cy := by unfold tI qI sqI revE; simp only; grind
 have e2 : cI (revE l) a.cx a.cy = -cI l a.cx a.cy := by unfold cI revE; simp only; grind
 have e3 : qI (revE l) = qI l := by unfold qI sqI revE; simp only; grind
 have e4 : (revE l).by' - (revE l).ay = -(l.by' - l.ay) := by show l.ay - l.by' = _; omega
 have e5 : (revE l).bx - (revE l).ax = -(l.bx - l.ax) := by show l.ax - l.bx = _; omega
 rw [e1, e2, e3, e4, e5, Int.neg_mul_neg, Int.neg_neg, Int.neg_neg]
 have hq : 0 <= qI l := sqI_nn _ _
 by_cases h0 : cI l a.cx a.cy = 0
 ·have h1 : cI l a.cx a.cy * cI l a.cx a.cy <= radZ a * radZ a * qI l := by
   rw [h0, Int.zero_mul]; exact Int.mul_nonneg (sqz_nn _) hq
  rw [if_pos (.inr (.inr (.inl h1))), if_pos (.inr (.inr (.inl h1)))]
 ·have e6 : (if 0 < -cI l a.cx a.cy then -(l.by' - l.ay) else l.by' - l.ay) = (if 0 < cI l a.cx a.cy then l.by' - l.ay else -(l.by' - l.ay)) := by
   split <;> split <;> first | rfl | (exfalso; omega)
  have e7 : (if 0 < -cI l a.cx a.cy then l.bx - l.ax else -(l.bx - l.ax)) = (if 0 < cI l a.cx a.cy then -(l.bx - l.ax) else l.bx - l.ax) := by
   split <;> split <;> first | rfl | (exfalso; omega)
  rw [e6, e7]
  have e8 : (qI l - tI l a.cx a.cy <= 0 \/ qI l <= qI l - tI l a.cx a.cy \/ cI l a.cx a.cy * cI l a.cx a.cy <= radZ a * radZ a * qI l \/ inQ a (if 0 < cI l a.cx a.cy then l.by' - l.ay else -(l.by' - l.ay)) (if 0 < cI l a.cx a.cy then -(l.bx - l.ax) else l.bx - l.ax) = false) = (tI l a.cx a.cy <= 0 \/ qI l <= tI l a.cx a.cy \/ cI l a.cx a.cy * cI l a.cx a.cy <= radZ a * radZ a * qI l \/ inQ a (if 0 < cI l a.cx a.cy then l.by' - l.ay else -(l.by' - l.ay)) (if 0 < cI l a.cx a.cy then -(l.bx - l.ax) else l.bx - l.ax) = false) := by
   apply propext
   constructor
   ·rintro (h | h | h)
    ·exact .inr (.inl (by omega))
    ·exact .inl (by omega)
    ·exact .inr (.inr h)
   ·rintro (h | h | h)
    ·exact .inr (.inl (by omega))
    ·exact .inl (by omega)
    ·exact .inr (.inr h)
  simp only [e8]
theorem centQ_rev {a b : Ed} (h : a.ok = true) (hk : ¬ a.k = 1) : centQ (revE a) b = centQ a b := by
 unfold centQ
 simp only [rev_rad h hk, inQ_rev h hk]
 rfl
theorem centQ_comm (a b : Ed) : centQ b a = centQ a b := by
 unfold centQ
 simp only
 have e1 : a.cx - b.cx = -(b.cx - a.cx) := by omega
 have e2 : a.cy - b.cy = -(b.cy - a.cy) := by omega
 have e3 : sqI (-(b.cx - a.cx)) (-(b.cy - a.cy)) = sqI (b.cx - a.cx) (b.cy - a.cy) := by unfold sqI; rw [Int.neg_mul_neg, Int.neg_mul_neg]
 have e4 : (radZ b + radZ a) * (radZ b + radZ a) = (radZ a + radZ b) * (radZ a + radZ b) := by grind
 have e5 : (radZ b - radZ a) * (radZ b - radZ a) = (radZ a - radZ b) * (radZ a - radZ b) := by grind
 have e6 : -radZ b - radZ a = -radZ a - radZ b := by omega
 rw [e1, e2, e3, e4, e5, e6, Int.neg_neg, Int.neg_neg]
 have hn := sqI_nn (b.cx - a.cx) (b.cy - a.cy)
 generalize sqI (b.cx - a.cx) (b.cy - a.cy) = n at *
 rw [Bool.and_comm (inQ b (-(b.cx - a.cx)) (-(b.cy - a.cy))) (inQ a (b.cx - a.cx) (b.cy - a.cy)), Bool.and_comm (inQ b (-(b.cx - a.cx)) (-(b.cy - a.cy))) (inQ a (-(b.cx - a.cx)) (-(b.cy - a.cy))), Bool.and_comm (inQ b (b.cx - a.cx) (b.cy - a.cy)) (inQ a (b.cx - a.cx) (b.cy - a.cy))]
 by_cases h1 : (radZ a + radZ b) * (radZ a + radZ b) < n
 ·rw [if_pos h1, if_pos h1]
 by_cases h2 : (radZ a - radZ b) * (radZ a - radZ b) <= n
 ·rw [if_neg h1, if_neg h1, if_pos h2, if_pos h2]
 have h3 : ¬ radZ a = radZ b := fun h => by rw [h] at h2; simp at h2; omega
 by_cases h4 : radZ a < radZ b
 ·rw [if_neg h1, if_neg h1, if_neg h2, if_neg h2, if_pos h4, if_neg (show ¬ radZ b < radZ a by omega)]
 ·rw [if_neg h1, if_neg h1, if_neg h2, if_neg h2, if_neg h4, if_pos (show radZ b < radZ a by omega)]
theorem innerQ_comm (a b : Ed) : innerQ b a = innerQ a b := by
 unfold innerQ
 by_cases h1 : a.k = 1 <;> by_cases h2 : b.k = 1
 ·simp only [if_pos h1, if_pos h2]
 ·simp only [if_pos h1, if_neg h2]
 ·simp only [if_neg h1, if_pos h2]
 ·simp only [if_neg h1, if_neg h2]; exact centQ_comm a b
theorem innerQ_rev {a : Ed} (b : Ed) (h : a.ok = true) : innerQ (revE a) b = innerQ a b := by
 unfold innerQ
 by_cases hk : a.k = 1
 ·simp only [if_pos hk, if_pos ((rev_k1 h).2 hk), footQ_revL]
 ·simp only [if_neg hk, if_neg (fun g => hk ((rev_k1 h).1 g)), footQ_revA h hk, centQ_rev h hk]
theorem mem4 {a b c d : Q4} {l : List Q4} {z : Q4} : z ∈ [a, b, c, d] ++ l ↔ (z = a \/ z = b \/ z = c \/ z = d) \/ z ∈ l := by simp [or_assoc]
theorem candQ_comm (a b : Ed) (z : Q4) : z ∈ candQ a b ↔ z ∈ candQ b a := by
 unfold candQ
 rw [mem4, mem4, innerQ_comm]
 constructor <;> rintro ((h | h | h | h) | h) <;> simp [h]
theorem candQ_rev {a : Ed} (b : Ed) (h : a.ok = true) (z : Q4) : z ∈ candQ a b ↔ z ∈ candQ (revE a) b := by
 unfold candQ
 rw [mem4, mem4, innerQ_rev b h, pointQ_rev h, pointQ_rev h]
 show _ ↔ (z = pointQ b a.bx a.by' \/ z = pointQ b a.ax a.ay \/ _) \/ _
 constructor <;> rintro ((h | h | h | h) | h) <;> simp [h]
variable {a b c d x y : Int} {e e' f f' : Ed}
theorem sq_iso (h : IsoOk a b c d) (u v : Int) : sqI (a * u + b * v) (c * u + d * v) = sqI u v := dot_iso h u v u v
theorem zero_iso (h : IsoOk a b c d) (u v : Int) : (a * u + b * v == 0 && c * u + d * v == 0) = (u == 0 && v == 0) := by
 rw [Bool.eq_iff_iff]
 simp only [Bool.and_eq_true, beq_iff_eq]
 have := eq_iso h u v 0 0
 simp only [Int.mul_zero, Int.add_zero] at this
 exact this
theorem Mvd.inQ (h : Mvd a b c d x y e e') (hk : ¬ e.k = 1) (u v : Int) : inQ e' (a * u + b * v) (c * u + d * v) = inQ e u v := by
 rw [inQ_dot h.ok hk, inQ_dot h.ok' (fun g => hk (h.k.1 g)), zero_iso h.iso]
 unfold dotA dotB
 rw [h.ax, h.ay, h.bx, h.by', h.cx hk, h.cy hk, sub_iso, sub_iso, sub_iso, sub_iso, dot_iso h.iso, dot_iso h.iso]
theorem endQ_iso (h : IsoOk a b c d) (p q r s : Int) : endQ (a * p + b * q + x) (c * p + d * q + y) (a * r + b * s + x) (c * r + d * s + y) = endQ p q r s := by
 unfold endQ
 rw [sub_iso, sub_iso, sq_iso h]
theorem crs_sq (h : IsoOk a b c d) (p q r s : Int) : ((a * p + b * q) * (c * r + d * s) - (c * p + d * q) * (a * r + b * s)) * ((a * p + b * q) * (c * r + d * s) - (c * p + d * q) * (a * r + b * s)) = (p * s - q * r) * (p * s - q * r) := by
 rw [crs_iso]
 rcases det_iso h with g | g <;> rw [g]
 ·rw [Int.one_mul]
 ·rw [Int.neg_one_mul, Int.neg_mul_neg]
theorem Mvd.lineQ (h : Mvd a b c d x y e e') (p q : Int) : lineQ e' (a * p + b * q + x) (c * p + d * q + y) = lineQ e p q := by
 unfold Go.Proofs.YtighahcllmoajaaGreat.lineQ
 simp only [h.ax, h.ay, h.bx, h.by', sub_iso, dot_iso h.iso, sq_iso h.iso, endQ_iso h.iso, crs_sq h.iso]
theorem Mvd.pointQ (h : Mvd a b c d x y e e') (p q : Int) : pointQ e' (a * p + b * q + x) (c * p + d * q + y) = pointQ e p q := by
 unfold Go.Proofs.YtighahcllmoajaaGreat.pointQ
 by_cases hk : e.k = 1
 ·rw [if_pos hk, if_pos (h.k.2 hk), h.lineQ]
 ·rw [if_neg hk, if_neg (fun g => hk (h.k.1 g))]
  unfold arcQ
  simp only [h.ax, h.ay, h.bx, h.by', h.cx hk, h.cy hk, sub_iso, h.inQ hk, h.rad hk, sq_iso h.iso, endQ_iso h.iso]
theorem Mvd.footQ (h : Mvd a b c d x y e e') (g : Mvd a b c d x y f f') (hk : ¬ f.k = 1) : footQ e' f' = footQ e f := by
 rw [footQ_eq, footQ_eq]
 have e1 : tI e' f'.cx f'.cy = tI e f.cx f.cy := by unfold tI; simp only [h.ax, h.ay, h.bx, h.by', g.cx hk, g.cy hk, sub_iso, dot_iso h.iso]
 have e2 : cI e' f'.cx f'.cy = (a * d - b * c) * cI e f.cx f.cy := by unfold cI; simp only [h.ax, h.ay, h.bx, h.by', g.cx hk, g.cy hk, sub_iso]; exact crs_iso ..
 have e3 : qI e' = qI e := by unfold qI; simp only [h.ax, h.ay, h.bx, h.by', sub_iso, sq_iso h.iso]
 have e4 : e'.by' - e'.ay = c * (e.bx - e.ax) + d * (e.by' - e.ay) := by rw [h.ay, h.by', sub_iso]
 have e5 : e'.bx - e'.ax = a * (e.bx - e.ax) + b * (e.by' - e.ay) := by rw [h.ax, h.bx, sub_iso]
 have hq : 0 <= qI e := sqI_nn _ _
 have e6 : (a * d - b * c) * cI e f.cx f.cy * ((a * d - b * c) * cI e f.cx f.cy) = cI e f.cx f.cy * cI e f.cx f.cy := by
  rcases det_iso h.iso with g | g <;> rw [g]
  ·rw [Int.one_mul]
  ·rw [Int.neg_one_mul, Int.neg_mul_neg]
 rw [e1, e2, e3, e4, e5, e6, g.rad hk]
 by_cases h0 : cI e f.cx f.cy = 0
 ·have h1 : cI e f.cx f.cy * cI e f.cx f.cy <= radZ f * radZ f * qI e := by
   rw [h0, Int.zero_mul]; exact Int.mul_nonneg (sqz_nn _) hq
  rw [if_pos (.inr (.inr (.inl h1))), if_pos (.inr (.inr (.inl h1)))]
 ·generalize e.bx - e.ax = u
  generalize e.by' - e.ay = v
  have key : ∃ n m : Int, (n = if 0 < cI e f.cx f.cy then v else -v) /\ (m = if 0 < cI e f.cx f.cy then -u else u) /\ (if 0 < (a * d - b * c) * cI e f.cx f.cy then c * u + d * v else -(c * u + d * v)) = a * n + b * m /\ (if 0 < (a * d - b * c) * cI e f.cx f.cy then -(a * u + b * v) else a * u + b * v) = c * n + d * m := by
   refine ⟨_, _, rfl, rfl, ?_⟩
   generalize cI e f.cx f.cy = C at *
   rcases h.iso with ⟨rfl, rfl, rfl | rfl, rfl | rfl⟩ | ⟨rfl, rfl, rfl | rfl, rfl | rfl⟩ <;> by_cases hC : 0 < C <;> simp [hC, h0] <;> (try (constructor)) <;> (try split) <;> omega
  obtain ⟨n, m, hn, hm, k1, k2⟩ := key
  rw [k1, k2, g.inQ hk, <- hn, <- hm]
theorem Mvd.centQ (h : Mvd a b c d x y e e') (g : Mvd a b c d x y f f') (hk : ¬ e.k = 1) (gk : ¬ f.k = 1) : centQ e' f' = centQ e f := by
 have n1 : ∀ u v : Int, -(a * u + b * v) = a * -u + b * -v := fun u v => by grind
 have n2 : ∀ u v : Int, -(c * u + d * v) = c * -u + d * -v := fun u v => by grind
 unfold Go.Proofs.YtighahcllmoajaaGreat.centQ
 simp only [h.cx hk, h.cy hk, g.cx gk, g.cy gk, sub_iso, n1, n2, h.inQ hk, g.inQ gk, h.rad hk, g.rad gk, sq_iso h.iso]
theorem Mvd.candQ (h : Mvd a b c d x y e e') (g : Mvd a b c d x y f f') : candQ e' f' = candQ e f := by
 have hi : innerQ e' f' = innerQ e f := by
  unfold innerQ
  by_cases k1 : e.k = 1
  ·by_cases k2 : f.k = 1
   ·simp only [if_pos k1, if_pos k2, if_pos (h.k.2 k1), if_pos (g.k.2 k2)]
   ·simp only [if_pos k1, if_neg k2, if_pos (h.k.2 k1), if_neg (fun t => k2 (g.k.1 t)), h.footQ g k2]
  ·by_cases k2 : f.k = 1
   ·simp only [if_neg k1, if_pos k2, if_neg (fun t => k1 (h.k.1 t)), if_pos (g.k.2 k2), g.footQ h k1]
   ·simp only [if_neg k1, if_neg k2, if_neg (fun t => k1 (h.k.1 t)), if_neg (fun t => k2 (g.k.1 t)), h.centQ g k1 k2]
 unfold Go.Proofs.YtighahcllmoajaaGreat.candQ
 rw [hi, h.ax, h.ay, h.bx, h.by', g.ax, g.ay, g.bx, g.by', g.pointQ, g.pointQ, h.pointQ, h.pointQ]
end Go.Proofs.YtighahcllmoajaaGreat

set_option maxHeartbeats 2000000
set_option maxRecDepth 100000
namespace Go.Proofs.YtighahcllmoajaaGreat
open Go.RowKit
attribute [local go_sem] Gives givesU
theorem vec_turns8 (ax ay t : Int) (m : Bool) (w : World) (h : -8 <= t /\ t <= 8) :
  Calls Tryz.prog 124 #[.agg #[.int .i64 ax, .int .i64 ay, .int .i64 t, .bool m]] w fun e w' => e = .returned (.int .i64 (modZ t 4)) /\ Ext w w' := by
 obtain rfl | rfl | rfl | rfl | rfl | rfl | rfl | rfl | rfl | rfl | rfl | rfl | rfl | rfl | rfl | rfl | rfl : t = -8 \/ t = -7 \/ t = -6 \/ t = -5 \/ t = -4 \/ t = -3 \/ t = -2 \/ t = -1 \/ t = 0 \/ t = 1 \/ t = 2 \/ t = 3 \/ t = 4 \/ t = 5 \/ t = 6 \/ t = 7 \/ t = 8 := by omega
 all_goals
  go_enter Tryz.func124, Tryz.ntmps124
  go_wp2
  go_ret
  exact ⟨rfl, bxx⟩
def cTurns8 : Con where
 f := 124
 g := fun | [⟨true, [.i _ _, .i _ _, .i n _, .v (.bool _)]⟩] => some (.one (inV (modZ n 4) 3), [-8 <= n /\ n <= 8]) | _ => none
 ok := by
  intro args res ps h hp
  split at h <;> cases h
  rename_i n _ _
  intro W vals hv
  simp only [rvs_cons, rvs_nil, rv_t, rl_i, rl_v, rl_nil] at hv
  obtain ⟨_, ⟨_, ⟨_, _, rfl, _, _, rfl, _, _, rfl, _, _, rfl, rfl⟩, rfl⟩, _, rfl, rfl⟩ := hv
  have hb := modZ_bd n (m := 4) (by omega)
  exact (vec_turns8 _ _ _ _ W hp.1).mono fun _ _ h => gv_in ⟨by omega, by unfold I64; omega⟩ h
def KV : List Con := [cTurns8]
theorem tn3' {n x y ax ay : Int} {m : Bool} (h : modZ n 4 = 3) : applyQ ax ay n m x y = (0 - (0 - y) + ax, 0 - (if m then 0 - x else x) + ay) := by
 rw [tn3 h]; congr 1; omega
theorem lt_b {a b : Int} (c : Bool) (h : decide (a < b) = c) : decide (a < b) = c := h
theorem vApply_ok (ax ay n x y : Int) (m : Bool) (hn : -8 <= n /\ n <= 8) : Fok Tryz.prog 78 [moV ax ay n m c40, ptV x y c40] (.one (ptL (applyQ ax ay n m x y))) := by
 have hb := modZ_bd n (m := 4) (by omega)
 have q : ∀ k b, decide (k < modZ n 4) = b -> decide (k < modZ n 4) = b := fun _ _ h => h
 by_cases h0 : modZ n 4 = 0
 ·have f0 : decide (0 < modZ n 4) = false := by rw [h0]; rfl
  rw [tn0 h0]
  cases m with
  | true => exact fok KV [true, false] [pT rfl, pP hn, pF f0] (by kernel_rfl)
  | false => exact fok KV [false, false] [pF rfl, pP hn, pF f0] (by kernel_rfl)
 have t0 : decide (0 < modZ n 4) = true := by simp; omega
 by_cases h1 : modZ n 4 = 1
 ·have f1 : decide (0 + 1 < modZ n 4) = false := by rw [h1]; rfl
  rw [tn1 h1]
  cases m with
  | true => exact fok KV [true, true, false] [pT rfl, pP hn, pT t0, pF f1] (by kernel_rfl)
  | false => exact fok KV [false, true, false] [pF rfl, pP hn, pT t0, pF f1] (by kernel_rfl)
 have t1 : decide (0 + 1 < modZ n 4) = true := by simp; omega
 by_cases h2 : modZ n 4 = 2
 ·have f2 : decide (0 + 1 + 1 < modZ n 4) = false := by rw [h2]; rfl
  rw [tn2 h2]
  cases m with
  | true => exact fok KV [true, true, true, false] [pT rfl, pP hn, pT t0, pT t1, pF f2] (by kernel_rfl)
  | false => exact fok KV [false, true, true, false] [pF rfl, pP hn, pT t0, pT t1, pF f2] (by kernel_rfl)
 have h3 : modZ n 4 = 3 := by omega
 have t2 : decide (0 + 1 + 1 < modZ n 4) = true := by rw [h3]; rfl
 have f3 : decide (0 + 1 + 1 + 1 < modZ n 4) = false := by rw [h3]; rfl
 rw [tn3' h3]
 cases m with
 | true => exact fok KV [true, true, true, true, false] [pT rfl, pP hn, pT t0, pT t1, pT t2, pF f3] (by kernel_rfl)
 | false => exact fok KV [false, true, true, true, false] [pF rfl, pP hn, pT t0, pT t1, pT t2, pF f3] (by kernel_rfl)
def cVApply : Con := appC 78 (fun n => [-8 <= n /\ n <= 8]) fun ax ay n x y m h => vApply_ok ax ay n x y m h.1
def KMv : List Con := [cOfE, cVApply]
theorem nz_F {k : Int} (h : k = 1) : (k != 1) = false := by rw [h]; rfl
theorem nz_T {k : Int} (h : ¬ k = 1) : (k != 1) = true := by simpa using h
theorem move_fok (e : Ed) (x y n : Int) (m : Bool) (he : e.ok = true) (hn : -8 <= n /\ n <= 8) : Fok Tryz.prog 33 [edV e 3 c26, moV x y n m c26] (.one (edV (moveE e x y (modZ n 4) m) lim lim)) := by
 have hf : (fam e.k).k = 1 ↔ e.k = 1 := by rcases kind_of he with k | k | k <;> rw [k] <;> decide
 unfold moveE
 cases m with
 | true =>
  by_cases hk : e.k = 1
  ·simp only [if_pos hk]
   exact fok KMv [true, false] [pT rfl, pF (nz_F (hf.2 hk)), pP hn, pP hn] (by kernel_rfl)
  ·simp only [if_neg hk]
   exact fok KMv [true, true] [pT rfl, pT (nz_T fun h => hk (hf.1 h)), pP hn, pP hn, pP hn] (by kernel_rfl)
 | false =>
  by_cases hk : e.k = 1
  ·simp only [if_pos hk]
   exact fok KMv [false, false] [pF rfl, pF (nz_F hk), pP hn, pP hn] (by kernel_rfl)
  ·simp only [if_neg hk]
   exact fok KMv [false, true] [pF rfl, pT (nz_T hk), pP hn, pP hn, pP hn] (by kernel_rfl)
theorem mo_up {V W : World} {r : Nat -> Nat} {k : Nat} {x y n : Int} {m : Bool} {A B C D : Nat} (h1 : A <= D) (h2 : B <= D) (h3 : C <= D) : ∀ v, RepV V W r k ⟨true, [.i x A, .i y B, .i n C, .v (.bool m)]⟩ v -> RepV V W r k (moV x y n m D) v := by
 intro v hv
 simp only [rv_t, rl_i, rl_v, rl_nil] at hv
 obtain ⟨_, ⟨⟨a1, i1⟩, _, rfl, ⟨a2, i2⟩, _, rfl, ⟨a3, i3⟩, _, rfl, _, _, rfl, rfl⟩, rfl⟩ := hv
 exact rv_t.2 ⟨_, rl_i.2 ⟨⟨Nat.le_trans a1 h1, i1⟩, _, rfl, rl_i.2 ⟨⟨Nat.le_trans a2 h2, i2⟩, _, rfl, rl_i.2 ⟨⟨Nat.le_trans a3 h3, i3⟩, _, rfl, rl_v.2 ⟨rfl, _, rfl, rfl⟩⟩⟩⟩, rfl⟩
def cMove : Con where
 f := 33
 g := fun | [⟨true, l⟩, ⟨true, [.i x A, .i y B, .i n C, .v (.bool m)]⟩] => if A <= c26 /\ B <= c26 /\ C <= c26 then (toEd l).map fun e => (.one (edV (moveE e x y (modZ n 4) m) lim lim), [e.ok = true /\ -8 <= n /\ n <= 8]) else none | _ => none
 ok := by
  intro args res ps h hp
  split at h <;> try cases h
  rename_i l x A y B n C m
  split at h <;> try cases h
  rename_i hb
  cases he : toEd l with
  | none => simp [he] at h
  | some e =>
   simp only [he, Option.map_some, Option.some.injEq, Prod.mk.injEq] at h
   obtain ⟨rfl, rfl⟩ := h
   exact (move_fok e x y n m hp.1.1 hp.1.2).pre fun W => rvs_1 (ed_ok he hp.1.1) (rvs_1 (mo_up hb.1 hb.2.1 hb.2.2) rvs_0)
end Go.Proofs.YtighahcllmoajaaGreat

set_option maxRecDepth 1000000
namespace Go.Proofs.YtighahcllmoajaaGreat
open Go.RowKit
def dMadeB : Con where
 f := 10
 g := fun | [⟨false, [.ds L]⟩] => some (.one (edV (mad6 L) 3 c26), []) | _ => none
 ok := by
  intro args res ps h hp
  split at h <;> cases h
  rename_i L
  exact (dMade.ok [⟨false, [.ds L]⟩] _ _ rfl trivial).mono fun W x h => ed_ok rfl (mad6_ok L) x h
def KSm : List Con := [cSan, dMadeB, cMeet, cEdges, cPoint, cRight, cCmp, cRev, cMove, dApply]
theorem Fok.bS {f : FuncId} {args : List V1} {a b : Bool} (h : a = b) (H : Fok Tryz.prog f args (.one (blV a))) : Fok Tryz.prog f args (.one (blV b)) := h ▸ H
theorem right_S {r : Rt} {x : Q4} (e : r = x.rt) (h : x.ok) : r.right = true := by rw [e]; exact h.root.2.2
def Sml (e : Ed) : Prop := (-1048576 <= e.ax /\ e.ax <= 1048576) /\ (-1048576 <= e.ay /\ e.ay <= 1048576) /\ (-1048576 <= e.bx /\ e.bx <= 1048576) /\ (-1048576 <= e.by' /\ e.by' <= 1048576) /\ (-1048576 <= e.cx /\ e.cx <= 1048576) /\ (-1048576 <= e.cy /\ e.cy <= 1048576)
theorem rot_sm (t : Nat) {r B : Int} (hr : -B <= r /\ r <= B) (hB : 0 <= B) : (-B <= (rot t (r, 0)).1 /\ (rot t (r, 0)).1 <= B) /\ (-B <= (rot t (r, 0)).2 /\ (rot t (r, 0)).2 <= B) := by
 have H : ∀ (t : Nat) (p : Int × Int), ((-B <= p.1 /\ p.1 <= B) /\ (-B <= p.2 /\ p.2 <= B)) -> ((-B <= (rot t p).1 /\ (rot t p).1 <= B) /\ (-B <= (rot t p).2 /\ (rot t p).2 <= B)) := by
  intro t p hp
  induction t with
  | zero => exact hp
  | succ t ih => simp only [rot]; omega
 exact H t (r, 0) ⟨hr, by constructor <;> simp only <;> omega⟩
theorem arc_sm {cx cy r t k : Int} (hx : -1000 <= cx /\ cx <= 1000) (hy : -1000 <= cy /\ cy <= 1000) (hr : -1000 <= r /\ r <= 1000) : Sml (arc6 cx cy r t k) := by
 have A : ∀ t, (-1000 <= (applyQ 0 0 t false r 0).1 /\ (applyQ 0 0 t false r 0).1 <= 1000) /\ (-1000 <= (applyQ 0 0 t false r 0).2 /\ (applyQ 0 0 t false r 0).2 <= 1000) := fun t => by
  rw [aq_rot]; exact rot_sm _ hr (by decide)
 have a1 := A t
 have a2 := A (t + if k = 3 then 3 else 1)
 unfold Sml arc6
 simp only
 omega
theorem mad6_sm (L : List Int) : Sml (mad6 L) := by
 have b1 := nV_bd L 1 (m := 201) (by omega)
 have b2 := nV_bd L 2 (m := 201) (by omega)
 have b3 := nV_bd L 3 (m := 201) (by omega)
 have b4 := nV_bd L 4 (m := 201) (by omega)
 have c3 := nV_bd L 3 (m := 41) (by omega)
 unfold mad6
 simp only
 split
 ·unfold Sml; simp only; omega
 split
 ·unfold Sml; simp only; omega
 split
 ·unfold Sml; simp only; omega
 split
 ·have d5 := nV_bd L 5 (m := 90) (by omega)
  exact arc_sm (by omega) (by omega) (by omega)
 ·have d3 := nV_bd L 3 (m := 5) (by omega)
  refine arc_sm (by omega) (by omega) ?_
  obtain ⟨n, hn⟩ : ∃ n : Nat, nV L 3 5 = n := ⟨(nV L 3 5).toNat, by omega⟩
  rw [hn] at d3 ⊢
  obtain rfl | rfl | rfl | rfl | rfl : n = 0 \/ n = 1 \/ n = 2 \/ n = 3 \/ n = 4 := by omega
  all_goals decide
theorem edges_noS {a b : Ed} (h : ¬ countE a b = 0) : (edgesR a b).d = Rt.no := by
 unfold edgesR
 rw [if_pos]
 simp [h]
theorem cmp_0 {r s : Rt} {x y : Q4} (e : r = x.rt) (f : s = y.rt) (hx : x.ok) (hy : y.ok) (h : cmpQ x y = 0) : (cmpRt r s == 0) = true := by
 rw [e, f, cmpQ_rt hx hy, h]; rfl
theorem nearSame_ok (L M : List Int) (a b c d : Int) : Fok Tryz.prog 8 [⟨false, [.ds L]⟩, ⟨false, [.ds M]⟩, ⟨true, [.i a lim, .i b lim, .i c lim, .i d lim]⟩] (.one (blV true)) := by
 have p500 : (500 : Int) ≠ 0 := by decide
 have p9 : (9 : Int) ≠ 0 := by decide
 have p2 : (2 : Int) ≠ 0 := by decide
 have oa := mad6_ok L
 have ob := mad6_ok M
 have cb := ok_right ob
 have T1 := tmod_bd a (m := 500) (by decide)
 have T2 := tmod_bd b (m := 500) (by decide)
 have T3 := tmod_bd c (m := 9) (by decide)
 have hx : -1048576 <= a.tmod 500 /\ a.tmod 500 <= 1048576 := by omega
 have hy : -1048576 <= b.tmod 500 /\ b.tmod 500 <= 1048576 := by omega
 have hn : -8 <= c.tmod 9 /\ c.tmod 9 <= 8 := by omega
 obtain ⟨sa1, sa2, sa3, sa4, sa5, sa6⟩ := mad6_sm L
 obtain ⟨sb1, sb2, sb3, sb4, sb5, sb6⟩ := mad6_sm M
 have ht : 0 <= modZ (c.tmod 9) 4 /\ modZ (c.tmod 9) 4 <= 3 := by have := modZ_bd (c.tmod 9) (m := 4) (by decide); omega
 have od := move_ok oa (a.tmod 500) (b.tmod 500) (modZ (c.tmod 9) 4) (d.tmod 2 != 0) ht hx hy sa1 sa2 sa3 sa4 sa5 sa6
 have oe := move_ok ob (a.tmod 500) (b.tmod 500) (modZ (c.tmod 9) 4) (d.tmod 2 != 0) ht hx hy sb1 sb2 sb3 sb4 sb5 sb6
 obtain ⟨i, j, k, l, HM⟩ := moved (a.tmod 500) (b.tmod 500) (modZ (c.tmod 9) 4) (d.tmod 2 != 0) ht
 have m1 := HM _ oa od
 have m2 := HM _ ob oe
 have oc := rev_ok oa
 have C1 := countE_comm (mad6 L) (mad6 M)
 have C2 := countE_rev (mad6 M) oa
 have C3 := m1.count m2
 cases hc : (!(countE (mad6 L) (mad6 M) == 0)) with
 | true =>
  have n0 : ¬ countE (mad6 L) (mad6 M) = 0 := by simpa using hc
  have N : ∀ {a b : Ed}, countE a b = countE (mad6 L) (mad6 M) -> (!(edgesR a b).d.right) = true := fun h => by rw [edges_noS (by rw [h]; exact n0)]; rfl
  exact Fok.bS (N C3) (fok KSm [true, true, true, true] [pP p500, pP p500, pP p9, pP p2, pP oa, pP (And.intro oa hn), pP (And.intro ob hn), pT hc, pT (N rfl), pT (N C1), pT (N C2)] (by kernel_rfl))
 | false =>
  have c0 : countE (mad6 L) (mad6 M) = 0 := by simpa using hc
  have E1 := edgesR_Q oa ob c0
  have E2 := edgesR_Q ob oa (C1.trans c0)
  have E3 := edgesR_Q oc ob (C2.trans c0)
  have E4 := edgesR_Q od oe (C3.trans c0)
  have K1 := leastQ_le (candQ_ne _ _) (candQ_ok oa ob)
  have k1 := K1.1
  have k2 := leastQ_le' (candQ_ne _ _) (candQ_ok ob oa)
  have k3 := leastQ_le' (candQ_ne _ _) (candQ_ok oc ob)
  have k4 := leastQ_le' (candQ_ne _ _) (candQ_ok od oe)
  have pm := (coordB_iff.2 cb.1)
  obtain ⟨z, hz⟩ : ∃ z, applyP (a.tmod 500) (b.tmod 500) (modZ (c.tmod 9) 4) (d.tmod 2 != 0) (mad6 M).ax (mad6 M).ay = z := ⟨_, rfl⟩
  have ce := (ok_right oe).1
  have P1 := pointR_Q oa pm
  have P2 := pointR_Q od (coordB_iff.2 ce)
  have j1 := pointQ_ok oa cb.1.1 cb.1.2
  have j2 := pointQ_ok od ce.1 ce.2
  have S2 : cmpQ (leastQ (candQ (mad6 L) (mad6 M))) (leastQ (candQ (mad6 M) (mad6 L))) = 0 := leastQ_perm (candQ_ne _ _) (candQ_ok oa ob) (candQ_comm _ _)
  have S3 : cmpQ (leastQ (candQ (mad6 L) (mad6 M))) (leastQ (candQ (revE (mad6 L)) (mad6 M))) = 0 := leastQ_perm (candQ_ne _ _) (candQ_ok oa ob) (candQ_rev _ oa)
  have S4 : cmpQ (leastQ (candQ (mad6 L) (mad6 M))) (leastQ (candQ (moveE (mad6 L) (a.tmod 500) (b.tmod 500) (modZ (c.tmod 9) 4) (d.tmod 2 != 0)) (moveE (mad6 M) (a.tmod 500) (b.tmod 500) (modZ (c.tmod 9) 4) (d.tmod 2 != 0)))) = 0 := by
   rw [m1.candQ m2]; exact cmpQ_self k1
  have S5 : cmpQ (pointQ (mad6 L) (mad6 M).ax (mad6 M).ay) (pointQ (moveE (mad6 L) (a.tmod 500) (b.tmod 500) (modZ (c.tmod 9) 4) (d.tmod 2 != 0)) (moveE (mad6 M) (a.tmod 500) (b.tmod 500) (modZ (c.tmod 9) 4) (d.tmod 2 != 0)).ax (moveE (mad6 M) (a.tmod 500) (b.tmod 500) (modZ (c.tmod 9) 4) (d.tmod 2 != 0)).ay) = 0 := by
   rw [m2.ax, m2.ay, m1.pointQ]; exact cmpQ_self j1
  have S6 : cmpQ (leastQ (candQ (mad6 L) (mad6 M))) (pointQ (mad6 L) (mad6 M).ax (mad6 M).ay) <= 0 := K1.2 _ (mem4.2 (.inl (.inr (.inr (.inl rfl)))))
  have R : ∀ {r : Rt} {x : Q4}, r = x.rt -> x.ok -> (!r.right) = false := fun e h => by rw [right_S e h]; rfl
  have q6 : decide (cmpRt (edgesR (mad6 L) (mad6 M)).d (pointR (mad6 L) (mad6 M).ax (mad6 M).ay).1 <= 0) = true := by
   rw [E1, P1, cmpQ_rt k1 j1]; exact decide_eq_true S6
  exact Fok.bS q6 (fok KSm [false, false, false, false, false, true, true, true, true, true, true] [pP p500, pP p500, pP p9, pP p2, pP oa, pP (And.intro oa hn), pP (And.intro ob hn), pF hc, pF (R E1 k1), pF (R E2 k2), pF (R E3 k3), pF (R E4 k4), pP (And.intro oa hn), pT (cmp_0 E1 E2 k1 k2 S2), pT (cmp_0 E1 E3 k1 k3 S3), pT (cmp_0 E1 E4 k1 k4 S4), pT (right_S P1 j1), pT (right_S P2 j2), pT (cmp_0 P1 P2 j1 j2 S5)] (by kernel_rfl))
end Go.Proofs.YtighahcllmoajaaGreat
