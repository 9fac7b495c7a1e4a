/- Plain: what the sign of a + b √c says of numbers with roots; what comparing roots says. | Plain: comparing right roots is an order. | Plain: roots of ints, compared with ints. -/
import Derived.Test.YtghgggaimijcaaaDoorJ21
import Derived.Test.YtghgggaimijcaaaDoorJ09
import Derived.Test.YtghgggaimijcaaaDoorJ14
set_option linter.unusedVariables false
set_option linter.unusedSimpArgs false

namespace Go.Proofs.YtghgggaimijcaaaDoor
open Go.RowKit

theorem ps_eq {x y : Re} (h : ps x) (e : ∀ k, x.f k = y.f k) : ps y := by
  obtain ⟨d, N, hd, h⟩ := h
  exact ⟨d, N, hd, fun k hk => by rw [← e]; exact h k hk⟩
theorem int_nn {z : Int} (h : 0 ≤ z) : nn (Re.int z) := nn_of fun _ => Rat.intCast_nonneg.2 h
theorem int_ps {z : Int} (h : 0 < z) : ps (Re.int z) := ⟨1, 0, by decide, fun _ _ => by
  have : (1 : Int) ≤ z := h
  exact Rat.intCast_le_intCast.2 this⟩
theorem nn_not {x : Re} (h : ¬ ps x) : nn x.neg := by
  rcases Classical.em (nn x.neg) with g | g
  · exact g
  · exact absurd (ps_of g) h
theorem ps_not2 {x : Re} (h : ps x.neg) : ¬ nn x := fun g => ps_not h (nn_eq g fun k => by show x.f k = - -x.f k; grind)
/-- Squares in order: so are the numbers. -/
theorem sq_ps {x y : Re} (hx : nn x) (hy : nn y) (h : ps ((x.mul x).add (y.mul y).neg)) : ps (x.add y.neg) := by
  apply Classical.byContradiction
  intro g
  have g1 := nn_mul (nn_not g) (nn_add hx hy)
  refine ps_not h (nn_eq g1 fun k => ?_)
  show -(x.f k + -y.f k) * (x.f k + y.f k) = -(x.f k * x.f k + -(y.f k * y.f k))
  grind
theorem sq_nn' {x y : Re} (hx : nn x) (hy : nn y) (h : nn ((x.mul x).add (y.mul y).neg)) : nn (x.add y.neg) := by
  rcases nn_or (x.add y.neg) with g | g
  · exact g
  · by_cases hp : ps (x.add y.neg).neg
    · exfalso
      have h1 : ps (x.add y) ∨ ¬ ps (x.add y) := Classical.em _
      have h2 : ps (y.add x) := by
        have : ps (((x.add y.neg).neg).add (x.add x)) := ps_add hp (nn_add hx hx)
        exact ps_eq this fun k => by show -(x.f k + -y.f k) + (x.f k + x.f k) = y.f k + x.f k; grind
      have h3 := ps_mul hp h2
      exact ps_not h3 (nn_eq h fun k => by show x.f k * x.f k + -(y.f k * y.f k) = -(-(x.f k + -y.f k) * (y.f k + x.f k)); grind)
    · exact nn_eq (nn_not hp) fun k => by show - -(x.f k + -y.f k) = x.f k + -y.f k; grind
/-- a + b √c. -/
def lin (a b : Int) (c : Nat) : Re := (Re.int a).add ((Re.int b).mul (Re.rt c))
theorem rtf_zero (k : Nat) : rtf 0 k = 0 := by
  unfold rtf
  rw [Nat.zero_mul]
  have : ((isq 0 : Nat) : Rat) = 0 := rfl
  rw [this, Rat.div_def, Rat.zero_mul]
theorem rt_ps {c : Nat} (h : 0 < c) : ps (Re.rt c) := by
  have h1 : ps ((((Re.rt c).mul (Re.rt c))).add ((Re.int 0).mul (Re.int 0)).neg) := by
    have := ps_add (int_ps (show (0 : Int) < (c : Int) by omega)) (rt_dn c)
    refine ps_eq this fun k => ?_
    show ((c : Int) : Rat) + (rtf c k * rtf c k + -((c : Int) : Rat)) = rtf c k * rtf c k + -(((0 : Int) : Rat) * ((0 : Int) : Rat))
    have : ((0 : Int) : Rat) = 0 := rfl
    rw [this]
    grind
  have h2 := sq_ps (rt_nn c) (int_nn (Int.le_refl 0)) h1
  refine ps_eq h2 fun k => ?_
  show rtf c k + -((0 : Int) : Rat) = rtf c k
  have : ((0 : Int) : Rat) = 0 := rfl
  rw [this]
  grind
theorem sgn_cases (z : Int) : (sgn z = 1 ∧ 0 < z) ∨ (sgn z = 0 ∧ z = 0) ∨ (sgn z = -1 ∧ z < 0) := by
  unfold sgn cmpZ
  rcases Int.lt_trichotomy z 0 with h | h | h
  · right; right; rw [if_pos h]; exact ⟨rfl, h⟩
  · right; left; rw [if_neg (by omega), if_pos h]; exact ⟨rfl, h⟩
  · left; rw [if_neg (by omega), if_neg (by omega)]; exact ⟨rfl, h⟩
theorem cmpZ_case (a b : Int) : (cmpZ a b = 1 ∧ b < a) ∨ (cmpZ a b = 0 ∧ a = b) ∨ (cmpZ a b = -1 ∧ a < b) := by
  unfold cmpZ
  rcases Int.lt_trichotomy a b with h | h | h
  · right; right; rw [if_pos h]; exact ⟨rfl, h⟩
  · right; left; rw [if_neg (by omega), if_pos h]; exact ⟨rfl, h⟩
  · left; rw [if_neg (by omega), if_neg (by omega)]; exact ⟨rfl, h⟩
theorem int_f (z : Int) (k : Nat) : (Re.int z).f k = (z : Rat) := rfl
theorem lin_f (a b : Int) (c k : Nat) : (lin a b c).f k = (a : Rat) + (b : Rat) * rtf c k := rfl
/-- A positive number is greater than a root that is less. -/
theorem lin_ps1 {a b : Int} {c : Nat} (ha : 0 < a) (hb : b < 0) (h : b * b * (c : Int) < a * a) : ps (lin a b c) := by
  have h1 : ps (((Re.int a).mul (Re.int a)).add (((Re.int (-b)).mul (Re.rt c)).mul ((Re.int (-b)).mul (Re.rt c))).neg) := by
    have := ps_add (int_ps (show 0 < a * a - b * b * (c : Int) by omega)) (nn_mul (nn_mul (int_nn (show 0 ≤ -b by omega)) (int_nn (show 0 ≤ -b by omega))) (rt_up c))
    refine ps_eq this fun k => ?_
    show ((a * a - b * b * (c : Int) : Int) : Rat) + ((-b : Int) : Rat) * ((-b : Int) : Rat) * (((c : Int) : Rat) + -(rtf c k * rtf c k)) = (a : Rat) * (a : Rat) + -(((-b : Int) : Rat) * rtf c k * (((-b : Int) : Rat) * rtf c k))
    rw [Rat.intCast_sub, Rat.intCast_mul, Rat.intCast_mul, Rat.intCast_mul, Rat.intCast_neg]
    grind
  have h2 := sq_ps (int_nn (Int.le_of_lt ha)) (nn_mul (int_nn (show 0 ≤ -b by omega)) (rt_nn c)) h1
  refine ps_eq h2 fun k => ?_
  show (a : Rat) + -(((-b : Int) : Rat) * rtf c k) = (a : Rat) + (b : Rat) * rtf c k
  rw [Rat.intCast_neg]
  grind
theorem lin_ps2 {a b : Int} {c : Nat} (ha : a < 0) (hb : 0 < b) (h : a * a < b * b * (c : Int)) : ps (lin a b c) := by
  have h1 : ps ((((Re.int b).mul (Re.rt c)).mul ((Re.int b).mul (Re.rt c))).add ((Re.int (-a)).mul (Re.int (-a))).neg) := by
    have := ps_add (int_ps (show 0 < b * b * (c : Int) - a * a by omega)) (nn_mul (nn_mul (int_nn (show 0 ≤ b by omega)) (int_nn (show 0 ≤ b by omega))) (rt_dn c))
    refine ps_eq this fun k => ?_
    show ((b * b * (c : Int) - a * a : Int) : Rat) + (b : Rat) * (b : Rat) * (rtf c k * rtf c k + -((c : Int) : Rat)) = (b : Rat) * rtf c k * ((b : Rat) * rtf c k) + -(((-a : Int) : Rat) * ((-a : Int) : Rat))
    rw [Rat.intCast_sub, Rat.intCast_mul, Rat.intCast_mul, Rat.intCast_mul, Rat.intCast_neg]
    grind
  have h2 := sq_ps (nn_mul (int_nn (show 0 ≤ b by omega)) (rt_nn c)) (int_nn (show 0 ≤ -a by omega)) h1
  refine ps_eq h2 fun k => ?_
  show (b : Rat) * rtf c k + -((-a : Int) : Rat) = (a : Rat) + (b : Rat) * rtf c k
  rw [Rat.intCast_neg]
  grind
theorem lin_z1 {a b : Int} {c : Nat} (ha : 0 < a) (hb : b < 0) (h : a * a = b * b * (c : Int)) : nn (lin a b c) ∧ nn (lin a b c).neg := by
  have e : ((a * a : Int) : Rat) = ((b * b * (c : Int) : Int) : Rat) := by rw [h]
  rw [Rat.intCast_mul, Rat.intCast_mul, Rat.intCast_mul] at e
  have n1 := int_nn (show 0 ≤ -b by omega)
  constructor
  · have h1 : nn (((Re.int a).mul (Re.int a)).add (((Re.int (-b)).mul (Re.rt c)).mul ((Re.int (-b)).mul (Re.rt c))).neg) := by
      refine nn_eq (nn_mul (nn_mul n1 n1) (rt_up c)) fun k => ?_
      show ((-b : Int) : Rat) * ((-b : Int) : Rat) * (((c : Int) : Rat) + -(rtf c k * rtf c k)) = (a : Rat) * (a : Rat) + -(((-b : Int) : Rat) * rtf c k * (((-b : Int) : Rat) * rtf c k))
      rw [Rat.intCast_neg]
      grind
    refine nn_eq (sq_nn' (int_nn (Int.le_of_lt ha)) (nn_mul n1 (rt_nn c)) h1) fun k => ?_
    show (a : Rat) + -(((-b : Int) : Rat) * rtf c k) = (a : Rat) + (b : Rat) * rtf c k
    rw [Rat.intCast_neg]
    grind
  · have h1 : nn ((((Re.int (-b)).mul (Re.rt c)).mul ((Re.int (-b)).mul (Re.rt c))).add ((Re.int a).mul (Re.int a)).neg) := by
      refine nn_eq (nn_mul (nn_mul n1 n1) (rt_dn c)) fun k => ?_
      show ((-b : Int) : Rat) * ((-b : Int) : Rat) * (rtf c k * rtf c k + -((c : Int) : Rat)) = ((-b : Int) : Rat) * rtf c k * (((-b : Int) : Rat) * rtf c k) + -((a : Rat) * (a : Rat))
      rw [Rat.intCast_neg]
      grind
    refine nn_eq (sq_nn' (nn_mul n1 (rt_nn c)) (int_nn (Int.le_of_lt ha)) h1) fun k => ?_
    show ((-b : Int) : Rat) * rtf c k + -(a : Rat) = -((a : Rat) + (b : Rat) * rtf c k)
    rw [Rat.intCast_neg]
    grind
theorem lin_neg (a b : Int) (c k : Nat) : (lin (-a) (-b) c).f k = (lin a b c).neg.f k := by
  show ((-a : Int) : Rat) + ((-b : Int) : Rat) * rtf c k = -((a : Rat) + (b : Rat) * rtf c k)
  rw [Rat.intCast_neg, Rat.intCast_neg]
  grind
theorem lin_pp {a b : Int} {c : Nat} (ha : 0 < a) (hb : 0 ≤ b ∨ c = 0) : ps (lin a b c) := by
  refine ps_add (int_ps ha) ?_
  rcases hb with hb | rfl
  · exact nn_mul (int_nn hb) (rt_nn c)
  · refine nn_of fun k => ?_
    show 0 ≤ (b : Rat) * rtf 0 k
    rw [rtf_zero, Rat.mul_zero]
    exact Rat.le_refl
theorem lin_pb {b : Int} {c : Nat} (hb : 0 < b) (hc : 0 < c) : ps (lin 0 b c) := by
  refine ps_eq (ps_mul (int_ps hb) (rt_ps hc)) fun k => ?_
  show (b : Rat) * rtf c k = ((0 : Int) : Rat) + (b : Rat) * rtf c k
  have : ((0 : Int) : Rat) = 0 := rfl
  rw [this]
  grind
/-- What sideZ says. -/
def Sg (s : Int) (x : Re) : Prop := (s = 1 ∧ ps x) ∨ (s = 0 ∧ nn x ∧ nn x.neg) ∨ (s = -1 ∧ ps x.neg)
theorem side_sg (a b : Int) (c : Nat) : Sg (sideZ a b (c : Int)) (lin a b c) := by
  have neg : ∀ {a b : Int}, ps (lin (-a) (-b) c) → ps (lin a b c).neg := fun h => ps_eq h (lin_neg _ _ c)
  have zz : ∀ {b : Int}, b = 0 ∨ c = 0 → nn (lin 0 b c) ∧ nn (lin 0 b c).neg := by
    intro b h
    have e : ∀ k, (lin 0 b c).f k = 0 := by
      intro k
      rw [lin_f]
      have : ((0 : Int) : Rat) = 0 := rfl
      rw [this]
      rcases h with rfl | rfl
      · rw [this]; grind
      · rw [rtf_zero]; grind
    exact ⟨nn_of fun k => by rw [e]; exact Rat.le_refl, nn_of fun k => by show 0 ≤ -(lin 0 b c).f k; rw [e]; decide⟩
  unfold sideZ
  rcases sgn_cases a with ⟨sa, ha⟩ | ⟨sa, ha⟩ | ⟨sa, ha⟩ <;> rcases sgn_cases b with ⟨sb, hb⟩ | ⟨sb, hb⟩ | ⟨sb, hb⟩ <;> rcases sgn_cases (c : Int) with ⟨sc, hc⟩ | ⟨sc, hc⟩ | ⟨sc, hc⟩ <;> rw [sa, sb, sc]
  all_goals first | omega | skip
  all_goals first | (rw [if_pos (by decide)]; first | exact .inl ⟨by decide, lin_pp ha (by omega)⟩ | (subst ha; first | exact .inl ⟨by decide, lin_pb hb (by omega)⟩ | exact .inr (.inl ⟨by decide, zz (by omega)⟩) | exact .inr (.inr ⟨by decide, neg (lin_pb (show 0 < -b by omega) (by omega))⟩)) | exact .inr (.inr ⟨by decide, neg (lin_pp (show 0 < -a by omega) (by omega))⟩)) | skip
  · rw [if_neg (by decide)]
    rcases cmpZ_case (a * a) (b * b * (c : Int)) with ⟨h1, h2⟩ | ⟨h1, h2⟩ | ⟨h1, h2⟩ <;> rw [h1]
    · exact .inl ⟨by decide, lin_ps1 ha hb h2⟩
    · exact .inr (.inl ⟨by decide, lin_z1 ha hb h2⟩)
    · exact .inr (.inr ⟨by decide, neg (lin_ps2 (show -a < 0 by omega) (show 0 < -b by omega) (by rw [Int.neg_mul_neg, Int.neg_mul_neg]; exact h2))⟩)
  · rw [if_neg (by decide)]
    rcases cmpZ_case (a * a) (b * b * (c : Int)) with ⟨h1, h2⟩ | ⟨h1, h2⟩ | ⟨h1, h2⟩ <;> rw [h1]
    · exact .inr (.inr ⟨by decide, neg (lin_ps1 (show 0 < -a by omega) (show -b < 0 by omega) (by rw [Int.neg_mul_neg, Int.neg_mul_neg]; exact h2))⟩)
    · have := lin_z1 (a := -a) (b := -b) (c := c) (by omega) (by omega) (by rw [Int.neg_mul_neg, Int.neg_mul_neg]; exact h2)
      refine .inr (.inl ⟨by decide, nn_eq this.2 fun k => ?_, nn_eq this.1 (lin_neg _ _ c)⟩)
      show -(lin (-a) (-b) c).f k = _
      rw [lin_neg]
      show - -(lin a b c).f k = _
      grind
    · exact .inl ⟨by decide, lin_ps2 ha hb h2⟩
/-- How two roots compare: A is the Add of the first one less that of the second one. -/
def cmpR (A s n d t m e : Int) : Int :=
  if sideZ (A * d) s (n * d) ≠ t then max (min (sideZ (A * d) s (n * d) - t) 1) (-1) else sideZ (A * d) s (n * d) * sideZ (A * A * d * e + n * e - m * d) (2 * A * s * e) (n * d)
/-- How much the first root is greater, times both denominators. -/
def dif (A s d t e : Int) (nd me : Nat) : Re := ((Re.int e).mul (lin (A * d) s nd)).add ((Re.int (d * t)).mul (Re.rt me)).neg
theorem dif_f (A s d t e : Int) (nd me k : Nat) : (dif A s d t e nd me).f k = (e : Rat) * ((A : Rat) * (d : Rat) + (s : Rat) * rtf nd k) + -((d : Rat) * (t : Rat) * rtf me k) := by
  show (e : Rat) * (((A * d : Int) : Rat) + (s : Rat) * rtf nd k) + -(((d * t : Int) : Rat) * rtf me k) = _
  rw [Rat.intCast_mul, Rat.intCast_mul]
/-- A root squared is its number, with its sign. -/
theorem eps {s : Int} {c : Nat} (hs : s = 1 ∨ s = -1 ∨ (s = 0 ∧ c = 0)) : ∃ x : Re, (∀ k, x.f k = (s : Rat) * (s : Rat) * (rtf c k * rtf c k) - (c : Rat)) ∧ nn x ∧ nn x.neg := by
  refine ⟨((Re.int (s * s)).mul ((Re.rt c).mul (Re.rt c))).add (Re.int (c : Int)).neg, fun k => ?_, ?_, ?_⟩
  · show ((s * s : Int) : Rat) * (rtf c k * rtf c k) + -((c : Int) : Rat) = _
    rw [Rat.intCast_mul, Rat.intCast_natCast]
    grind
  · rcases hs with rfl | rfl | ⟨rfl, rfl⟩
    · refine nn_eq (rt_dn c) fun k => ?_
      show rtf c k * rtf c k + -((c : Int) : Rat) = ((1 * 1 : Int) : Rat) * (rtf c k * rtf c k) + -((c : Int) : Rat)
      have : ((1 * 1 : Int) : Rat) = 1 := rfl
      rw [this]; grind
    · refine nn_eq (rt_dn c) fun k => ?_
      show rtf c k * rtf c k + -((c : Int) : Rat) = ((-1 * -1 : Int) : Rat) * (rtf c k * rtf c k) + -((c : Int) : Rat)
      have : ((-1 * -1 : Int) : Rat) = 1 := rfl
      rw [this]; grind
    · refine nn_of fun k => ?_
      show 0 ≤ ((0 * 0 : Int) : Rat) * (rtf 0 k * rtf 0 k) + -(((0 : Nat) : Int) : Rat)
      have : ((0 * 0 : Int) : Rat) = 0 := rfl
      have h2 : (((0 : Nat) : Int) : Rat) = 0 := rfl
      rw [this, h2]; grind
  · rcases hs with rfl | rfl | ⟨rfl, rfl⟩
    · refine nn_eq (rt_up c) fun k => ?_
      show ((c : Int) : Rat) + -(rtf c k * rtf c k) = -(((1 * 1 : Int) : Rat) * (rtf c k * rtf c k) + -((c : Int) : Rat))
      have : ((1 * 1 : Int) : Rat) = 1 := rfl
      rw [this]; grind
    · refine nn_eq (rt_up c) fun k => ?_
      show ((c : Int) : Rat) + -(rtf c k * rtf c k) = -(((-1 * -1 : Int) : Rat) * (rtf c k * rtf c k) + -((c : Int) : Rat))
      have : ((-1 * -1 : Int) : Rat) = 1 := rfl
      rw [this]; grind
    · refine nn_of fun k => ?_
      show 0 ≤ -(((0 * 0 : Int) : Rat) * (rtf 0 k * rtf 0 k) + -(((0 : Nat) : Int) : Rat))
      have : ((0 * 0 : Int) : Rat) = 0 := rfl
      have h2 : (((0 : Nat) : Int) : Rat) = 0 := rfl
      rw [this, h2]; grind
theorem nn_sub {x y : Re} (h : nn x) (g : nn y.neg) : nn (x.add y.neg) := nn_add h g
theorem neg2 {x : Re} (k : Nat) : x.neg.neg.f k = x.f k := by show - -x.f k = x.f k; grind
/-- Of two numbers of one sign, the one with the greater square is greater. -/
theorem cmp_sq {x y g a b : Re} {m p q t : Int} (hm : 0 < m) (hp : 0 ≤ p) (hq : 0 ≤ q) (hx : nn x) (hy : nn y) (hg : Sg t g) (ha : nn a ∧ nn a.neg) (hb : nn b ∧ nn b.neg)
    (e : ∀ k, x.f k * x.f k - y.f k * y.f k = (m : Rat) * g.f k + (p : Rat) * a.f k - (q : Rat) * b.f k) : Sg t (x.add y.neg) := by
  have na : ∀ {z : Re} {p : Int}, 0 ≤ p → nn z → nn ((Re.int p).mul z) := fun h g => nn_mul (int_nn h) g
  have k1 : ∀ k, (((Re.int m).mul g).add (((Re.int p).mul a).add ((Re.int q).mul b.neg))).f k = ((x.mul x).add (y.mul y).neg).f k := fun k => by
    have := e k
    show (m : Rat) * g.f k + ((p : Rat) * a.f k + (q : Rat) * -b.f k) = x.f k * x.f k + -(y.f k * y.f k)
    grind
  have k2 : ∀ k, (((Re.int m).mul g.neg).add (((Re.int p).mul a.neg).add ((Re.int q).mul b))).f k = ((y.mul y).add (x.mul x).neg).f k := fun k => by
    have := e k
    show (m : Rat) * -g.f k + ((p : Rat) * -a.f k + (q : Rat) * b.f k) = y.f k * y.f k + -(x.f k * x.f k)
    grind
  have sw : ∀ k, (y.add x.neg).f k = (x.add y.neg).neg.f k := fun k => by
    show y.f k + -x.f k = -(x.f k + -y.f k)
    grind
  have r1 := nn_add (na hp ha.1) (na hq hb.2)
  have r2 := nn_add (na hp ha.2) (na hq hb.1)
  rcases hg with ⟨rfl, h⟩ | ⟨rfl, h, h'⟩ | ⟨rfl, h⟩
  · exact .inl ⟨rfl, sq_ps hx hy (ps_eq (ps_add (ps_mul (int_ps hm) h) r1) k1)⟩
  · refine .inr (.inl ⟨rfl, sq_nn' hx hy (nn_eq (nn_add (na (Int.le_of_lt hm) h) r1) k1), ?_⟩)
    exact nn_eq (sq_nn' hy hx (nn_eq (nn_add (na (Int.le_of_lt hm) h') r2) k2)) sw
  · exact .inr (.inr ⟨rfl, ps_eq (sq_ps hy hx (ps_eq (ps_add (ps_mul (int_ps hm) h) r2) k2)) sw⟩)
theorem Sg.eq {s : Int} {x y : Re} (h : Sg s x) (e : ∀ k, x.f k = y.f k) : Sg s y := by
  have e' : ∀ k, x.neg.f k = y.neg.f k := fun k => by show -x.f k = -y.f k; rw [e]
  rcases h with ⟨h, g⟩ | ⟨h, g, g'⟩ | ⟨h, g⟩
  · exact .inl ⟨h, ps_eq g e⟩
  · exact .inr (.inl ⟨h, nn_eq g e, nn_eq g' e'⟩)
  · exact .inr (.inr ⟨h, ps_eq g e'⟩)
theorem Sg.neg {s : Int} {x : Re} (h : Sg s x) : Sg (-s) x.neg := by
  rcases h with ⟨rfl, g⟩ | ⟨rfl, g, g'⟩ | ⟨rfl, g⟩
  · exact .inr (.inr ⟨rfl, ps_eq g fun k => (neg2 k).symm⟩)
  · exact .inr (.inl ⟨rfl, g', nn_eq g fun k => (neg2 k).symm⟩)
  · exact .inl ⟨rfl, g⟩
theorem Sg.uniq {s t : Int} {x : Re} (h : Sg s x) (g : Sg t x) : s = t := by
  rcases h with ⟨rfl, h⟩ | ⟨rfl, h, h'⟩ | ⟨rfl, h⟩ <;> rcases g with ⟨rfl, g⟩ | ⟨rfl, g, g'⟩ | ⟨rfl, g⟩
  · rfl
  · exact absurd g' (ps_not h)
  · exact absurd (ps_nn h) (ps_not2 g)
  · exact absurd h' (ps_not g)
  · rfl
  · exact absurd h (ps_not2 g)
  · exact absurd (ps_nn g) (ps_not2 h)
  · exact absurd g (ps_not2 h)
  · rfl
theorem Sg.mul {s m : Int} {x : Re} (h : Sg s x) (hm : 0 < m) : Sg s ((Re.int m).mul x) := by
  have e : ∀ k, ((Re.int m).mul x.neg).f k = ((Re.int m).mul x).neg.f k := fun k => by show (m : Rat) * -x.f k = -((m : Rat) * x.f k); grind
  rcases h with ⟨rfl, g⟩ | ⟨rfl, g, g'⟩ | ⟨rfl, g⟩
  · exact .inl ⟨rfl, ps_mul (int_ps hm) g⟩
  · exact .inr (.inl ⟨rfl, nn_mul (int_nn (Int.le_of_lt hm)) g, nn_eq (nn_mul (int_nn (Int.le_of_lt hm)) g') e⟩)
  · exact .inr (.inr ⟨rfl, ps_eq (ps_mul (int_ps hm) g) e⟩)
/-- A sum of numbers of two signs that are not opposite. -/
theorem Sg.plus {s t r : Int} {x y : Re} (h : Sg s x) (g : Sg t y) (e : (s = 1 ∧ 0 ≤ t ∧ r = 1) ∨ (0 ≤ s ∧ t = 1 ∧ r = 1) ∨ (s = 0 ∧ t = 0 ∧ r = 0) ∨ (s = -1 ∧ t ≤ 0 ∧ r = -1) ∨ (s ≤ 0 ∧ t = -1 ∧ r = -1)) : Sg r (x.add y) := by
  have c1 : ∀ k, (y.add x).f k = (x.add y).f k := fun k => by show y.f k + x.f k = x.f k + y.f k; grind
  have c2 : ∀ k, (x.neg.add y.neg).f k = (x.add y).neg.f k := fun k => by show -x.f k + -y.f k = -(x.f k + y.f k); grind
  have c3 : ∀ k, (y.neg.add x.neg).f k = (x.add y).neg.f k := fun k => by show -y.f k + -x.f k = -(x.f k + y.f k); grind
  rcases h with ⟨rfl, h⟩ | ⟨rfl, h, h'⟩ | ⟨rfl, h⟩ <;> rcases g with ⟨rfl, g⟩ | ⟨rfl, g, g'⟩ | ⟨rfl, g⟩
  · obtain rfl : r = 1 := by omega
    exact .inl ⟨rfl, ps_add h (ps_nn g)⟩
  · obtain rfl : r = 1 := by omega
    exact .inl ⟨rfl, ps_add h g⟩
  · omega
  · obtain rfl : r = 1 := by omega
    exact .inl ⟨rfl, ps_eq (ps_add g h) c1⟩
  · obtain rfl : r = 0 := by omega
    exact .inr (.inl ⟨rfl, nn_add h g, nn_eq (nn_add h' g') c2⟩)
  · obtain rfl : r = -1 := by omega
    exact .inr (.inr ⟨rfl, ps_eq (ps_add g h') c3⟩)
  · omega
  · obtain rfl : r = -1 := by omega
    exact .inr (.inr ⟨rfl, ps_eq (ps_add h g') c2⟩)
  · obtain rfl : r = -1 := by omega
    exact .inr (.inr ⟨rfl, ps_eq (ps_add h (ps_nn g)) c2⟩)
theorem sg_bd {s : Int} {x : Re} (h : Sg s x) : s = 1 ∨ s = 0 ∨ s = -1 := by
  rcases h with ⟨h, _⟩ | ⟨h, _⟩ | ⟨h, _⟩ <;> omega
theorem sg_root {t : Int} {c : Nat} (ht : (t = 1 ∧ 0 < c) ∨ (t = -1 ∧ 0 < c) ∨ (t = 0 ∧ c = 0)) : Sg t ((Re.int t).mul (Re.rt c)) := by
  rcases ht with ⟨rfl, h⟩ | ⟨rfl, h⟩ | ⟨rfl, rfl⟩
  · exact .inl ⟨rfl, ps_mul (int_ps (by decide)) (rt_ps h)⟩
  · refine .inr (.inr ⟨rfl, ps_eq (rt_ps h) fun k => ?_⟩)
    show rtf c k = -(((-1 : Int) : Rat) * rtf c k)
    have : ((-1 : Int) : Rat) = -1 := rfl
    rw [this]; grind
  · refine .inr (.inl ⟨rfl, nn_of fun k => ?_, nn_of fun k => ?_⟩)
    · show 0 ≤ ((0 : Int) : Rat) * rtf 0 k
      rw [rtf_zero, Rat.mul_zero]; exact Rat.le_refl
    · show 0 ≤ -(((0 : Int) : Rat) * rtf 0 k)
      rw [rtf_zero, Rat.mul_zero]; decide
/-- Comparing tells the sign of the difference. -/
theorem cmp_sg {A s t : Int} {n d m e : Nat} (hd : 0 < d) (he : 0 < e) (hs : (s = 1 ∧ 0 < n) ∨ (s = -1 ∧ 0 < n) ∨ (s = 0 ∧ n = 0)) (ht : (t = 1 ∧ 0 < m) ∨ (t = -1 ∧ 0 < m) ∨ (t = 0 ∧ m = 0)) :
    Sg (cmpR A s n d t m e) (dif A s d t e (n * d) (m * e)) := by
  have hu := side_sg (A * d) s (n * d)
  have hw := side_sg (A * A * d * e + n * e - m * d) (2 * A * s * e) (n * d)
  rw [Int.natCast_mul] at hu hw
  have hr : (t = 1 ∧ 0 < m * e) ∨ (t = -1 ∧ 0 < m * e) ∨ (t = 0 ∧ m * e = 0) := by
    rcases ht with ⟨h1, h2⟩ | ⟨h1, h2⟩ | ⟨h1, h2⟩
    · exact .inl ⟨h1, Nat.mul_pos h2 he⟩
    · exact .inr (.inl ⟨h1, Nat.mul_pos h2 he⟩)
    · exact .inr (.inr ⟨h1, by rw [h2, Nat.zero_mul]⟩)
  have hv := sg_root hr
  have hes : s = 1 ∨ s = -1 ∨ (s = 0 ∧ n * d = 0) := by
    rcases hs with ⟨h1, _⟩ | ⟨h1, _⟩ | ⟨h1, h2⟩
    · exact .inl h1
    · exact .inr (.inl h1)
    · exact .inr (.inr ⟨h1, by rw [h2, Nat.zero_mul]⟩)
  have het : t = 1 ∨ t = -1 ∨ (t = 0 ∧ m * e = 0) := by omega
  obtain ⟨ea, Ea, ha⟩ := eps hes
  obtain ⟨eb, Eb, hb⟩ := eps het
  have hd' : (0 : Int) < (d : Int) := by omega
  have he' : (0 : Int) < (e : Int) := by omega
  -- the two parts
  have hX := hu.mul he'
  have hY := hv.mul hd'
  have eX : ∀ k, ((Re.int e).mul (lin (A * d) s (n * d))).f k = (e : Rat) * ((A : Rat) * (d : Rat) + (s : Rat) * rtf (n * d) k) := fun k => by
    show ((e : Int) : Rat) * (((A * d : Int) : Rat) + (s : Rat) * rtf (n * d) k) = _
    rw [Rat.intCast_mul, Rat.intCast_natCast, Rat.intCast_natCast]
  have eY : ∀ k, ((Re.int d).mul ((Re.int t).mul (Re.rt (m * e)))).f k = (d : Rat) * ((t : Rat) * rtf (m * e) k) := fun k => by
    show ((d : Int) : Rat) * ((t : Rat) * rtf (m * e) k) = _
    rw [Rat.intCast_natCast]
  have eD : ∀ k, (((Re.int e).mul (lin (A * d) s (n * d))).add ((Re.int d).mul ((Re.int t).mul (Re.rt (m * e)))).neg).f k = (dif A s d t e (n * d) (m * e)).f k := fun k => by
    rw [dif_f]
    show ((Re.int e).mul (lin (A * d) s (n * d))).f k + -((Re.int d).mul ((Re.int t).mul (Re.rt (m * e)))).f k = _
    rw [eX, eY, Rat.intCast_natCast, Rat.intCast_natCast]
    grind
  have eG : ∀ k, (lin (A * A * d * e + n * e - m * d) (2 * A * s * e) (n * d)).f k = (A : Rat) * (A : Rat) * (d : Rat) * (e : Rat) + (n : Rat) * (e : Rat) - (m : Rat) * (d : Rat) + 2 * (A : Rat) * (s : Rat) * (e : Rat) * rtf (n * d) k := fun k => by
    rw [lin_f]
    have h2 : ((2 : Int) : Rat) = 2 := rfl
    simp only [Rat.intCast_add, Rat.intCast_sub, Rat.intCast_mul, Rat.intCast_natCast, h2]
  refine Sg.eq ?_ eD
  unfold cmpR
  generalize sideZ (A * d) s (n * d) = u at *
  generalize sideZ (A * A * d * e + n * e - m * d) (2 * A * s * e) (n * d) = w at *
  have bu := sg_bd hu
  have bv := sg_bd hv
  have bw := sg_bd hw
  by_cases hne : u ≠ t
  · rw [if_pos hne]
    refine Sg.plus hX hY.neg ?_
    omega
  · rw [if_neg hne]
    obtain rfl : u = t := by omega
    rcases bu with h1 | h1 | h1
    · subst h1
      rw [Int.one_mul]
      refine cmp_sq (m := d * e) (p := e * e) (q := d * d) (g := lin (A * A * d * e + n * e - m * d) (2 * A * s * e) (n * d)) (a := ea) (b := eb) (Int.mul_pos hd' he') (Int.mul_nonneg (by omega) (by omega)) (Int.mul_nonneg (by omega) (by omega)) ?_ ?_ hw ha hb ?_
      · rcases hX with ⟨_, h⟩ | ⟨h, _⟩ | ⟨h, _⟩
        · exact ps_nn h
        · omega
        · omega
      · rcases hY with ⟨_, h⟩ | ⟨h, _⟩ | ⟨h, _⟩
        · exact ps_nn h
        · omega
        · omega
      · intro k
        rw [eX, eY, eG, Ea, Eb]
        have h1 : ((1 : Int) : Rat) = 1 := rfl
        simp only [Rat.intCast_mul, Rat.intCast_natCast, Rat.natCast_mul, h1]
        grind
    · subst h1
      rw [Int.zero_mul]
      refine Sg.plus hX hY.neg ?_
      omega
    · subst h1
      have hw' : Sg w (lin (A * A * d * e + n * e - m * d) (2 * A * s * e) (n * d)) := hw
      have key := cmp_sq (x := ((Re.int e).mul (lin (A * d) s (n * d))).neg) (y := ((Re.int d).mul ((Re.int (-1)).mul (Re.rt (m * e)))).neg) (m := d * e) (p := e * e) (q := d * d) (g := lin (A * A * d * e + n * e - m * d) (2 * A * s * e) (n * d)) (a := ea) (b := eb) (Int.mul_pos hd' he') (Int.mul_nonneg (by omega) (by omega)) (Int.mul_nonneg (by omega) (by omega)) ?_ ?_ hw ha hb ?_
      · have e1 : -1 * w = -w := by omega
        rw [e1]
        refine Sg.eq key.neg fun k => ?_
        show -(-((Re.int e).mul (lin (A * d) s (n * d))).f k + - -((Re.int d).mul ((Re.int (-1)).mul (Re.rt (m * e)))).f k) = ((Re.int e).mul (lin (A * d) s (n * d))).f k + -((Re.int d).mul ((Re.int (-1)).mul (Re.rt (m * e)))).f k
        grind
      · rcases hX with ⟨h, _⟩ | ⟨h, _⟩ | ⟨_, h⟩
        · omega
        · omega
        · exact ps_nn h
      · rcases hY with ⟨h, _⟩ | ⟨h, _⟩ | ⟨_, h⟩
        · omega
        · omega
        · exact ps_nn h
      · intro k
        show -((Re.int e).mul (lin (A * d) s (n * d))).f k * -((Re.int e).mul (lin (A * d) s (n * d))).f k - -((Re.int d).mul ((Re.int (-1)).mul (Re.rt (m * e)))).f k * -((Re.int d).mul ((Re.int (-1)).mul (Re.rt (m * e)))).f k = _
        rw [eX, eY, eG, Ea, Eb]
        have h1 : ((-1 : Int) : Rat) = -1 := rfl
        simp only [Rat.intCast_mul, Rat.intCast_natCast, Rat.natCast_mul, h1]
        grind
end Go.Proofs.YtghgggaimijcaaaDoor

namespace Go.Proofs.YtghgggaimijcaaaDoor
open Go.RowKit

def cmpRt (a b : Rt) : Int := if a.right && b.right then cmpR (a.add - b.add) a.s a.n.z a.d.z b.s b.n.z b.d.z else 0
/-- A root's value, times its denominator. -/
def rv (a : Rt) : Re := lin (a.add * (val a.d.d : Int)) a.s (val a.n.d * val a.d.d)
theorem rv_f (a : Rt) (k : Nat) : (rv a).f k = (a.add : Rat) * (val a.d.d : Rat) + (a.s : Rat) * rtf (val a.n.d * val a.d.d) k := by
  unfold rv
  rw [lin_f, Rat.intCast_mul, Rat.intCast_natCast]
def mul (z : Int) (x : Re) : Re := (Re.int z).mul x
theorem mul_f (z : Int) (x : Re) (k : Nat) : (mul z x).f k = (z : Rat) * x.f k := rfl
theorem add_f (x y : Re) (k : Nat) : (x.add y).f k = x.f k + y.f k := rfl
theorem neg_f (x : Re) (k : Nat) : x.neg.f k = -x.f k := rfl
/-- The difference of two roots, times both denominators. -/
def df (a b : Rt) : Re := (mul (val b.d.d : Int) (rv a)).add (mul (val a.d.d : Int) (rv b)).neg
theorem df_f (a b : Rt) (k : Nat) : (df a b).f k = (val b.d.d : Rat) * ((a.add : Rat) * (val a.d.d : Rat) + (a.s : Rat) * rtf (val a.n.d * val a.d.d) k) - (val a.d.d : Rat) * ((b.add : Rat) * (val b.d.d : Rat) + (b.s : Rat) * rtf (val b.n.d * val b.d.d) k) := by
  unfold df
  rw [add_f, neg_f, mul_f, mul_f, rv_f, rv_f, Rat.intCast_natCast, Rat.intCast_natCast]
  grind
theorem Rt.Ok.shape {a : Rt} (h : a.Ok) : (a.s = 1 ∧ 0 < val a.n.d) ∨ (a.s = -1 ∧ 0 < val a.n.d) ∨ (a.s = 0 ∧ val a.n.d = 0) := by
  have h1 := h.sl
  have h2 := h.su
  by_cases h0 : a.s = 0
  · exact .inr (.inr ⟨h0, (h.n0 h0).1⟩)
  · have := h.n1 h0
    omega
theorem Rt.Ok.zs {a : Rt} (h : a.Ok) : a.n.z = (val a.n.d : Int) ∧ a.d.z = (val a.d.d : Int) := ⟨z_pos h.nn, z_pos h.dn⟩
theorem cmpRt_sg {a b : Rt} (ha : a.Ok) (hb : b.Ok) : Sg (cmpR (a.add - b.add) a.s a.n.z a.d.z b.s b.n.z b.d.z) (df a b) := by
  rw [ha.zs.1, ha.zs.2, hb.zs.1, hb.zs.2]
  refine Sg.eq (cmp_sg ha.dp hb.dp ha.shape hb.shape) fun k => ?_
  rw [dif_f, df_f, Rat.intCast_sub]
  simp only [Rat.intCast_natCast]
  grind
theorem Sg.zero {x : Re} (h : ∀ k, x.f k = 0) : Sg 0 x := .inr (.inl ⟨rfl, nn_of fun k => by rw [h]; exact Rat.le_refl, nn_of fun k => by show 0 ≤ -x.f k; rw [h]; decide⟩)
theorem sg_int (z : Int) : Sg (sgn z) (Re.int z) := by
  rcases sgn_cases z with ⟨h, g⟩ | ⟨h, g⟩ | ⟨h, g⟩ <;> rw [h]
  · exact .inl ⟨rfl, int_ps g⟩
  · subst g; exact Sg.zero fun _ => rfl
  · refine .inr (.inr ⟨rfl, ps_eq (int_ps (show 0 < -z by omega)) fun k => ?_⟩)
    show ((-z : Int) : Rat) = -(z : Rat)
    rw [Rat.intCast_neg]
theorem cmp_anti {a b : Rt} (ha : a.Ok) (hb : b.Ok) : cmpR (b.add - a.add) b.s b.n.z b.d.z a.s a.n.z a.d.z = -cmpR (a.add - b.add) a.s a.n.z a.d.z b.s b.n.z b.d.z := by
  refine Sg.uniq (cmpRt_sg hb ha) (Sg.eq (cmpRt_sg ha hb).neg fun k => ?_)
  rw [neg_f, df_f, df_f]
  grind
theorem cmp_same {a : Rt} (ha : a.Ok) : cmpR (a.add - a.add) a.s a.n.z a.d.z a.s a.n.z a.d.z = 0 := by
  refine Sg.uniq (cmpRt_sg ha ha) (Sg.zero fun k => ?_)
  rw [df_f]
  grind
theorem cmp_bd {a b : Rt} (ha : a.Ok) (hb : b.Ok) : cmpR (a.add - b.add) a.s a.n.z a.d.z b.s b.n.z b.d.z = 1 ∨ cmpR (a.add - b.add) a.s a.n.z a.d.z b.s b.n.z b.d.z = 0 ∨ cmpR (a.add - b.add) a.s a.n.z a.d.z b.s b.n.z b.d.z = -1 := sg_bd (cmpRt_sg ha hb)
theorem cmp_trans {a b c : Rt} (ha : a.Ok) (hb : b.Ok) (hc : c.Ok) {x y z : Int} (hx : Sg x (df a b)) (hy : Sg y (df b c)) (hz : Sg z (df a c)) :
    (x ≤ 0 → y ≤ 0 → z ≤ 0 ∧ (z = 0 → x = 0 ∧ y = 0)) ∧ (0 ≤ x → 0 ≤ y → 0 ≤ z ∧ (z = 0 → x = 0 ∧ y = 0)) := by
  have pa := ha.dp
  have pb := hb.dp
  have pc := hc.dp
  have hz' := hz.mul (m := (val b.d.d : Int)) (by omega)
  have hx' := hx.mul (m := (val c.d.d : Int)) (by omega)
  have hy' := hy.mul (m := (val a.d.d : Int)) (by omega)
  have e : ∀ k, (((Re.int (val c.d.d : Int)).mul (df a b)).add ((Re.int (val a.d.d : Int)).mul (df b c))).f k = ((Re.int (val b.d.d : Int)).mul (df a c)).f k := fun k => by
    show ((val c.d.d : Int) : Rat) * (df a b).f k + ((val a.d.d : Int) : Rat) * (df b c).f k = ((val b.d.d : Int) : Rat) * (df a c).f k
    rw [df_f, df_f, df_f, Rat.intCast_natCast, Rat.intCast_natCast, Rat.intCast_natCast]
    grind
  have bx := sg_bd hx
  have by' := sg_bd hy
  have bz := sg_bd hz
  have key : ∀ r, (x = 1 ∧ 0 ≤ y ∧ r = 1) ∨ (0 ≤ x ∧ y = 1 ∧ r = 1) ∨ (x = 0 ∧ y = 0 ∧ r = 0) ∨ (x = -1 ∧ y ≤ 0 ∧ r = -1) ∨ (x ≤ 0 ∧ y = -1 ∧ r = -1) → z = r := fun r h => Sg.uniq hz' (Sg.eq (Sg.plus hx' hy' h) e)
  constructor
  · intro h1 h2
    by_cases h3 : x = 0 ∧ y = 0
    · have := key 0 (by omega); omega
    · have := key (-1) (by omega); omega
  · intro h1 h2
    by_cases h3 : x = 0 ∧ y = 0
    · have := key 0 (by omega); omega
    · have := key 1 (by omega); omega
/-- A root and the same with a number added. -/
theorem cmp_plus {a b : Rt} (ha : a.Ok) (hb : b.Ok) (n : Int) (h1 : b.add = a.add + n) (h2 : b.s = a.s) (h3 : b.n = a.n) (h4 : b.d = a.d) : cmpR (a.add - b.add) a.s a.n.z a.d.z b.s b.n.z b.d.z = sgn (-n) := by
  have hd : 0 < (val a.d.d : Int) * (val a.d.d : Int) := by have := ha.dp; exact Int.mul_pos (by omega) (by omega)
  refine Sg.uniq (cmpRt_sg ha hb) (Sg.eq ((sg_int (-n)).mul hd) fun k => ?_)
  show (((val a.d.d : Int) * (val a.d.d : Int) : Int) : Rat) * ((-n : Int) : Rat) = _
  rw [df_f, h1, h2, h3, h4, Rat.intCast_mul, Rat.intCast_natCast, Rat.intCast_neg, Rat.intCast_add]
  grind
end Go.Proofs.YtghgggaimijcaaaDoor

namespace Go.Proofs.YtghgggaimijcaaaDoor
open Go.RowKit

theorem sideZ_neg (a b : Int) (c : Nat) : sideZ (-a) (-b) (c : Int) = -sideZ a b (c : Int) := Sg.uniq (side_sg (-a) (-b) c) (Sg.eq (side_sg a b c).neg fun k => (lin_neg a b c k).symm)
theorem sgn_mul {g : Int} (h : 0 < g) (a : Int) : sgn (g * a) = sgn a := by
  rcases sgn_cases a with ⟨h1, h2⟩ | ⟨h1, h2⟩ | ⟨h1, h2⟩
  · have := Int.mul_pos h h2
    rcases sgn_cases (g * a) with ⟨h3, h4⟩ | ⟨h3, h4⟩ | ⟨h3, h4⟩ <;> omega
  · rw [h2, Int.mul_zero]
  · have := Int.mul_neg_of_pos_of_neg h h2
    rcases sgn_cases (g * a) with ⟨h3, h4⟩ | ⟨h3, h4⟩ | ⟨h3, h4⟩ <;> omega
theorem cmpZ_sub (a b : Int) : cmpZ a b = sgn (a - b) := by
  rcases cmpZ_case a b with ⟨h1, h2⟩ | ⟨h1, h2⟩ | ⟨h1, h2⟩ <;> rcases sgn_cases (a - b) with ⟨h3, h4⟩ | ⟨h3, h4⟩ | ⟨h3, h4⟩ <;> omega
theorem cmpZ_mul {g : Int} (h : 0 < g) (a b : Int) : cmpZ (g * a) (g * b) = cmpZ a b := by
  rw [cmpZ_sub, cmpZ_sub, ← Int.mul_sub, sgn_mul h]
theorem sideZ_scale {g : Int} (h : 0 < g) (a b c : Int) : sideZ (g * a) b (g * g * c) = sideZ a b c := by
  have h2 := Int.mul_pos h h
  unfold sideZ
  rw [sgn_mul h, sgn_mul h2]
  have e1 : g * a * (g * a) = g * g * (a * a) := by grind
  have e2 : b * b * (g * g * c) = g * g * (b * b * c) := by grind
  rw [e1, e2, cmpZ_mul h2]
theorem sideZ_bd (a b c : Int) : -1 ≤ sideZ a b c ∧ sideZ a b c ≤ 1 := by
  unfold sideZ
  split
  · omega
  · rcases sgn_cases a with ⟨h1, h2⟩ | ⟨h1, h2⟩ | ⟨h1, h2⟩ <;> rcases cmpZ_case (a * a) (b * b * c) with ⟨h3, h4⟩ | ⟨h3, h4⟩ | ⟨h3, h4⟩ <;> rw [h1, h3] <;> decide
/-- Compared with a whole number. -/
theorem cmpR_whole (A s n d : Int) : cmpR A s n d 0 0 1 = sideZ (A * d) s (n * d) := by
  have := sideZ_bd (A * d) s (n * d)
  unfold cmpR
  split
  · omega
  · rename_i h
    have : sideZ (A * d) s (n * d) = 0 := by omega
    rw [this, Int.zero_mul]
theorem side_whole {f d n : Int} (hf : 0 ≤ f) (hd : 0 < d) (hn : 0 ≤ n) : sideZ (-f * d) 1 (n * d) = sgn (n - d * f * f) := by
  have s1 : sgn 1 = 1 := rfl
  unfold sideZ
  rw [s1, Int.one_mul, Int.mul_comm n d, sgn_mul hd, Int.mul_comm (-f) d, sgn_mul hd]
  rcases sgn_cases n with ⟨h1, h2⟩ | ⟨h1, h2⟩ | ⟨h1, h2⟩
  · rcases sgn_cases (-f) with ⟨h3, h4⟩ | ⟨h3, h4⟩ | ⟨h3, h4⟩
    · omega
    · obtain rfl : f = 0 := by omega
      rw [h1, h3, if_pos (by decide), Int.mul_zero, Int.sub_zero, h1]
      decide
    · rw [h1, h3, if_neg (by decide)]
      have e : d * -f * (d * -f) = d * (d * f * f) := by grind
      rw [e, Int.mul_one, Int.one_mul, cmpZ_mul hd, cmpZ_sub]
      have e2 : n - d * f * f = -(d * f * f - n) := by omega
      rw [e2]
      rcases sgn_cases (d * f * f - n) with ⟨h5, h6⟩ | ⟨h5, h6⟩ | ⟨h5, h6⟩ <;> rcases sgn_cases (-(d * f * f - n)) with ⟨h7, h8⟩ | ⟨h7, h8⟩ | ⟨h7, h8⟩ <;> omega
  · subst h2
    rw [h1, Int.mul_zero, if_pos (Int.le_refl 0), Int.zero_sub]
    have e : -(d * f * f) = d * (f * -f) := by grind
    rw [e, sgn_mul hd]
    rcases sgn_cases (-f) with ⟨h3, h4⟩ | ⟨h3, h4⟩ | ⟨h3, h4⟩
    · omega
    · obtain rfl : f = 0 := by omega
      rfl
    · rw [h3, sgn_mul (show 0 < f by omega), h3]
      decide
  · omega
/-- The root that ints make. -/
def rootOf (add s : Int) (n d : Nat) : Rt := if s = 0 ∨ n = 0 then ⟨add, 0, zero, ofZ 1⟩ else ⟨add, s, ofZ ((n / Nat.gcd n d : Nat) : Int), ofZ ((d / Nat.gcd n d : Nat) : Int)⟩
theorem small_nat {n k : Nat} (h : n < 4294967296 ^ k) (hk : k ≤ 64) : small (n : Int) = true := small_of_lt (k := k) (by rw [Int.natAbs_natCast]; exact h) hk
theorem ofZ_len {n k : Nat} (h : n < 4294967296 ^ k) : (ofZ (n : Int)).d.length ≤ k := by
  simp only [ofZ, Int.natAbs_natCast]
  exact (digs_length_le _ _).2 h
theorem ofP_nat {add s : Int} {n d : Nat} (hs : -1 ≤ s ∧ s ≤ 1) (hn : n < 4294967296 ^ 8) (hd : d < 4294967296 ^ 8) (h0 : 0 < d) : ofP add s (ofZ (n : Int)) (ofZ (d : Int)) = (rootOf add s n d, true) := by
  have sn := small_nat hn (by decide)
  have sd := small_nat hd (by decide)
  have vn : val (ofZ (n : Int)).d = n := by rw [val_ofZ]; rfl
  have vd : val (ofZ (d : Int)).d = d := by rw [val_ofZ]; rfl
  have hb : ofBad s (ofZ (n : Int)) (ofZ (d : Int)) = false := ofBad_of hs.1 hs.2 (ofZ_right sn) (ofZ_right sd) neg_ofZ (by rw [ofZ_z]; omega)
  unfold rootOf
  by_cases hz : s = 0 ∨ n = 0
  · rw [if_pos hz]
    unfold ofP
    rw [hb, if_neg (by simp), if_pos (by rw [ofZ_z]; omega)]
  · rw [if_neg hz, ofP_main neg_ofZ (by rw [ofZ_z]; omega) hb (by rw [ofZ_z]; omega), vn, vd, if_neg]
    have h1 := ofZ_len (Nat.lt_of_le_of_lt (Nat.div_le_self n (Nat.gcd n d)) hn)
    have h2 := ofZ_len (Nat.lt_of_le_of_lt (Nat.div_le_self d (Nat.gcd n d)) hd)
    omega
theorem whole_ok {add s : Int} {n d : Nat} (hs : -1 ≤ s ∧ s ≤ 1) (hn : n < 4294967296 ^ 8) (hd : d < 4294967296 ^ 8) (h0 : 0 < d) : (rootOf add s n d).Ok ∧ (rootOf add s n d).right = true := by
  have dg : ∀ z, Dig (ofZ z).d := fun z => dig_digs _
  obtain ⟨h1, h2, _⟩ := ofP_ok (dg n) (dg d) (ofP_nat (add := add) hs hn hd h0)
  exact ⟨h1, right_of h2 h1.nr h1.dr⟩
/-- A root of ints, compared with an int. -/
theorem cmp_int {add s x : Int} {n d : Nat} (h0 : 0 < d) (hs : s = 0 → n = 0) : cmpR ((rootOf add s n d).add - x) (rootOf add s n d).s (rootOf add s n d).n.z (rootOf add s n d).d.z 0 0 1 = sideZ ((add - x) * d) s ((n : Int) * d) := by
  rw [cmpR_whole]
  unfold rootOf
  by_cases hz : s = 0 ∨ n = 0
  · have hn : n = 0 := by rcases hz with h | h; exact hs h; exact h
    rw [if_pos hz, hn]
    simp only
    rw [ofZ_z, zero_z]
    have e : ∀ y t : Int, sideZ y t 0 = sgn y := fun y t => by
      have : sgn 0 = 0 := rfl
      unfold sideZ
      rw [this, Int.mul_zero, Int.mul_zero, if_pos (Int.le_refl 0)]
      rcases sgn_cases y with ⟨h, _⟩ | ⟨h, _⟩ | ⟨h, _⟩ <;> rw [h] <;> decide
    rw [Int.zero_mul, e, show ((0 : Nat) : Int) * (d : Int) = 0 by simp, e, Int.mul_one, Int.mul_comm, sgn_mul (by omega)]
  · rw [if_neg hz]
    simp only
    rw [ofZ_z, ofZ_z]
    have hg : 0 < Nat.gcd n d := Nat.gcd_pos_of_pos_right _ h0
    have e1 : Nat.gcd n d * (n / Nat.gcd n d) = n := Nat.mul_div_cancel' (Nat.gcd_dvd_left _ _)
    have e2 : Nat.gcd n d * (d / Nat.gcd n d) = d := Nat.mul_div_cancel' (Nat.gcd_dvd_right _ _)
    have e1' : (n : Int) = (Nat.gcd n d : Int) * ((n / Nat.gcd n d : Nat) : Int) := by rw [← Int.natCast_mul, e1]
    have e2' : (d : Int) = (Nat.gcd n d : Int) * ((d / Nat.gcd n d : Nat) : Int) := by rw [← Int.natCast_mul, e2]
    have hg2 : (0 : Int) < (Nat.gcd n d : Int) := by omega
    generalize (Nat.gcd n d : Int) = g at *
    generalize ((n / Nat.gcd n d : Nat) : Int) = N at *
    generalize ((d / Nat.gcd n d : Nat) : Int) = D at *
    rw [e1', e2', show (add - x) * (g * D) = g * ((add - x) * D) by grind, show g * N * (g * D) = g * g * (N * D) by grind, sideZ_scale hg2]
end Go.Proofs.YtghgggaimijcaaaDoor
