/- Plain: numbers as rows of rational numbers that draw together, their order, and the roots of whole numbers. | Plain: what the sign of a + b √c says of numbers with roots; what comparing roots says. -/
import Derived.Test.YtighahcllmoajaaGreatJ01
import Derived.Test.YtighahcllmoajaaGreatJ19
set_option linter.unusedVariables false
set_option linter.unusedSimpArgs false

namespace Go.Proofs.YtighahcllmoajaaGreat
theorem rat_tot (a b : Rat) : a ≤ b ∨ b ≤ a := Rat.le_total
theorem rat_div {a b : Rat} (ha : 0 < a) (hb : 0 < b) : 0 < a / b := by rw [Rat.div_def]; exact Rat.mul_pos ha (Rat.inv_pos.2 hb)
/-- Numbers as rows of rational numbers that draw together. -/
structure Re where
  f : Nat → Rat
  c : ∀ e : Rat, 0 < e → ∃ N, ∀ j k, N ≤ j → N ≤ k → f j - f k ≤ e
theorem Re.bd (x : Re) : ∃ (B : Rat) (N : Nat), 0 < B ∧ ∀ k, N ≤ k → -B ≤ x.f k ∧ x.f k ≤ B := by
  obtain ⟨N, h⟩ := x.c 1 (by decide)
  refine ⟨(if 0 ≤ x.f N then x.f N else -x.f N) + 1, N, ?_, fun k hk => ?_⟩
  · split <;> grind
  · have h1 := h k N hk (Nat.le_refl _)
    have h2 := h N k (Nat.le_refl _) hk
    split <;> grind
def Re.int (z : Int) : Re := ⟨fun _ => (z : Rat), fun e he => ⟨0, fun j k _ _ => by grind⟩⟩
def Re.add (x y : Re) : Re := ⟨fun k => x.f k + y.f k, fun e he => by
  obtain ⟨N, h⟩ := x.c (e / 2) (by grind)
  obtain ⟨M, g⟩ := y.c (e / 2) (by grind)
  refine ⟨N + M, fun j k hj hk => ?_⟩
  have h1 := h j k (by omega) (by omega)
  have h2 := g j k (by omega) (by omega)
  grind⟩
def Re.neg (x : Re) : Re := ⟨fun k => -x.f k, fun e he => by
  obtain ⟨N, h⟩ := x.c e he
  exact ⟨N, fun j k hj hk => by have h1 := h k j hk hj; grind⟩⟩
theorem rmul_bd {a b B e : Rat} (hB : 0 < B) (h1 : -B ≤ a) (h2 : a ≤ B) (h3 : -e ≤ b) (h4 : b ≤ e) : a * b ≤ B * e := by
  have he : 0 ≤ e := by grind
  rcases rat_tot 0 a with h | h
  · have k1 := Rat.mul_le_mul_of_nonneg_left h4 h
    have k2 := Rat.mul_le_mul_of_nonneg_right h2 he
    grind
  · have k1 := Rat.mul_le_mul_of_nonneg_left h3 (show 0 ≤ -a by grind)
    have k2 := Rat.mul_le_mul_of_nonneg_right (show -a ≤ B by grind) he
    grind
def Re.mul (x y : Re) : Re := ⟨fun k => x.f k * y.f k, fun e he => by
  obtain ⟨B, N, hB, hb⟩ := x.bd
  obtain ⟨C, M, hC, hc⟩ := y.bd
  have e1 : 0 < e / (2 * B) := rat_div he (by grind)
  have e2 : 0 < e / (2 * C) := rat_div he (by grind)
  obtain ⟨K, h⟩ := x.c _ e2
  obtain ⟨L, g⟩ := y.c _ e1
  refine ⟨N + M + K + L, fun j k hj hk => ?_⟩
  have b1 := hb j (by omega)
  have b2 := hc k (by omega)
  have h1 := h j k (by omega) (by omega)
  have h2 := h k j (by omega) (by omega)
  have g1 := g j k (by omega) (by omega)
  have g2 := g k j (by omega) (by omega)
  have m1 := rmul_bd (e := e / (2 * B)) hB b1.1 b1.2 (show _ ≤ y.f j - y.f k by grind) g1
  have m2 := rmul_bd (e := e / (2 * C)) hC b2.1 b2.2 (show _ ≤ x.f j - x.f k by grind) h1
  have q1 : B * (e / (2 * B)) = e / 2 := by grind
  have q2 : C * (e / (2 * C)) = e / 2 := by grind
  grind⟩
/-- Not negative. -/
def nn (x : Re) : Prop := ∀ e : Rat, 0 < e → ∃ N, ∀ k, N ≤ k → -e ≤ x.f k
theorem nn_eq {x y : Re} (h : nn x) (e : ∀ k, x.f k = y.f k) : nn y := fun d hd => by
  obtain ⟨N, g⟩ := h d hd
  exact ⟨N, fun k hk => by rw [← e]; exact g k hk⟩
theorem nn_of {x : Re} (h : ∀ k, 0 ≤ x.f k) : nn x := fun d hd => ⟨0, fun k _ => by have := h k; grind⟩
theorem nn_add {x y : Re} (h : nn x) (g : nn y) : nn (x.add y) := fun e he => by
  obtain ⟨N, h⟩ := h (e / 2) (by grind)
  obtain ⟨M, g⟩ := g (e / 2) (by grind)
  refine ⟨N + M, fun k hk => ?_⟩
  have h1 := h k (by omega)
  have h2 := g k (by omega)
  show -e ≤ x.f k + y.f k
  grind
/-- Greater than 0. -/
def ps (x : Re) : Prop := ∃ (e : Rat) (N : Nat), 0 < e ∧ ∀ k, N ≤ k → e ≤ x.f k
theorem ps_nn {x : Re} (h : ps x) : nn x := fun e he => by
  obtain ⟨d, N, hd, h⟩ := h
  exact ⟨N, fun k hk => by have := h k hk; grind⟩
theorem ps_not {x : Re} (h : ps x) : ¬ nn x.neg := fun g => by
  obtain ⟨d, N, hd, h⟩ := h
  obtain ⟨M, g⟩ := g (d / 2) (by grind)
  have h1 := h (N + M) (by omega)
  have h2 := g (N + M) (by omega)
  have h3 : -(d / 2) ≤ -x.f (N + M) := h2
  grind
theorem ps_of {x : Re} (h : ¬ nn x.neg) : ps x := by
  have : ∃ e : Rat, 0 < e ∧ ∀ N, ∃ k, N ≤ k ∧ e < x.f k := by
    apply Classical.byContradiction
    intro hn
    apply h
    intro e he
    apply Classical.byContradiction
    intro h2
    apply hn
    refine ⟨e, he, fun N => ?_⟩
    apply Classical.byContradiction
    intro h3
    apply h2
    refine ⟨N, fun k hk => ?_⟩
    show -e ≤ -x.f k
    rcases rat_tot (x.f k) e with g | g
    · grind
    · rcases Rat.le_iff_lt_or_eq.1 g with g | g
      · exact absurd ⟨k, hk, g⟩ h3
      · grind
  obtain ⟨e, he, h⟩ := this
  obtain ⟨N, g⟩ := x.c (e / 2) (by grind)
  obtain ⟨j, hj, h⟩ := h N
  exact ⟨e / 2, N, by grind, fun k hk => by have := g j k hj hk; grind⟩
theorem nn_or (x : Re) : nn x ∨ nn x.neg := by
  by_cases h : nn x.neg
  · exact .inr h
  · exact .inl (ps_nn (ps_of h))
theorem ps_mul {x y : Re} (h : ps x) (g : ps y) : ps (x.mul y) := by
  obtain ⟨d, N, hd, h⟩ := h
  obtain ⟨e, M, he, g⟩ := g
  refine ⟨d * e, N + M, Rat.mul_pos hd he, fun k hk => ?_⟩
  have h1 := h k (by omega)
  have h2 := g k (by omega)
  have k1 := Rat.mul_le_mul_of_nonneg_left h2 (show 0 ≤ d by grind)
  have k2 := Rat.mul_le_mul_of_nonneg_right h1 (show 0 ≤ y.f k by grind)
  show d * e ≤ x.f k * y.f k
  grind
theorem ps_add {x y : Re} (h : ps x) (g : nn y) : ps (x.add y) := by
  obtain ⟨d, N, hd, h⟩ := h
  obtain ⟨M, g⟩ := g (d / 2) (by grind)
  refine ⟨d / 2, N + M, by grind, fun k hk => ?_⟩
  have h1 := h k (by omega)
  have h2 := g k (by omega)
  show d / 2 ≤ x.f k + y.f k
  grind
theorem nn_mul {x y : Re} (h : nn x) (g : nn y) : nn (x.mul y) := fun e he => by
  obtain ⟨B, N, hB, hb⟩ := x.bd
  obtain ⟨C, M, hC, hc⟩ := y.bd
  have e1 : 0 < e / (B + C) := rat_div he (by grind)
  obtain ⟨K, h⟩ := h _ e1
  obtain ⟨L, g⟩ := g _ e1
  refine ⟨N + M + K + L, fun k hk => ?_⟩
  have b1 := hb k (by omega)
  have b2 := hc k (by omega)
  have h1 := h k (by omega)
  have h2 := g k (by omega)
  have q : (B + C) * (e / (B + C)) = e := by grind
  obtain ⟨t, ht⟩ : ∃ t, e / (B + C) = t := ⟨_, rfl⟩
  rw [ht] at h1 h2 q e1
  show -e ≤ x.f k * y.f k
  obtain ⟨a, ha⟩ : ∃ a, x.f k = a := ⟨_, rfl⟩
  obtain ⟨b, hb'⟩ : ∃ b, y.f k = b := ⟨_, rfl⟩
  rw [ha] at b1 h1 ⊢
  rw [hb'] at b2 h2 ⊢
  rcases rat_tot 0 a with s | s
  · rcases rat_tot 0 b with r | r
    · have := Rat.mul_nonneg s r; grind
    · have k1 := Rat.mul_le_mul_of_nonneg_left h2 s
      have k2 := Rat.mul_le_mul_of_nonneg_right b1.2 (show 0 ≤ t by grind)
      have k3 := Rat.mul_nonneg (show 0 ≤ C by grind) (show 0 ≤ t by grind)
      grind
  · rcases rat_tot 0 b with r | r
    · have k1 := Rat.mul_le_mul_of_nonneg_right h1 r
      have k2 := Rat.mul_le_mul_of_nonneg_right b2.2 (show 0 ≤ t by grind)
      have k3 := Rat.mul_nonneg (show 0 ≤ B by grind) (show 0 ≤ t by grind)
      grind
    · have := Rat.mul_nonneg (show 0 ≤ -a by grind) (show 0 ≤ -b by grind); grind

/-- The root of a whole number, rounded down. -/
def isq : Nat → Nat
  | 0 => 0
  | m + 1 => if (isq m + 1) * (isq m + 1) ≤ m + 1 then isq m + 1 else isq m
theorem isq_ok : ∀ m, isq m * isq m ≤ m ∧ m < (isq m + 1) * (isq m + 1)
  | 0 => by decide
  | m + 1 => by
    obtain ⟨h1, h2⟩ := isq_ok m
    unfold isq
    split
    · rename_i h
      refine ⟨h, ?_⟩
      have e : (isq m + 1 + 1) * (isq m + 1 + 1) = (isq m + 1) * (isq m + 1) + 2 * (isq m + 1) + 1 := by grind
      omega
    · omega
theorem pow_cast (k : Nat) : ((2 ^ k : Nat) : Rat) * ((2 ^ k : Nat) : Rat) = ((4 ^ k : Nat) : Rat) := by
  rw [← Rat.natCast_mul, ← Nat.mul_pow]
theorem pow_posR (k : Nat) : (0 : Rat) < ((2 ^ k : Nat) : Rat) := by
  have : 0 < 2 ^ k := Nat.pow_pos (by decide)
  exact Rat.natCast_pos.2 this
theorem sq_canc {a b p : Rat} (hp : 0 < p) (h : a * (p * p) ≤ b * (p * p)) : a ≤ b := by
  rcases rat_tot a b with g | g
  · exact g
  · rcases Rat.le_iff_lt_or_eq.1 g with g | g
    · have := Rat.mul_lt_mul_of_pos_right g (Rat.mul_pos hp hp); grind
    · grind
theorem sq_le {a b : Rat} (hb : 0 ≤ b) (h : a * a ≤ b * b) : a ≤ b := by
  rcases rat_tot a b with g | g
  · exact g
  · rcases Rat.le_iff_lt_or_eq.1 g with g | g
    · have k1 := Rat.mul_lt_mul_of_pos_right g (show 0 < a by grind)
      have k2 := Rat.mul_le_mul_of_nonneg_left (show b ≤ a by grind) hb
      grind
    · grind
def rtf (c k : Nat) : Rat := ((isq (c * 4 ^ k) : Nat) : Rat) / ((2 ^ k : Nat) : Rat)
def tk (k : Nat) : Rat := 1 / ((2 ^ k : Nat) : Rat)
theorem tk_pos (k : Nat) : 0 < tk k := rat_div (by decide) (pow_posR k)
theorem rtf_nn (c k : Nat) : 0 ≤ rtf c k := by
  unfold rtf
  have hp := pow_posR k
  have h0 : (0 : Rat) ≤ ((isq (c * 4 ^ k) : Nat) : Rat) := Rat.natCast_nonneg
  rw [Rat.div_def]
  exact Rat.mul_nonneg h0 (by have := Rat.inv_pos.2 hp; grind)
theorem rtf_bd (c k : Nat) : rtf c k * rtf c k ≤ (c : Rat) ∧ (c : Rat) ≤ (rtf c k + tk k) * (rtf c k + tk k) := by
  obtain ⟨h1, h2⟩ := isq_ok (c * 4 ^ k)
  have h1 : ((isq (c * 4 ^ k) * isq (c * 4 ^ k) : Nat) : Rat) ≤ ((c * 4 ^ k : Nat) : Rat) := Rat.natCast_le_natCast.2 h1
  have h2 : ((c * 4 ^ k : Nat) : Rat) ≤ (((isq (c * 4 ^ k) + 1) * (isq (c * 4 ^ k) + 1) : Nat) : Rat) := Rat.natCast_le_natCast.2 (Nat.le_of_lt h2)
  rw [Rat.natCast_mul, Rat.natCast_mul, ← pow_cast] at h1 h2
  rw [Rat.natCast_add] at h2
  have hp := pow_posR k
  unfold rtf tk
  generalize ((isq (c * 4 ^ k) : Nat) : Rat) = r at *
  generalize ((2 ^ k : Nat) : Rat) = p at *
  generalize (c : Rat) = d at *
  have hp0 : p ≠ 0 := by grind
  obtain ⟨x, X⟩ : ∃ x, r / p = x := ⟨_, rfl⟩
  obtain ⟨t, T⟩ : ∃ t, 1 / p = t := ⟨_, rfl⟩
  have e1 : r = x * p := by rw [← X]; grind
  have e2 : 1 = t * p := by rw [← T]; grind
  rw [X, T]
  have h3 : ((1 : Nat) : Rat) = 1 := rfl
  rw [h3] at h2
  constructor
  · refine sq_canc hp ?_
    rw [e1] at h1
    grind
  · refine sq_canc hp ?_
    have e3 : r + 1 = (x + t) * p := by grind
    rw [e3] at h2
    grind
theorem rat_den (e : Rat) : e * (e.den : Rat) = (e.num : Rat) := by
  have h := Rat.mkRat_self e
  rw [Rat.mkRat_eq_div] at h
  have hd : ((e.den : Nat) : Rat) ≠ 0 := by
    have := e.den_pos
    have h2 : (0 : Rat) < ((e.den : Nat) : Rat) := Rat.natCast_pos.2 this
    grind
  generalize ((e.den : Nat) : Rat) = d at *
  generalize ((e.num : Int) : Rat) = n at *
  rw [← h]
  grind
theorem rat_num {e : Rat} (h : 0 < e) : 0 < e.num := by
  have := (Rat.lt_iff _ _).1 h
  simpa using this
theorem arch (b : Nat) {e : Rat} (he : 0 < e) : ∃ N, ∀ k, N ≤ k → (b : Rat) * tk k ≤ e := by
  refine ⟨b * e.den, fun k hk => ?_⟩
  have h1 : (b * e.den : Nat) < 2 ^ k := Nat.lt_of_le_of_lt hk Nat.lt_two_pow_self
  have h2 : ((b * e.den : Nat) : Rat) ≤ ((2 ^ k : Nat) : Rat) := Rat.natCast_le_natCast.2 (Nat.le_of_lt h1)
  rw [Rat.natCast_mul] at h2
  have h3 : e * (e.den : Rat) = (e.num : Rat) := rat_den e
  have h4 : (1 : Rat) ≤ (e.num : Rat) := by
    have : 0 < e.num := rat_num he
    have : (1 : Int) ≤ e.num := this
    exact Rat.intCast_le_intCast.2 this
  have h5 := Rat.mul_le_mul_of_nonneg_left h2 (show 0 ≤ e by grind)
  have h6 := Rat.mul_le_mul_of_nonneg_left h4 (show (0 : Rat) ≤ (b : Rat) from Rat.natCast_nonneg)
  have hp := pow_posR k
  unfold tk
  generalize ((2 ^ k : Nat) : Rat) = p at *
  have h7 : (b : Rat) ≤ e * p := by grind
  obtain ⟨t, T⟩ : ∃ t, 1 / p = t := ⟨_, rfl⟩
  have hp0 : p ≠ 0 := by grind
  have e2 : 1 = t * p := by rw [← T]; grind
  have ht : 0 < t := by rw [← T]; exact rat_div (by decide) hp
  rw [T]
  have h8 := Rat.mul_le_mul_of_nonneg_right h7 (show 0 ≤ t by grind)
  have h9 : e * p * t = e := by rw [Rat.mul_assoc, Rat.mul_comm p t, ← e2, Rat.mul_one]
  rw [h9] at h8
  exact h8
/-- The root of a number. -/
def Re.rt (c : Nat) : Re := ⟨rtf c, fun e he => by
  obtain ⟨N, h⟩ := arch 1 he
  refine ⟨N, fun j k _ hk => ?_⟩
  have h1 := h k hk
  have h2 : ((1 : Nat) : Rat) = 1 := rfl
  rw [h2] at h1
  have h3 := (rtf_bd c j).1
  have h4 := (rtf_bd c k).2
  have h5 := sq_le (show 0 ≤ rtf c k + tk k by have := rtf_nn c k; have := tk_pos k; grind) (show rtf c j * rtf c j ≤ _ by grind)
  grind⟩
theorem rt_nn (c : Nat) : nn (Re.rt c) := nn_of fun k => rtf_nn c k
theorem rt_le (c : Nat) (k : Nat) : rtf c k ≤ (c : Rat) + 1 := by
  have h := (rtf_bd c k).1
  have h0 : (0 : Rat) ≤ (c : Rat) := Rat.natCast_nonneg
  refine sq_le (by grind) ?_
  have := Rat.mul_nonneg h0 h0
  grind
theorem rt_up (c : Nat) : nn ((Re.int c).add ((Re.rt c).mul (Re.rt c)).neg) := nn_of fun k => by
  have h := (rtf_bd c k).1
  show 0 ≤ ((c : Int) : Rat) + -(rtf c k * rtf c k)
  rw [Rat.intCast_natCast]
  grind
theorem rt_dn (c : Nat) : nn (((Re.rt c).mul (Re.rt c)).add (Re.int c).neg) := fun e he => by
  obtain ⟨N, h⟩ := arch (2 * (c + 1) + 1) he
  refine ⟨N, fun k hk => ?_⟩
  have h1 := h k hk
  have h2 := (rtf_bd c k).2
  have h3 := rt_le c k
  have h4 := tk_pos k
  have h5 : tk k ≤ 1 := by
    have hp := pow_posR k
    have : ((1 : Nat) : Rat) ≤ ((2 ^ k : Nat) : Rat) := Rat.natCast_le_natCast.2 (Nat.pow_pos (by decide))
    have h6 : ((1 : Nat) : Rat) = 1 := rfl
    rw [h6] at this
    unfold tk
    generalize ((2 ^ k : Nat) : Rat) = p at *
    obtain ⟨t, T⟩ : ∃ t, 1 / p = t := ⟨_, rfl⟩
    have hp0 : p ≠ 0 := by grind
    have e2 : 1 = t * p := by rw [← T]; grind
    have ht : 0 < t := by rw [← T]; exact rat_div (by decide) hp
    rw [T]
    have := Rat.mul_le_mul_of_nonneg_left this (show 0 ≤ t by grind)
    grind
  show -e ≤ rtf c k * rtf c k + -((c : Int) : Rat)
  rw [Rat.intCast_natCast]
  have e1 : ((2 * (c + 1) + 1 : Nat) : Rat) = 2 * ((c : Rat) + 1) + 1 := by
    rw [Rat.natCast_add, Rat.natCast_mul, Rat.natCast_add]; rfl
  rw [e1] at h1
  have k1 := Rat.mul_le_mul_of_nonneg_right h3 (show 0 ≤ tk k by grind)
  have k2 := Rat.mul_le_mul_of_nonneg_right h5 (show 0 ≤ tk k by grind)
  generalize rtf c k = r at *
  generalize tk k = t at *
  generalize (c : Rat) = d at *
  grind
end Go.Proofs.YtighahcllmoajaaGreat

namespace Go.Proofs.YtighahcllmoajaaGreat
open Go.RowKit

theorem ps_eq {x y : Re} (h : ps x) (e : ∀ k, x.f k = y.f k) : ps y := by
  obtain ⟨d, N, hd, h⟩ := h
  exact ⟨d, N, hd, fun k hk => by rw [← e]; exact h k hk⟩
theorem int_nn {z : Int} (h : 0 ≤ z) : nn (Re.int z) := nn_of fun _ => Rat.intCast_nonneg.2 h
theorem int_ps {z : Int} (h : 0 < z) : ps (Re.int z) := ⟨1, 0, by decide, fun _ _ => by
  have : (1 : Int) ≤ z := h
  exact Rat.intCast_le_intCast.2 this⟩
theorem nn_not {x : Re} (h : ¬ ps x) : nn x.neg := by
  rcases Classical.em (nn x.neg) with g | g
  · exact g
  · exact absurd (ps_of g) h
theorem ps_not2 {x : Re} (h : ps x.neg) : ¬ nn x := fun g => ps_not h (nn_eq g fun k => by show x.f k = - -x.f k; grind)
/-- Squares in order: so are the numbers. -/
theorem sq_ps {x y : Re} (hx : nn x) (hy : nn y) (h : ps ((x.mul x).add (y.mul y).neg)) : ps (x.add y.neg) := by
  apply Classical.byContradiction
  intro g
  have g1 := nn_mul (nn_not g) (nn_add hx hy)
  refine ps_not h (nn_eq g1 fun k => ?_)
  show -(x.f k + -y.f k) * (x.f k + y.f k) = -(x.f k * x.f k + -(y.f k * y.f k))
  grind
theorem sq_nn' {x y : Re} (hx : nn x) (hy : nn y) (h : nn ((x.mul x).add (y.mul y).neg)) : nn (x.add y.neg) := by
  rcases nn_or (x.add y.neg) with g | g
  · exact g
  · by_cases hp : ps (x.add y.neg).neg
    · exfalso
      have h1 : ps (x.add y) ∨ ¬ ps (x.add y) := Classical.em _
      have h2 : ps (y.add x) := by
        have : ps (((x.add y.neg).neg).add (x.add x)) := ps_add hp (nn_add hx hx)
        exact ps_eq this fun k => by show -(x.f k + -y.f k) + (x.f k + x.f k) = y.f k + x.f k; grind
      have h3 := ps_mul hp h2
      exact ps_not h3 (nn_eq h fun k => by show x.f k * x.f k + -(y.f k * y.f k) = -(-(x.f k + -y.f k) * (y.f k + x.f k)); grind)
    · exact nn_eq (nn_not hp) fun k => by show - -(x.f k + -y.f k) = x.f k + -y.f k; grind
/-- a + b √c. -/
def lin (a b : Int) (c : Nat) : Re := (Re.int a).add ((Re.int b).mul (Re.rt c))
theorem rtf_zero (k : Nat) : rtf 0 k = 0 := by
  unfold rtf
  rw [Nat.zero_mul]
  have : ((isq 0 : Nat) : Rat) = 0 := rfl
  rw [this, Rat.div_def, Rat.zero_mul]
theorem rt_ps {c : Nat} (h : 0 < c) : ps (Re.rt c) := by
  have h1 : ps ((((Re.rt c).mul (Re.rt c))).add ((Re.int 0).mul (Re.int 0)).neg) := by
    have := ps_add (int_ps (show (0 : Int) < (c : Int) by omega)) (rt_dn c)
    refine ps_eq this fun k => ?_
    show ((c : Int) : Rat) + (rtf c k * rtf c k + -((c : Int) : Rat)) = rtf c k * rtf c k + -(((0 : Int) : Rat) * ((0 : Int) : Rat))
    have : ((0 : Int) : Rat) = 0 := rfl
    rw [this]
    grind
  have h2 := sq_ps (rt_nn c) (int_nn (Int.le_refl 0)) h1
  refine ps_eq h2 fun k => ?_
  show rtf c k + -((0 : Int) : Rat) = rtf c k
  have : ((0 : Int) : Rat) = 0 := rfl
  rw [this]
  grind
theorem sgn_cases (z : Int) : (sgn z = 1 ∧ 0 < z) ∨ (sgn z = 0 ∧ z = 0) ∨ (sgn z = -1 ∧ z < 0) := by
  unfold sgn cmpZ
  rcases Int.lt_trichotomy z 0 with h | h | h
  · right; right; rw [if_pos h]; exact ⟨rfl, h⟩
  · right; left; rw [if_neg (by omega), if_pos h]; exact ⟨rfl, h⟩
  · left; rw [if_neg (by omega), if_neg (by omega)]; exact ⟨rfl, h⟩
theorem cmpZ_case (a b : Int) : (cmpZ a b = 1 ∧ b < a) ∨ (cmpZ a b = 0 ∧ a = b) ∨ (cmpZ a b = -1 ∧ a < b) := by
  unfold cmpZ
  rcases Int.lt_trichotomy a b with h | h | h
  · right; right; rw [if_pos h]; exact ⟨rfl, h⟩
  · right; left; rw [if_neg (by omega), if_pos h]; exact ⟨rfl, h⟩
  · left; rw [if_neg (by omega), if_neg (by omega)]; exact ⟨rfl, h⟩
theorem int_f (z : Int) (k : Nat) : (Re.int z).f k = (z : Rat) := rfl
theorem lin_f (a b : Int) (c k : Nat) : (lin a b c).f k = (a : Rat) + (b : Rat) * rtf c k := rfl
/-- A positive number is greater than a root that is less. -/
theorem lin_ps1 {a b : Int} {c : Nat} (ha : 0 < a) (hb : b < 0) (h : b * b * (c : Int) < a * a) : ps (lin a b c) := by
  have h1 : ps (((Re.int a).mul (Re.int a)).add (((Re.int (-b)).mul (Re.rt c)).mul ((Re.int (-b)).mul (Re.rt c))).neg) := by
    have := ps_add (int_ps (show 0 < a * a - b * b * (c : Int) by omega)) (nn_mul (nn_mul (int_nn (show 0 ≤ -b by omega)) (int_nn (show 0 ≤ -b by omega))) (rt_up c))
    refine ps_eq this fun k => ?_
    show ((a * a - b * b * (c : Int) : Int) : Rat) + ((-b : Int) : Rat) * ((-b : Int) : Rat) * (((c : Int) : Rat) + -(rtf c k * rtf c k)) = (a : Rat) * (a : Rat) + -(((-b : Int) : Rat) * rtf c k * (((-b : Int) : Rat) * rtf c k))
    rw [Rat.intCast_sub, Rat.intCast_mul, Rat.intCast_mul, Rat.intCast_mul, Rat.intCast_neg]
    grind
  have h2 := sq_ps (int_nn (Int.le_of_lt ha)) (nn_mul (int_nn (show 0 ≤ -b by omega)) (rt_nn c)) h1
  refine ps_eq h2 fun k => ?_
  show (a : Rat) + -(((-b : Int) : Rat) * rtf c k) = (a : Rat) + (b : Rat) * rtf c k
  rw [Rat.intCast_neg]
  grind
theorem lin_ps2 {a b : Int} {c : Nat} (ha : a < 0) (hb : 0 < b) (h : a * a < b * b * (c : Int)) : ps (lin a b c) := by
  have h1 : ps ((((Re.int b).mul (Re.rt c)).mul ((Re.int b).mul (Re.rt c))).add ((Re.int (-a)).mul (Re.int (-a))).neg) := by
    have := ps_add (int_ps (show 0 < b * b * (c : Int) - a * a by omega)) (nn_mul (nn_mul (int_nn (show 0 ≤ b by omega)) (int_nn (show 0 ≤ b by omega))) (rt_dn c))
    refine ps_eq this fun k => ?_
    show ((b * b * (c : Int) - a * a : Int) : Rat) + (b : Rat) * (b : Rat) * (rtf c k * rtf c k + -((c : Int) : Rat)) = (b : Rat) * rtf c k * ((b : Rat) * rtf c k) + -(((-a : Int) : Rat) * ((-a : Int) : Rat))
    rw [Rat.intCast_sub, Rat.intCast_mul, Rat.intCast_mul, Rat.intCast_mul, Rat.intCast_neg]
    grind
  have h2 := sq_ps (nn_mul (int_nn (show 0 ≤ b by omega)) (rt_nn c)) (int_nn (show 0 ≤ -a by omega)) h1
  refine ps_eq h2 fun k => ?_
  show (b : Rat) * rtf c k + -((-a : Int) : Rat) = (a : Rat) + (b : Rat) * rtf c k
  rw [Rat.intCast_neg]
  grind
theorem lin_z1 {a b : Int} {c : Nat} (ha : 0 < a) (hb : b < 0) (h : a * a = b * b * (c : Int)) : nn (lin a b c) ∧ nn (lin a b c).neg := by
  have e : ((a * a : Int) : Rat) = ((b * b * (c : Int) : Int) : Rat) := by rw [h]
  rw [Rat.intCast_mul, Rat.intCast_mul, Rat.intCast_mul] at e
  have n1 := int_nn (show 0 ≤ -b by omega)
  constructor
  · have h1 : nn (((Re.int a).mul (Re.int a)).add (((Re.int (-b)).mul (Re.rt c)).mul ((Re.int (-b)).mul (Re.rt c))).neg) := by
      refine nn_eq (nn_mul (nn_mul n1 n1) (rt_up c)) fun k => ?_
      show ((-b : Int) : Rat) * ((-b : Int) : Rat) * (((c : Int) : Rat) + -(rtf c k * rtf c k)) = (a : Rat) * (a : Rat) + -(((-b : Int) : Rat) * rtf c k * (((-b : Int) : Rat) * rtf c k))
      rw [Rat.intCast_neg]
      grind
    refine nn_eq (sq_nn' (int_nn (Int.le_of_lt ha)) (nn_mul n1 (rt_nn c)) h1) fun k => ?_
    show (a : Rat) + -(((-b : Int) : Rat) * rtf c k) = (a : Rat) + (b : Rat) * rtf c k
    rw [Rat.intCast_neg]
    grind
  · have h1 : nn ((((Re.int (-b)).mul (Re.rt c)).mul ((Re.int (-b)).mul (Re.rt c))).add ((Re.int a).mul (Re.int a)).neg) := by
      refine nn_eq (nn_mul (nn_mul n1 n1) (rt_dn c)) fun k => ?_
      show ((-b : Int) : Rat) * ((-b : Int) : Rat) * (rtf c k * rtf c k + -((c : Int) : Rat)) = ((-b : Int) : Rat) * rtf c k * (((-b : Int) : Rat) * rtf c k) + -((a : Rat) * (a : Rat))
      rw [Rat.intCast_neg]
      grind
    refine nn_eq (sq_nn' (nn_mul n1 (rt_nn c)) (int_nn (Int.le_of_lt ha)) h1) fun k => ?_
    show ((-b : Int) : Rat) * rtf c k + -(a : Rat) = -((a : Rat) + (b : Rat) * rtf c k)
    rw [Rat.intCast_neg]
    grind
theorem lin_neg (a b : Int) (c k : Nat) : (lin (-a) (-b) c).f k = (lin a b c).neg.f k := by
  show ((-a : Int) : Rat) + ((-b : Int) : Rat) * rtf c k = -((a : Rat) + (b : Rat) * rtf c k)
  rw [Rat.intCast_neg, Rat.intCast_neg]
  grind
theorem lin_pp {a b : Int} {c : Nat} (ha : 0 < a) (hb : 0 ≤ b ∨ c = 0) : ps (lin a b c) := by
  refine ps_add (int_ps ha) ?_
  rcases hb with hb | rfl
  · exact nn_mul (int_nn hb) (rt_nn c)
  · refine nn_of fun k => ?_
    show 0 ≤ (b : Rat) * rtf 0 k
    rw [rtf_zero, Rat.mul_zero]
    exact Rat.le_refl
theorem lin_pb {b : Int} {c : Nat} (hb : 0 < b) (hc : 0 < c) : ps (lin 0 b c) := by
  refine ps_eq (ps_mul (int_ps hb) (rt_ps hc)) fun k => ?_
  show (b : Rat) * rtf c k = ((0 : Int) : Rat) + (b : Rat) * rtf c k
  have : ((0 : Int) : Rat) = 0 := rfl
  rw [this]
  grind
/-- What sideZ says. -/
def Sg (s : Int) (x : Re) : Prop := (s = 1 ∧ ps x) ∨ (s = 0 ∧ nn x ∧ nn x.neg) ∨ (s = -1 ∧ ps x.neg)
theorem side_sg (a b : Int) (c : Nat) : Sg (sideZ a b (c : Int)) (lin a b c) := by
  have neg : ∀ {a b : Int}, ps (lin (-a) (-b) c) → ps (lin a b c).neg := fun h => ps_eq h (lin_neg _ _ c)
  have zz : ∀ {b : Int}, b = 0 ∨ c = 0 → nn (lin 0 b c) ∧ nn (lin 0 b c).neg := by
    intro b h
    have e : ∀ k, (lin 0 b c).f k = 0 := by
      intro k
      rw [lin_f]
      have : ((0 : Int) : Rat) = 0 := rfl
      rw [this]
      rcases h with rfl | rfl
      · rw [this]; grind
      · rw [rtf_zero]; grind
    exact ⟨nn_of fun k => by rw [e]; exact Rat.le_refl, nn_of fun k => by show 0 ≤ -(lin 0 b c).f k; rw [e]; decide⟩
  unfold sideZ
  rcases sgn_cases a with ⟨sa, ha⟩ | ⟨sa, ha⟩ | ⟨sa, ha⟩ <;> rcases sgn_cases b with ⟨sb, hb⟩ | ⟨sb, hb⟩ | ⟨sb, hb⟩ <;> rcases sgn_cases (c : Int) with ⟨sc, hc⟩ | ⟨sc, hc⟩ | ⟨sc, hc⟩ <;> rw [sa, sb, sc]
  all_goals first | omega | skip
  all_goals first | (rw [if_pos (by decide)]; first | exact .inl ⟨by decide, lin_pp ha (by omega)⟩ | (subst ha; first | exact .inl ⟨by decide, lin_pb hb (by omega)⟩ | exact .inr (.inl ⟨by decide, zz (by omega)⟩) | exact .inr (.inr ⟨by decide, neg (lin_pb (show 0 < -b by omega) (by omega))⟩)) | exact .inr (.inr ⟨by decide, neg (lin_pp (show 0 < -a by omega) (by omega))⟩)) | skip
  · rw [if_neg (by decide)]
    rcases cmpZ_case (a * a) (b * b * (c : Int)) with ⟨h1, h2⟩ | ⟨h1, h2⟩ | ⟨h1, h2⟩ <;> rw [h1]
    · exact .inl ⟨by decide, lin_ps1 ha hb h2⟩
    · exact .inr (.inl ⟨by decide, lin_z1 ha hb h2⟩)
    · exact .inr (.inr ⟨by decide, neg (lin_ps2 (show -a < 0 by omega) (show 0 < -b by omega) (by rw [Int.neg_mul_neg, Int.neg_mul_neg]; exact h2))⟩)
  · rw [if_neg (by decide)]
    rcases cmpZ_case (a * a) (b * b * (c : Int)) with ⟨h1, h2⟩ | ⟨h1, h2⟩ | ⟨h1, h2⟩ <;> rw [h1]
    · exact .inr (.inr ⟨by decide, neg (lin_ps1 (show 0 < -a by omega) (show -b < 0 by omega) (by rw [Int.neg_mul_neg, Int.neg_mul_neg]; exact h2))⟩)
    · have := lin_z1 (a := -a) (b := -b) (c := c) (by omega) (by omega) (by rw [Int.neg_mul_neg, Int.neg_mul_neg]; exact h2)
      refine .inr (.inl ⟨by decide, nn_eq this.2 fun k => ?_, nn_eq this.1 (lin_neg _ _ c)⟩)
      show -(lin (-a) (-b) c).f k = _
      rw [lin_neg]
      show - -(lin a b c).f k = _
      grind
    · exact .inl ⟨by decide, lin_ps2 ha hb h2⟩
/-- How two roots compare: A is the Add of the first one less that of the second one. -/
def cmpR (A s n d t m e : Int) : Int :=
  if sideZ (A * d) s (n * d) ≠ t then max (min (sideZ (A * d) s (n * d) - t) 1) (-1) else sideZ (A * d) s (n * d) * sideZ (A * A * d * e + n * e - m * d) (2 * A * s * e) (n * d)
/-- How much the first root is greater, times both denominators. -/
def dif (A s d t e : Int) (nd me : Nat) : Re := ((Re.int e).mul (lin (A * d) s nd)).add ((Re.int (d * t)).mul (Re.rt me)).neg
theorem dif_f (A s d t e : Int) (nd me k : Nat) : (dif A s d t e nd me).f k = (e : Rat) * ((A : Rat) * (d : Rat) + (s : Rat) * rtf nd k) + -((d : Rat) * (t : Rat) * rtf me k) := by
  show (e : Rat) * (((A * d : Int) : Rat) + (s : Rat) * rtf nd k) + -(((d * t : Int) : Rat) * rtf me k) = _
  rw [Rat.intCast_mul, Rat.intCast_mul]
/-- A root squared is its number, with its sign. -/
theorem eps {s : Int} {c : Nat} (hs : s = 1 ∨ s = -1 ∨ (s = 0 ∧ c = 0)) : ∃ x : Re, (∀ k, x.f k = (s : Rat) * (s : Rat) * (rtf c k * rtf c k) - (c : Rat)) ∧ nn x ∧ nn x.neg := by
  refine ⟨((Re.int (s * s)).mul ((Re.rt c).mul (Re.rt c))).add (Re.int (c : Int)).neg, fun k => ?_, ?_, ?_⟩
  · show ((s * s : Int) : Rat) * (rtf c k * rtf c k) + -((c : Int) : Rat) = _
    rw [Rat.intCast_mul, Rat.intCast_natCast]
    grind
  · rcases hs with rfl | rfl | ⟨rfl, rfl⟩
    · refine nn_eq (rt_dn c) fun k => ?_
      show rtf c k * rtf c k + -((c : Int) : Rat) = ((1 * 1 : Int) : Rat) * (rtf c k * rtf c k) + -((c : Int) : Rat)
      have : ((1 * 1 : Int) : Rat) = 1 := rfl
      rw [this]; grind
    · refine nn_eq (rt_dn c) fun k => ?_
      show rtf c k * rtf c k + -((c : Int) : Rat) = ((-1 * -1 : Int) : Rat) * (rtf c k * rtf c k) + -((c : Int) : Rat)
      have : ((-1 * -1 : Int) : Rat) = 1 := rfl
      rw [this]; grind
    · refine nn_of fun k => ?_
      show 0 ≤ ((0 * 0 : Int) : Rat) * (rtf 0 k * rtf 0 k) + -(((0 : Nat) : Int) : Rat)
      have : ((0 * 0 : Int) : Rat) = 0 := rfl
      have h2 : (((0 : Nat) : Int) : Rat) = 0 := rfl
      rw [this, h2]; grind
  · rcases hs with rfl | rfl | ⟨rfl, rfl⟩
    · refine nn_eq (rt_up c) fun k => ?_
      show ((c : Int) : Rat) + -(rtf c k * rtf c k) = -(((1 * 1 : Int) : Rat) * (rtf c k * rtf c k) + -((c : Int) : Rat))
      have : ((1 * 1 : Int) : Rat) = 1 := rfl
      rw [this]; grind
    · refine nn_eq (rt_up c) fun k => ?_
      show ((c : Int) : Rat) + -(rtf c k * rtf c k) = -(((-1 * -1 : Int) : Rat) * (rtf c k * rtf c k) + -((c : Int) : Rat))
      have : ((-1 * -1 : Int) : Rat) = 1 := rfl
      rw [this]; grind
    · refine nn_of fun k => ?_
      show 0 ≤ -(((0 * 0 : Int) : Rat) * (rtf 0 k * rtf 0 k) + -(((0 : Nat) : Int) : Rat))
      have : ((0 * 0 : Int) : Rat) = 0 := rfl
      have h2 : (((0 : Nat) : Int) : Rat) = 0 := rfl
      rw [this, h2]; grind
theorem nn_sub {x y : Re} (h : nn x) (g : nn y.neg) : nn (x.add y.neg) := nn_add h g
theorem neg2 {x : Re} (k : Nat) : x.neg.neg.f k = x.f k := by show - -x.f k = x.f k; grind
/-- Of two numbers of one sign, the one with the greater square is greater. -/
theorem cmp_sq {x y g a b : Re} {m p q t : Int} (hm : 0 < m) (hp : 0 ≤ p) (hq : 0 ≤ q) (hx : nn x) (hy : nn y) (hg : Sg t g) (ha : nn a ∧ nn a.neg) (hb : nn b ∧ nn b.neg)
    (e : ∀ k, x.f k * x.f k - y.f k * y.f k = (m : Rat) * g.f k + (p : Rat) * a.f k - (q : Rat) * b.f k) : Sg t (x.add y.neg) := by
  have na : ∀ {z : Re} {p : Int}, 0 ≤ p → nn z → nn ((Re.int p).mul z) := fun h g => nn_mul (int_nn h) g
  have k1 : ∀ k, (((Re.int m).mul g).add (((Re.int p).mul a).add ((Re.int q).mul b.neg))).f k = ((x.mul x).add (y.mul y).neg).f k := fun k => by
    have := e k
    show (m : Rat) * g.f k + ((p : Rat) * a.f k + (q : Rat) * -b.f k) = x.f k * x.f k + -(y.f k * y.f k)
    grind
  have k2 : ∀ k, (((Re.int m).mul g.neg).add (((Re.int p).mul a.neg).add ((Re.int q).mul b))).f k = ((y.mul y).add (x.mul x).neg).f k := fun k => by
    have := e k
    show (m : Rat) * -g.f k + ((p : Rat) * -a.f k + (q : Rat) * b.f k) = y.f k * y.f k + -(x.f k * x.f k)
    grind
  have sw : ∀ k, (y.add x.neg).f k = (x.add y.neg).neg.f k := fun k => by
    show y.f k + -x.f k = -(x.f k + -y.f k)
    grind
  have r1 := nn_add (na hp ha.1) (na hq hb.2)
  have r2 := nn_add (na hp ha.2) (na hq hb.1)
  rcases hg with ⟨rfl, h⟩ | ⟨rfl, h, h'⟩ | ⟨rfl, h⟩
  · exact .inl ⟨rfl, sq_ps hx hy (ps_eq (ps_add (ps_mul (int_ps hm) h) r1) k1)⟩
  · refine .inr (.inl ⟨rfl, sq_nn' hx hy (nn_eq (nn_add (na (Int.le_of_lt hm) h) r1) k1), ?_⟩)
    exact nn_eq (sq_nn' hy hx (nn_eq (nn_add (na (Int.le_of_lt hm) h') r2) k2)) sw
  · exact .inr (.inr ⟨rfl, ps_eq (sq_ps hy hx (ps_eq (ps_add (ps_mul (int_ps hm) h) r2) k2)) sw⟩)
theorem Sg.eq {s : Int} {x y : Re} (h : Sg s x) (e : ∀ k, x.f k = y.f k) : Sg s y := by
  have e' : ∀ k, x.neg.f k = y.neg.f k := fun k => by show -x.f k = -y.f k; rw [e]
  rcases h with ⟨h, g⟩ | ⟨h, g, g'⟩ | ⟨h, g⟩
  · exact .inl ⟨h, ps_eq g e⟩
  · exact .inr (.inl ⟨h, nn_eq g e, nn_eq g' e'⟩)
  · exact .inr (.inr ⟨h, ps_eq g e'⟩)
theorem Sg.neg {s : Int} {x : Re} (h : Sg s x) : Sg (-s) x.neg := by
  rcases h with ⟨rfl, g⟩ | ⟨rfl, g, g'⟩ | ⟨rfl, g⟩
  · exact .inr (.inr ⟨rfl, ps_eq g fun k => (neg2 k).symm⟩)
  · exact .inr (.inl ⟨rfl, g', nn_eq g fun k => (neg2 k).symm⟩)
  · exact .inl ⟨rfl, g⟩
theorem Sg.uniq {s t : Int} {x : Re} (h : Sg s x) (g : Sg t x) : s = t := by
  rcases h with ⟨rfl, h⟩ | ⟨rfl, h, h'⟩ | ⟨rfl, h⟩ <;> rcases g with ⟨rfl, g⟩ | ⟨rfl, g, g'⟩ | ⟨rfl, g⟩
  · rfl
  · exact absurd g' (ps_not h)
  · exact absurd (ps_nn h) (ps_not2 g)
  · exact absurd h' (ps_not g)
  · rfl
  · exact absurd h (ps_not2 g)
  · exact absurd (ps_nn g) (ps_not2 h)
  · exact absurd g (ps_not2 h)
  · rfl
theorem Sg.mul {s m : Int} {x : Re} (h : Sg s x) (hm : 0 < m) : Sg s ((Re.int m).mul x) := by
  have e : ∀ k, ((Re.int m).mul x.neg).f k = ((Re.int m).mul x).neg.f k := fun k => by show (m : Rat) * -x.f k = -((m : Rat) * x.f k); grind
  rcases h with ⟨rfl, g⟩ | ⟨rfl, g, g'⟩ | ⟨rfl, g⟩
  · exact .inl ⟨rfl, ps_mul (int_ps hm) g⟩
  · exact .inr (.inl ⟨rfl, nn_mul (int_nn (Int.le_of_lt hm)) g, nn_eq (nn_mul (int_nn (Int.le_of_lt hm)) g') e⟩)
  · exact .inr (.inr ⟨rfl, ps_eq (ps_mul (int_ps hm) g) e⟩)
/-- A sum of numbers of two signs that are not opposite. -/
theorem Sg.plus {s t r : Int} {x y : Re} (h : Sg s x) (g : Sg t y) (e : (s = 1 ∧ 0 ≤ t ∧ r = 1) ∨ (0 ≤ s ∧ t = 1 ∧ r = 1) ∨ (s = 0 ∧ t = 0 ∧ r = 0) ∨ (s = -1 ∧ t ≤ 0 ∧ r = -1) ∨ (s ≤ 0 ∧ t = -1 ∧ r = -1)) : Sg r (x.add y) := by
  have c1 : ∀ k, (y.add x).f k = (x.add y).f k := fun k => by show y.f k + x.f k = x.f k + y.f k; grind
  have c2 : ∀ k, (x.neg.add y.neg).f k = (x.add y).neg.f k := fun k => by show -x.f k + -y.f k = -(x.f k + y.f k); grind
  have c3 : ∀ k, (y.neg.add x.neg).f k = (x.add y).neg.f k := fun k => by show -y.f k + -x.f k = -(x.f k + y.f k); grind
  rcases h with ⟨rfl, h⟩ | ⟨rfl, h, h'⟩ | ⟨rfl, h⟩ <;> rcases g with ⟨rfl, g⟩ | ⟨rfl, g, g'⟩ | ⟨rfl, g⟩
  · obtain rfl : r = 1 := by omega
    exact .inl ⟨rfl, ps_add h (ps_nn g)⟩
  · obtain rfl : r = 1 := by omega
    exact .inl ⟨rfl, ps_add h g⟩
  · omega
  · obtain rfl : r = 1 := by omega
    exact .inl ⟨rfl, ps_eq (ps_add g h) c1⟩
  · obtain rfl : r = 0 := by omega
    exact .inr (.inl ⟨rfl, nn_add h g, nn_eq (nn_add h' g') c2⟩)
  · obtain rfl : r = -1 := by omega
    exact .inr (.inr ⟨rfl, ps_eq (ps_add g h') c3⟩)
  · omega
  · obtain rfl : r = -1 := by omega
    exact .inr (.inr ⟨rfl, ps_eq (ps_add h g') c2⟩)
  · obtain rfl : r = -1 := by omega
    exact .inr (.inr ⟨rfl, ps_eq (ps_add h (ps_nn g)) c2⟩)
theorem sg_bd {s : Int} {x : Re} (h : Sg s x) : s = 1 ∨ s = 0 ∨ s = -1 := by
  rcases h with ⟨h, _⟩ | ⟨h, _⟩ | ⟨h, _⟩ <;> omega
theorem sg_root {t : Int} {c : Nat} (ht : (t = 1 ∧ 0 < c) ∨ (t = -1 ∧ 0 < c) ∨ (t = 0 ∧ c = 0)) : Sg t ((Re.int t).mul (Re.rt c)) := by
  rcases ht with ⟨rfl, h⟩ | ⟨rfl, h⟩ | ⟨rfl, rfl⟩
  · exact .inl ⟨rfl, ps_mul (int_ps (by decide)) (rt_ps h)⟩
  · refine .inr (.inr ⟨rfl, ps_eq (rt_ps h) fun k => ?_⟩)
    show rtf c k = -(((-1 : Int) : Rat) * rtf c k)
    have : ((-1 : Int) : Rat) = -1 := rfl
    rw [this]; grind
  · refine .inr (.inl ⟨rfl, nn_of fun k => ?_, nn_of fun k => ?_⟩)
    · show 0 ≤ ((0 : Int) : Rat) * rtf 0 k
      rw [rtf_zero, Rat.mul_zero]; exact Rat.le_refl
    · show 0 ≤ -(((0 : Int) : Rat) * rtf 0 k)
      rw [rtf_zero, Rat.mul_zero]; decide
/-- Comparing tells the sign of the difference. -/
theorem cmp_sg {A s t : Int} {n d m e : Nat} (hd : 0 < d) (he : 0 < e) (hs : (s = 1 ∧ 0 < n) ∨ (s = -1 ∧ 0 < n) ∨ (s = 0 ∧ n = 0)) (ht : (t = 1 ∧ 0 < m) ∨ (t = -1 ∧ 0 < m) ∨ (t = 0 ∧ m = 0)) :
    Sg (cmpR A s n d t m e) (dif A s d t e (n * d) (m * e)) := by
  have hu := side_sg (A * d) s (n * d)
  have hw := side_sg (A * A * d * e + n * e - m * d) (2 * A * s * e) (n * d)
  rw [Int.natCast_mul] at hu hw
  have hr : (t = 1 ∧ 0 < m * e) ∨ (t = -1 ∧ 0 < m * e) ∨ (t = 0 ∧ m * e = 0) := by
    rcases ht with ⟨h1, h2⟩ | ⟨h1, h2⟩ | ⟨h1, h2⟩
    · exact .inl ⟨h1, Nat.mul_pos h2 he⟩
    · exact .inr (.inl ⟨h1, Nat.mul_pos h2 he⟩)
    · exact .inr (.inr ⟨h1, by rw [h2, Nat.zero_mul]⟩)
  have hv := sg_root hr
  have hes : s = 1 ∨ s = -1 ∨ (s = 0 ∧ n * d = 0) := by
    rcases hs with ⟨h1, _⟩ | ⟨h1, _⟩ | ⟨h1, h2⟩
    · exact .inl h1
    · exact .inr (.inl h1)
    · exact .inr (.inr ⟨h1, by rw [h2, Nat.zero_mul]⟩)
  have het : t = 1 ∨ t = -1 ∨ (t = 0 ∧ m * e = 0) := by omega
  obtain ⟨ea, Ea, ha⟩ := eps hes
  obtain ⟨eb, Eb, hb⟩ := eps het
  have hd' : (0 : Int) < (d : Int) := by omega
  have he' : (0 : Int) < (e : Int) := by omega
  -- the two parts
  have hX := hu.mul he'
  have hY := hv.mul hd'
  have eX : ∀ k, ((Re.int e).mul (lin (A * d) s (n * d))).f k = (e : Rat) * ((A : Rat) * (d : Rat) + (s : Rat) * rtf (n * d) k) := fun k => by
    show ((e : Int) : Rat) * (((A * d : Int) : Rat) + (s : Rat) * rtf (n * d) k) = _
    rw [Rat.intCast_mul, Rat.intCast_natCast, Rat.intCast_natCast]
  have eY : ∀ k, ((Re.int d).mul ((Re.int t).mul (Re.rt (m * e)))).f k = (d : Rat) * ((t : Rat) * rtf (m * e) k) := fun k => by
    show ((d : Int) : Rat) * ((t : Rat) * rtf (m * e) k) = _
    rw [Rat.intCast_natCast]
  have eD : ∀ k, (((Re.int e).mul (lin (A * d) s (n * d))).add ((Re.int d).mul ((Re.int t).mul (Re.rt (m * e)))).neg).f k = (dif A s d t e (n * d) (m * e)).f k := fun k => by
    rw [dif_f]
    show ((Re.int e).mul (lin (A * d) s (n * d))).f k + -((Re.int d).mul ((Re.int t).mul (Re.rt (m * e)))).f k = _
    rw [eX, eY, Rat.intCast_natCast, Rat.intCast_natCast]
    grind
  have eG : ∀ k, (lin (A * A * d * e + n * e - m * d) (2 * A * s * e) (n * d)).f k = (A : Rat) * (A : Rat) * (d : Rat) * (e : Rat) + (n : Rat) * (e : Rat) - (m : Rat) * (d : Rat) + 2 * (A : Rat) * (s : Rat) * (e : Rat) * rtf (n * d) k := fun k => by
    rw [lin_f]
    have h2 : ((2 : Int) : Rat) = 2 := rfl
    simp only [Rat.intCast_add, Rat.intCast_sub, Rat.intCast_mul, Rat.intCast_natCast, h2]
  refine Sg.eq ?_ eD
  unfold cmpR
  generalize sideZ (A * d) s (n * d) = u at *
  generalize sideZ (A * A * d * e + n * e - m * d) (2 * A * s * e) (n * d) = w at *
  have bu := sg_bd hu
  have bv := sg_bd hv
  have bw := sg_bd hw
  by_cases hne : u ≠ t
  · rw [if_pos hne]
    refine Sg.plus hX hY.neg ?_
    omega
  · rw [if_neg hne]
    obtain rfl : u = t := by omega
    rcases bu with h1 | h1 | h1
    · subst h1
      rw [Int.one_mul]
      refine cmp_sq (m := d * e) (p := e * e) (q := d * d) (g := lin (A * A * d * e + n * e - m * d) (2 * A * s * e) (n * d)) (a := ea) (b := eb) (Int.mul_pos hd' he') (Int.mul_nonneg (by omega) (by omega)) (Int.mul_nonneg (by omega) (by omega)) ?_ ?_ hw ha hb ?_
      · rcases hX with ⟨_, h⟩ | ⟨h, _⟩ | ⟨h, _⟩
        · exact ps_nn h
        · omega
        · omega
      · rcases hY with ⟨_, h⟩ | ⟨h, _⟩ | ⟨h, _⟩
        · exact ps_nn h
        · omega
        · omega
      · intro k
        rw [eX, eY, eG, Ea, Eb]
        have h1 : ((1 : Int) : Rat) = 1 := rfl
        simp only [Rat.intCast_mul, Rat.intCast_natCast, Rat.natCast_mul, h1]
        grind
    · subst h1
      rw [Int.zero_mul]
      refine Sg.plus hX hY.neg ?_
      omega
    · subst h1
      have hw' : Sg w (lin (A * A * d * e + n * e - m * d) (2 * A * s * e) (n * d)) := hw
      have key := cmp_sq (x := ((Re.int e).mul (lin (A * d) s (n * d))).neg) (y := ((Re.int d).mul ((Re.int (-1)).mul (Re.rt (m * e)))).neg) (m := d * e) (p := e * e) (q := d * d) (g := lin (A * A * d * e + n * e - m * d) (2 * A * s * e) (n * d)) (a := ea) (b := eb) (Int.mul_pos hd' he') (Int.mul_nonneg (by omega) (by omega)) (Int.mul_nonneg (by omega) (by omega)) ?_ ?_ hw ha hb ?_
      · have e1 : -1 * w = -w := by omega
        rw [e1]
        refine Sg.eq key.neg fun k => ?_
        show -(-((Re.int e).mul (lin (A * d) s (n * d))).f k + - -((Re.int d).mul ((Re.int (-1)).mul (Re.rt (m * e)))).f k) = ((Re.int e).mul (lin (A * d) s (n * d))).f k + -((Re.int d).mul ((Re.int (-1)).mul (Re.rt (m * e)))).f k
        grind
      · rcases hX with ⟨h, _⟩ | ⟨h, _⟩ | ⟨_, h⟩
        · omega
        · omega
        · exact ps_nn h
      · rcases hY with ⟨h, _⟩ | ⟨h, _⟩ | ⟨_, h⟩
        · omega
        · omega
        · exact ps_nn h
      · intro k
        show -((Re.int e).mul (lin (A * d) s (n * d))).f k * -((Re.int e).mul (lin (A * d) s (n * d))).f k - -((Re.int d).mul ((Re.int (-1)).mul (Re.rt (m * e)))).f k * -((Re.int d).mul ((Re.int (-1)).mul (Re.rt (m * e)))).f k = _
        rw [eX, eY, eG, Ea, Eb]
        have h1 : ((-1 : Int) : Rat) = -1 := rfl
        simp only [Rat.intCast_mul, Rat.intCast_natCast, Rat.natCast_mul, h1]
        grind
end Go.Proofs.YtighahcllmoajaaGreat
