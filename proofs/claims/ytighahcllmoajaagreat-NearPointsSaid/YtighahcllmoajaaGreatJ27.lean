/- Plain: roots in lowest terms. | Plain: comparing right roots is an order. | Plain: spots, distances and nearest points, as near and etchantref08 have them. | Steps: slice literals of numbers. | More steps: new variables of six cells (a root) that a statement fills. -/
import Derived.Test.YtighahcllmoajaaGreatJ26
import Derived.Test.YtighahcllmoajaaGreatJ22
import Derived.Test.YtighahcllmoajaaGreatJ20
import Derived.Test.YtighahcllmoajaaGreatJ19
import Derived.Test.YtighahcllmoajaaGreatJ05
import Derived.Great.BuildSlice
set_option linter.unusedVariables false
set_option linter.unusedSimpArgs false

namespace Go.Proofs.YtighahcllmoajaaGreat
open Go.RowKit

/-- A root as the program has it. -/
structure Rt where
  add : Int
  s : Int
  n : Nm
  d : Nm
def Rt.no : Rt := ⟨0, 0, zero, zero⟩
def ofBad (s : Int) (n d : Nm) : Bool := decide (s < -1) || decide (1 < s) || !n.right || !d.right || n.neg || decide (d.z ≤ 0)
def gcdN (n d : Nm) : Int := ((Nat.gcd (val n.d) (val d.d) : Nat) : Int)
/-- What Of makes. -/
def ofP (add s : Int) (n d : Nm) : Rt × Bool :=
  if ofBad s n d then (Rt.no, false)
  else if s = 0 ∨ n.z = 0 then (⟨add, 0, zero, ofZ 1⟩, true)
  else if 8 < max (ofZ (n.z / gcdN n d)).d.length (ofZ (d.z / gcdN n d)).d.length then (Rt.no, false)
  else (⟨add, s, ofZ (n.z / gcdN n d), ofZ (d.z / gcdN n d)⟩, true)
def Rt.right (a : Rt) : Bool := (ofP a.add a.s a.n a.d).2 && ((ofP a.add a.s a.n a.d).1.s == a.s && (cmpP a.n (ofP a.add a.s a.n a.d).1.n == 0 && cmpP a.d (ofP a.add a.s a.n a.d).1.d == 0))
theorem ofBad_false {s : Int} {n d : Nm} (h : ofBad s n d = false) : -1 ≤ s ∧ s ≤ 1 ∧ n.right = true ∧ d.right = true ∧ n.neg = false ∧ 0 < d.z := by
  simp only [ofBad, Bool.or_eq_false_iff, decide_eq_false_iff_not, Bool.not_eq_false'] at h
  obtain ⟨⟨⟨⟨⟨h1, h2⟩, h3⟩, h4⟩, h5⟩, h6⟩ := h
  exact ⟨by omega, by omega, h3, h4, h5, by omega⟩
theorem ofBad_of {s : Int} {n d : Nm} (h1 : -1 ≤ s) (h2 : s ≤ 1) (h3 : n.right = true) (h4 : d.right = true) (h5 : n.neg = false) (h6 : 0 < d.z) : ofBad s n d = false := by
  simp only [ofBad, Bool.or_eq_false_iff, decide_eq_false_iff_not, Bool.not_eq_false']
  exact ⟨⟨⟨⟨⟨by omega, by omega⟩, h3⟩, h4⟩, h5⟩, by omega⟩
theorem z_pos {n : Nm} (h : n.neg = false) : n.z = (val n.d : Int) := by unfold Nm.z; rw [h]; rfl
theorem d_pos {d : Nm} (h : 0 < d.z) : d.z = (val d.d : Int) ∧ 0 < val d.d := by
  unfold Nm.z at *
  split at h
  · omega
  · rename_i g
    rw [if_neg g]
    exact ⟨rfl, by omega⟩
theorem small_div {x : Nm} (hd : Dig x.d) (hr : x.right = true) (g : Nat) : small ((val x.d / g : Nat) : Int) = true := by
  refine small_of_le hd hr ?_
  rw [Int.natAbs_natCast]
  exact Nat.div_le_self _ _
/-- The main case of Of, in whole numbers. -/
theorem ofP_main {add s : Int} {n d : Nm} (hn : n.neg = false) (hd : 0 < d.z) (hb : ofBad s n d = false) (h0 : ¬ (s = 0 ∨ n.z = 0)) :
    ofP add s n d = if 8 < max (ofZ ((val n.d / Nat.gcd (val n.d) (val d.d) : Nat) : Int)).d.length (ofZ ((val d.d / Nat.gcd (val n.d) (val d.d) : Nat) : Int)).d.length then (Rt.no, false)
      else (⟨add, s, ofZ ((val n.d / Nat.gcd (val n.d) (val d.d) : Nat) : Int), ofZ ((val d.d / Nat.gcd (val n.d) (val d.d) : Nat) : Int)⟩, true) := by
  unfold ofP
  rw [hb, if_neg (by simp), if_neg h0, z_pos hn, (d_pos hd).1]
  rfl
theorem cmpP_self {a : Nm} (h : a.right = true) : cmpP a a = 0 := by
  unfold cmpP cmpZ
  rw [h]
  simp
theorem right_of {a : Rt} (h : ofP a.add a.s a.n a.d = (a, true)) (h1 : a.n.right = true) (h2 : a.d.right = true) : a.right = true := by
  unfold Rt.right
  rw [h]
  simp [cmpP_self h1, cmpP_self h2]
/-- What is known of a right root. -/
structure Rt.Ok (a : Rt) : Prop where
  sl : -1 ≤ a.s
  su : a.s ≤ 1
  nr : a.n.right = true
  dr : a.d.right = true
  nn : a.n.neg = false
  dn : a.d.neg = false
  dp : 0 < val a.d.d
  nl : a.n.d.length ≤ 8
  dl : a.d.d.length ≤ 8
  n0 : a.s = 0 → val a.n.d = 0 ∧ val a.d.d = 1
  n1 : a.s ≠ 0 → 0 < val a.n.d
  co : Nat.gcd (val a.n.d) (val a.d.d) = 1
theorem one_right : (ofZ 1).right = true := by decide +kernel
theorem val_one_ofZ : val (ofZ 1).d = 1 := by rw [val_ofZ]; rfl
theorem zero_right0 : zero.right = true := rfl
theorem ofZ_one_len : (ofZ 1).d.length = 1 := by
  have : (ofZ 1).d = [1] := by simp only [ofZ]; rw [show (1 : Int).natAbs = 1 from rfl, digs_pos (by decide), show 1 / 4294967296 = 0 from rfl, digs_zero]
  rw [this]; rfl
/-- What Of makes is right. -/
theorem ofP_ok {add s : Int} {n d : Nm} (hdn : Dig n.d) (hdd : Dig d.d) {a : Rt} (h : ofP add s n d = (a, true)) : a.Ok ∧ ofP a.add a.s a.n a.d = (a, true) ∧ a.add = add := by
  cases hb : ofBad s n d with
  | true => unfold ofP at h; rw [hb] at h; simp at h
  | false =>
    obtain ⟨s1, s2, rn, rd, nn, dp⟩ := ofBad_false hb
    by_cases h0 : s = 0 ∨ n.z = 0
    · unfold ofP at h
      rw [hb, if_neg (by simp), if_pos h0] at h
      obtain rfl : (⟨add, 0, zero, ofZ 1⟩ : Rt) = a := congrArg Prod.fst h
      refine ⟨⟨show (-1 : Int) ≤ 0 by decide, show (0 : Int) ≤ 1 by decide, zero_right0, one_right, rfl, by simp [ofZ], by rw [val_one_ofZ]; decide, Nat.zero_le _, by rw [ofZ_one_len]; decide, fun _ => ⟨rfl, val_one_ofZ⟩, fun g => absurd rfl g, ?_⟩, ?_, rfl⟩
      · show Nat.gcd (val zero.d) (val (ofZ 1).d) = 1
        rw [val_one_ofZ, Nat.gcd_one_right]
      · unfold ofP
        rw [ofBad_of (show (-1 : Int) ≤ 0 by decide) (show (0 : Int) ≤ 1 by decide) zero_right0 one_right rfl (by rw [ofZ_z]; decide), if_neg (by simp), if_pos (.inl rfl)]
    · rw [ofP_main nn dp hb h0] at h
      split at h
      · simp at h
      · rename_i hl
        obtain ⟨ed, pd⟩ := d_pos dp
        have en := z_pos nn
        have hn0 : 0 < val n.d := by
          rcases Nat.eq_zero_or_pos (val n.d) with g | g
          · exfalso; apply h0; right; rw [en, g]; rfl
          · exact g
        have sN := small_div hdn rn (Nat.gcd (val n.d) (val d.d))
        have sD := small_div hdd rd (Nat.gcd (val n.d) (val d.d))
        have hg : 0 < Nat.gcd (val n.d) (val d.d) := Nat.gcd_pos_of_pos_left _ hn0
        have hco : Nat.gcd (val n.d / Nat.gcd (val n.d) (val d.d)) (val d.d / Nat.gcd (val n.d) (val d.d)) = 1 := by
          rw [Nat.gcd_div (Nat.gcd_dvd_left _ _) (Nat.gcd_dvd_right _ _), Nat.div_self hg]
        have pN : 0 < val n.d / Nat.gcd (val n.d) (val d.d) := Nat.div_pos (Nat.gcd_le_left _ hn0) hg
        have pD : 0 < val d.d / Nat.gcd (val n.d) (val d.d) := Nat.div_pos (Nat.gcd_le_right _ pd) hg
        generalize val n.d / Nat.gcd (val n.d) (val d.d) = N at *
        generalize val d.d / Nat.gcd (val n.d) (val d.d) = D at *
        obtain rfl : (⟨add, s, ofZ (N : Int), ofZ (D : Int)⟩ : Rt) = a := congrArg Prod.fst h
        have vN : val (ofZ (N : Int)).d = N := by rw [val_ofZ]; rfl
        have vD : val (ofZ (D : Int)).d = D := by rw [val_ofZ]; rfl
        refine ⟨⟨s1, s2, ofZ_right sN, ofZ_right sD, neg_ofZ, neg_ofZ, by rw [vD]; exact pD, by show (ofZ (N : Int)).d.length ≤ 8; omega, by show (ofZ (D : Int)).d.length ≤ 8; omega, fun g => absurd (.inl g) h0, fun _ => by rw [vN]; exact pN, by rw [vN, vD]; exact hco⟩, ?_, rfl⟩
        show ofP add s (ofZ (N : Int)) (ofZ (D : Int)) = _
        rw [ofP_main neg_ofZ (by rw [ofZ_z]; omega) (ofBad_of s1 s2 (ofZ_right sN) (ofZ_right sD) neg_ofZ (by rw [ofZ_z]; omega)) (by rw [ofZ_z]; intro g; rcases g with g | g; exact h0 (.inl g); omega), vN, vD, hco, Nat.div_one, Nat.div_one, if_neg hl]
/-- A right root is what Of makes of it. -/
theorem right_ok {a : Rt} (hdn : Dig a.n.d) (hdd : Dig a.d.d) (h : a.right = true) : a.Ok ∧ ofP a.add a.s a.n a.d = (a, true) := by
  obtain ⟨b, hb⟩ : ∃ b, ofP a.add a.s a.n a.d = b := ⟨_, rfl⟩
  obtain ⟨b, ok⟩ := b
  have hr := h
  unfold Rt.right at hr
  rw [hb] at hr ⊢
  simp only [Bool.and_eq_true, beq_iff_eq] at hr
  obtain ⟨rfl, h1, h2, h3⟩ := hr
  obtain ⟨k1, _, k3⟩ := ofP_ok hdn hdd hb
  have hbad : ofBad a.s a.n a.d = false := by
    cases hq : ofBad a.s a.n a.d with
    | false => rfl
    | true => unfold ofP at hb; rw [hq] at hb; simp at hb
  obtain ⟨_, _, rn, rd, _, _⟩ := ofBad_false hbad
  have eqz : ∀ {x y : Nm}, Dig x.d → x.right = true → y.right = true → (∃ z, y = ofZ z) → cmpP x y = 0 → x = y := by
    rintro x y hx rx ry ⟨z, rfl⟩ hc
    unfold cmpP cmpZ at hc
    rw [rx, ry] at hc
    have hz : x.z = (ofZ z).z := by
      simp only [Bool.and_self, if_true] at hc
      split at hc
      · omega
      · split at hc
        · assumption
        · omega
    rw [ofZ_z] at hz
    rw [← ofZ_of_right hx rx, hz]
  have hform : (∃ z, b.n = ofZ z) ∧ ∃ z, b.d = ofZ z := by
    unfold ofP at hb
    rw [hbad, if_neg (by simp)] at hb
    split at hb
    · obtain rfl : (⟨a.add, 0, zero, ofZ 1⟩ : Rt) = b := congrArg Prod.fst hb
      exact ⟨⟨0, lit_0.symm⟩, ⟨1, rfl⟩⟩
    · split at hb
      · simp at hb
      · obtain rfl := congrArg Prod.fst hb
        exact ⟨⟨_, rfl⟩, ⟨_, rfl⟩⟩
  have e1 := eqz hdn rn k1.nr hform.1 h2
  have e2 := eqz hdd rd k1.dr hform.2 h3
  have : b = a := by
    cases a; cases b
    simp only at *
    subst e1 e2 h1 k3
    rfl
  subst this
  exact ⟨k1, rfl⟩
end Go.Proofs.YtighahcllmoajaaGreat

namespace Go.Proofs.YtighahcllmoajaaGreat
open Go.RowKit

def cmpRt (a b : Rt) : Int := if a.right && b.right then cmpR (a.add - b.add) a.s a.n.z a.d.z b.s b.n.z b.d.z else 0
/-- A root's value, times its denominator. -/
def rv (a : Rt) : Re := lin (a.add * (val a.d.d : Int)) a.s (val a.n.d * val a.d.d)
theorem rv_f (a : Rt) (k : Nat) : (rv a).f k = (a.add : Rat) * (val a.d.d : Rat) + (a.s : Rat) * rtf (val a.n.d * val a.d.d) k := by
  unfold rv
  rw [lin_f, Rat.intCast_mul, Rat.intCast_natCast]
def mul (z : Int) (x : Re) : Re := (Re.int z).mul x
theorem mul_f (z : Int) (x : Re) (k : Nat) : (mul z x).f k = (z : Rat) * x.f k := rfl
theorem add_f (x y : Re) (k : Nat) : (x.add y).f k = x.f k + y.f k := rfl
theorem neg_f (x : Re) (k : Nat) : x.neg.f k = -x.f k := rfl
/-- The difference of two roots, times both denominators. -/
def df (a b : Rt) : Re := (mul (val b.d.d : Int) (rv a)).add (mul (val a.d.d : Int) (rv b)).neg
theorem df_f (a b : Rt) (k : Nat) : (df a b).f k = (val b.d.d : Rat) * ((a.add : Rat) * (val a.d.d : Rat) + (a.s : Rat) * rtf (val a.n.d * val a.d.d) k) - (val a.d.d : Rat) * ((b.add : Rat) * (val b.d.d : Rat) + (b.s : Rat) * rtf (val b.n.d * val b.d.d) k) := by
  unfold df
  rw [add_f, neg_f, mul_f, mul_f, rv_f, rv_f, Rat.intCast_natCast, Rat.intCast_natCast]
  grind
theorem Rt.Ok.shape {a : Rt} (h : a.Ok) : (a.s = 1 ∧ 0 < val a.n.d) ∨ (a.s = -1 ∧ 0 < val a.n.d) ∨ (a.s = 0 ∧ val a.n.d = 0) := by
  have h1 := h.sl
  have h2 := h.su
  by_cases h0 : a.s = 0
  · exact .inr (.inr ⟨h0, (h.n0 h0).1⟩)
  · have := h.n1 h0
    omega
theorem Rt.Ok.zs {a : Rt} (h : a.Ok) : a.n.z = (val a.n.d : Int) ∧ a.d.z = (val a.d.d : Int) := ⟨z_pos h.nn, z_pos h.dn⟩
theorem cmpRt_sg {a b : Rt} (ha : a.Ok) (hb : b.Ok) : Sg (cmpR (a.add - b.add) a.s a.n.z a.d.z b.s b.n.z b.d.z) (df a b) := by
  rw [ha.zs.1, ha.zs.2, hb.zs.1, hb.zs.2]
  refine Sg.eq (cmp_sg ha.dp hb.dp ha.shape hb.shape) fun k => ?_
  rw [dif_f, df_f, Rat.intCast_sub]
  simp only [Rat.intCast_natCast]
  grind
theorem Sg.zero {x : Re} (h : ∀ k, x.f k = 0) : Sg 0 x := .inr (.inl ⟨rfl, nn_of fun k => by rw [h]; exact Rat.le_refl, nn_of fun k => by show 0 ≤ -x.f k; rw [h]; decide⟩)
theorem sg_int (z : Int) : Sg (sgn z) (Re.int z) := by
  rcases sgn_cases z with ⟨h, g⟩ | ⟨h, g⟩ | ⟨h, g⟩ <;> rw [h]
  · exact .inl ⟨rfl, int_ps g⟩
  · subst g; exact Sg.zero fun _ => rfl
  · refine .inr (.inr ⟨rfl, ps_eq (int_ps (show 0 < -z by omega)) fun k => ?_⟩)
    show ((-z : Int) : Rat) = -(z : Rat)
    rw [Rat.intCast_neg]
theorem cmp_anti {a b : Rt} (ha : a.Ok) (hb : b.Ok) : cmpR (b.add - a.add) b.s b.n.z b.d.z a.s a.n.z a.d.z = -cmpR (a.add - b.add) a.s a.n.z a.d.z b.s b.n.z b.d.z := by
  refine Sg.uniq (cmpRt_sg hb ha) (Sg.eq (cmpRt_sg ha hb).neg fun k => ?_)
  rw [neg_f, df_f, df_f]
  grind
theorem cmp_same {a : Rt} (ha : a.Ok) : cmpR (a.add - a.add) a.s a.n.z a.d.z a.s a.n.z a.d.z = 0 := by
  refine Sg.uniq (cmpRt_sg ha ha) (Sg.zero fun k => ?_)
  rw [df_f]
  grind
theorem cmp_bd {a b : Rt} (ha : a.Ok) (hb : b.Ok) : cmpR (a.add - b.add) a.s a.n.z a.d.z b.s b.n.z b.d.z = 1 ∨ cmpR (a.add - b.add) a.s a.n.z a.d.z b.s b.n.z b.d.z = 0 ∨ cmpR (a.add - b.add) a.s a.n.z a.d.z b.s b.n.z b.d.z = -1 := sg_bd (cmpRt_sg ha hb)
theorem cmp_trans {a b c : Rt} (ha : a.Ok) (hb : b.Ok) (hc : c.Ok) {x y z : Int} (hx : Sg x (df a b)) (hy : Sg y (df b c)) (hz : Sg z (df a c)) :
    (x ≤ 0 → y ≤ 0 → z ≤ 0 ∧ (z = 0 → x = 0 ∧ y = 0)) ∧ (0 ≤ x → 0 ≤ y → 0 ≤ z ∧ (z = 0 → x = 0 ∧ y = 0)) := by
  have pa := ha.dp
  have pb := hb.dp
  have pc := hc.dp
  have hz' := hz.mul (m := (val b.d.d : Int)) (by omega)
  have hx' := hx.mul (m := (val c.d.d : Int)) (by omega)
  have hy' := hy.mul (m := (val a.d.d : Int)) (by omega)
  have e : ∀ k, (((Re.int (val c.d.d : Int)).mul (df a b)).add ((Re.int (val a.d.d : Int)).mul (df b c))).f k = ((Re.int (val b.d.d : Int)).mul (df a c)).f k := fun k => by
    show ((val c.d.d : Int) : Rat) * (df a b).f k + ((val a.d.d : Int) : Rat) * (df b c).f k = ((val b.d.d : Int) : Rat) * (df a c).f k
    rw [df_f, df_f, df_f, Rat.intCast_natCast, Rat.intCast_natCast, Rat.intCast_natCast]
    grind
  have bx := sg_bd hx
  have by' := sg_bd hy
  have bz := sg_bd hz
  have key : ∀ r, (x = 1 ∧ 0 ≤ y ∧ r = 1) ∨ (0 ≤ x ∧ y = 1 ∧ r = 1) ∨ (x = 0 ∧ y = 0 ∧ r = 0) ∨ (x = -1 ∧ y ≤ 0 ∧ r = -1) ∨ (x ≤ 0 ∧ y = -1 ∧ r = -1) → z = r := fun r h => Sg.uniq hz' (Sg.eq (Sg.plus hx' hy' h) e)
  constructor
  · intro h1 h2
    by_cases h3 : x = 0 ∧ y = 0
    · have := key 0 (by omega); omega
    · have := key (-1) (by omega); omega
  · intro h1 h2
    by_cases h3 : x = 0 ∧ y = 0
    · have := key 0 (by omega); omega
    · have := key 1 (by omega); omega
/-- A root and the same with a number added. -/
theorem cmp_plus {a b : Rt} (ha : a.Ok) (hb : b.Ok) (n : Int) (h1 : b.add = a.add + n) (h2 : b.s = a.s) (h3 : b.n = a.n) (h4 : b.d = a.d) : cmpR (a.add - b.add) a.s a.n.z a.d.z b.s b.n.z b.d.z = sgn (-n) := by
  have hd : 0 < (val a.d.d : Int) * (val a.d.d : Int) := by have := ha.dp; exact Int.mul_pos (by omega) (by omega)
  refine Sg.uniq (cmpRt_sg ha hb) (Sg.eq ((sg_int (-n)).mul hd) fun k => ?_)
  show (((val a.d.d : Int) * (val a.d.d : Int) : Int) : Rat) * ((-n : Int) : Rat) = _
  rw [df_f, h1, h2, h3, h4, Rat.intCast_mul, Rat.intCast_natCast, Rat.intCast_neg, Rat.intCast_add]
  grind
end Go.Proofs.YtighahcllmoajaaGreat

namespace Go.Proofs.YtighahcllmoajaaGreat
open Go.RowKit

/-- A spot as the program has it. -/
structure Sp where
  x : Int
  y : Int
  dx : Int
  dy : Int
  p : Int
  q : Int
  len : Int
def Sp.no : Sp := ⟨0, 0, 0, 0, 0, 0, 0⟩
/-- The spot of a point. -/
def spP (x y : Int) : Sp := ⟨x, y, 0, 0, 0, 1, 0⟩
def sqI (x y : Int) : Int := x * x + y * y
/-- add + s √(n / d). -/
def dR (add s n d : Int) : Rt := (ofP add s (ofZ n) (ofZ d)).1
/-- The distance of a point from an end, with its spot. -/
def endR (px py qx qy : Int) : Rt × Sp := (dR 0 1 (sqI (px - qx) (py - qy)) 1, spP qx qy)
/-- The nearest point of a line. -/
def lineR (e : Ed) (px py : Int) : Rt × Sp :=
  if (px - e.ax) * (e.bx - e.ax) + (py - e.ay) * (e.by' - e.ay) ≤ 0 then endR px py e.ax e.ay
  else if sqI (e.bx - e.ax) (e.by' - e.ay) ≤ (px - e.ax) * (e.bx - e.ax) + (py - e.ay) * (e.by' - e.ay) then endR px py e.bx e.by'
  else (dR 0 1 (((e.bx - e.ax) * (py - e.ay) - (e.by' - e.ay) * (px - e.ax)) * ((e.bx - e.ax) * (py - e.ay) - (e.by' - e.ay) * (px - e.ax))) (sqI (e.bx - e.ax) (e.by' - e.ay)),
    ⟨e.ax, e.ay, e.bx - e.ax, e.by' - e.ay, (px - e.ax) * (e.bx - e.ax) + (py - e.ay) * (e.by' - e.ay), sqI (e.bx - e.ax) (e.by' - e.ay), 0⟩)
/-- Whether a vector lies in a quarter. -/
def wiB (dx dy fx fy tx ty : Int) : Bool := decide (0 ≤ fx * dy - fy * dx) && decide (0 ≤ dx * ty - dy * tx)
/-- Whether a vector is in the quarter of an arc. -/
def inQ (e : Ed) (vx vy : Int) : Bool :=
  !(vx == 0 && vy == 0) && (if e.k = 3 then wiB vx vy (e.bx - e.cx) (e.by' - e.cy) (e.ax - e.cx) (e.ay - e.cy) else wiB vx vy (e.ax - e.cx) (e.ay - e.cy) (e.bx - e.cx) (e.by' - e.cy))
/-- The nearest point of an arc. -/
def arcR (e : Ed) (px py : Int) : Rt × Sp :=
  if inQ e (px - e.cx) (py - e.cy) then
    (if radZ e * radZ e ≤ sqI (px - e.cx) (py - e.cy) then dR (-radZ e) 1 (sqI (px - e.cx) (py - e.cy)) 1 else dR (radZ e) (-1) (sqI (px - e.cx) (py - e.cy)) 1, ⟨e.cx, e.cy, px - e.cx, py - e.cy, 0, 0, radZ e⟩)
  else if sqI (px - e.bx) (py - e.by') < sqI (px - e.ax) (py - e.ay) then endR px py e.bx e.by' else endR px py e.ax e.ay
/-- The nearest point of an edge. -/
def pointR (e : Ed) (px py : Int) : Rt × Sp :=
  if !(e.ok && coordB px py) then (Rt.no, Sp.no) else if e.k = 1 then lineR e px py else arcR e px py
/-- A candidate: a distance, and a spot on each edge. -/
structure Pr where
  d : Rt
  a : Sp
  b : Sp
def Pr.swap (p : Pr) : Pr := ⟨p.d, p.b, p.a⟩
/-- The candidate of a line and an arc between their ends. -/
def footR (l a : Ed) : List Pr :=
  let dx := l.bx - l.ax
  let dy := l.by' - l.ay
  let t := (a.cx - l.ax) * dx + (a.cy - l.ay) * dy
  let c := dx * (a.cy - l.ay) - dy * (a.cx - l.ax)
  let nx := if 0 < c then dy else -dy
  let ny := if 0 < c then -dx else dx
  if t ≤ 0 ∨ sqI dx dy ≤ t ∨ c * c ≤ radZ a * radZ a * sqI dx dy ∨ inQ a nx ny = false then []
  else [⟨dR (-radZ a) 1 (c * c) (sqI dx dy), ⟨l.ax, l.ay, dx, dy, t, sqI dx dy, 0⟩, ⟨a.cx, a.cy, nx, ny, 0, 0, radZ a⟩⟩]
/-- The candidate of two arcs on the line through their centres. -/
def centR (a b : Ed) : List Pr :=
  let vx := b.cx - a.cx
  let vy := b.cy - a.cy
  let r := radZ a
  let s := radZ b
  let n := sqI vx vy
  if (r + s) * (r + s) < n then (if inQ a vx vy && inQ b (-vx) (-vy) then [⟨dR (-r - s) 1 n 1, ⟨a.cx, a.cy, vx, vy, 0, 0, r⟩, ⟨b.cx, b.cy, -vx, -vy, 0, 0, s⟩⟩] else [])
  else if (r - s) * (r - s) ≤ n then []
  else if s < r then (if inQ a vx vy && inQ b vx vy then [⟨dR (r - s) (-1) n 1, ⟨a.cx, a.cy, vx, vy, 0, 0, r⟩, ⟨b.cx, b.cy, vx, vy, 0, 0, s⟩⟩] else [])
  else (if inQ a (-vx) (-vy) && inQ b (-vx) (-vy) then [⟨dR (s - r) (-1) n 1, ⟨a.cx, a.cy, -vx, -vy, 0, 0, r⟩, ⟨b.cx, b.cy, -vx, -vy, 0, 0, s⟩⟩] else [])
def innerR (a b : Ed) : List Pr :=
  if a.k = 1 then (if b.k = 1 then [] else footR a b) else if b.k = 1 then (footR b a).map Pr.swap else centR a b
/-- All candidates. -/
def candR (a b : Ed) : List Pr :=
  [⟨(pointR b a.ax a.ay).1, spP a.ax a.ay, (pointR b a.ax a.ay).2⟩, ⟨(pointR b a.bx a.by').1, spP a.bx a.by', (pointR b a.bx a.by').2⟩,
    ⟨(pointR a b.ax b.ay).1, (pointR a b.ax b.ay).2, spP b.ax b.ay⟩, ⟨(pointR a b.bx b.by').1, (pointR a b.bx b.by').2, spP b.bx b.by'⟩] ++ innerR a b
def betterP (x y : Pr) : Pr := if cmpRt y.d x.d < 0 then y else x
def leastP : List Pr → Pr
  | [] => ⟨Rt.no, Sp.no, Sp.no⟩
  | x :: l => l.foldl betterP x
/-- The distance of two edges, with their nearest points. -/
def edgesR (a b : Ed) : Pr := if !(a.ok && b.ok) || !(countE a b == 0) then ⟨Rt.no, Sp.no, Sp.no⟩ else leastP (candR a b)

theorem sqz_nn (x : Int) : 0 ≤ x * x := by
  rcases Int.le_total 0 x with h | h
  · exact Int.mul_nonneg h h
  · rw [← Int.neg_mul_neg]; exact Int.mul_nonneg (by omega) (by omega)
theorem sqI_nn (x y : Int) : 0 ≤ sqI x y := by
  have := sqz_nn x
  have := sqz_nn y
  unfold sqI
  omega
theorem sqI_pos {x y : Int} (h : ¬ (x = 0 ∧ y = 0)) : 0 < sqI x y := by
  have h1 := sqz_nn x
  have h2 := sqz_nn y
  have h3 : ¬ (x * x = 0 ∧ y * y = 0) := fun ⟨a, b⟩ => h ⟨by rcases Int.mul_eq_zero.1 a with h | h <;> exact h, by rcases Int.mul_eq_zero.1 b with h | h <;> exact h⟩
  unfold sqI
  omega
theorem Di.sq {x y : Int} (hx : Di x) (hy : Di y) : I64 (sqI x y) := hx.dot hx hy hy
end Go.Proofs.YtighahcllmoajaaGreat

namespace Go.Proofs.YtighahcllmoajaaGreat
open Go.RowKit

theorem wp_know {P : Program} {c : Code} {Q : Exit → Act → World → Prop} {a : Act} {w' : World} (R : World → Prop) (h : R w') (k : ∀ W, R W → Code.wp P c Q a W) : Code.wp P c Q a w' := k _ h
theorem infoNum : (Tryz.prog.info? 36).map (fun i => (i.zero, i.size, i.bytes)) = some (some (.agg #[.bool false, .slice none 0 0]), 2, 32) := by kernel_rfl
theorem info_partsN {P : Program} {t : TypeId} {z : Value} {s b : Nat} (h : (P.info? t).map (fun i => (i.zero, i.size, i.bytes)) = some (some z, s, b)) : ∃ i, P.info? t = some i ∧ i.zero = some z ∧ i.size = s ∧ i.bytes = b := by
  cases hi : P.info? t with
  | none => rw [hi] at h; cases h
  | some i =>
    rw [hi] at h
    simp only [Option.map_some, Option.some.injEq, Prod.mk.injEq] at h
    exact ⟨i, rfl, h.1, h.2.1, h.2.2⟩
theorem fillN2 (n1 n2 : Bool) (p1 p2 : Option Addr) (l1 c1 l2 c2 : Nat) : Instr.fill (fun i => some (i * 2, 2)) ((Array.range (2 * 2)).map ((.agg #[.bool false, .slice none 0 0] : Value).cells[· % (.agg #[.bool false, .slice none 0 0] : Value).cells.size]!)) [(0, .agg #[.bool n1, .slice p1 l1 c1]), (1, .agg #[.bool n2, .slice p2 l2 c2])] = some #[.bool n1, .slice p1 l1 c1, .bool n2, .slice p2 l2 c2] := by kernel_rfl
theorem NRs_2 {W : World} {n1 n2 : Bool} {p1 p2 : Option Addr} {l1 c1 l2 c2 g : Nat} {a1 a2 : Nm} {T : TypeId} (h : W.heap[g]? = some (.cells #[.bool n1, .slice p1 l1 c1, .bool n2, .slice p2 l2 c2] T)) (h1 : NR W n1 p1 l1 c1 a1) (h2 : NR W n2 p2 l2 c2 a2) (r1 : a1.right = true) (r2 : a2.right = true) : NRs W g [a1, a2] := by
  have hc : ∀ j v, (#[.bool n1, .slice p1 l1 c1, .bool n2, .slice p2 l2 c2] : Array Value)[j]? = some v → W.cell? ⟨g, j, none⟩ = some v := by
    intro j v hv
    simp [World.cell?, h, hv]
  refine ⟨(Array.getElem?_eq_some_iff.1 h).1, fun i x hi => ?_⟩
  match i, hi with
  | 0, hi => cases hi; exact ⟨r1, n1, p1, l1, c1, hc 0 _ rfl, hc 1 _ rfl, h1⟩
  | 1, hi => cases hi; exact ⟨r2, n2, p2, l2, c2, hc 2 _ rfl, hc 3 _ rfl, h2⟩
  | i + 2, hi => simp at hi
/-- A slice literal of 2 numbers. -/
theorem F_ns2 {ops : Array Oper} {S : World → Prop} {Q : Act → World → Prop} {o : Oper} {l : List Oper} {a : Act} {own : List Nat} {F : World → Prop} (a1 a2 : Nm) (x1 x2 : Operand) (ho : o.op = .buildSlice 145 2 #[(0, x1), (1, x2)]) (hk : fkind o = 1) (hw : Region.wanted o (yielded ops a.tmps) = true)
    {n1 n2 : Bool} {p1 p2 : Option Addr} {l1 c1 l2 c2 : Nat} (e1 : a.eval x1 = .agg #[.bool n1, .slice p1 l1 c1]) (e2 : a.eval x2 = .agg #[.bool n2, .slice p2 l2 c2]) (hF : ∀ w, F w → NR w n1 p1 l1 c1 a1 ∧ NR w n2 p2 l2 c2 a2) (r1 : a1.right = true) (r2 : a2.right = true)
    (h : ∀ g, WpF Tryz.prog ops S Q l (a.put o.dst (.slice (some ⟨g, 0, none⟩) 2 2)) own (fun w => F w ∧ NRs w g [a1, a2])) : WpF Tryz.prog ops S Q (o :: l) a own F := by
  obtain ⟨i, hi, hz0, hz1, hz2⟩ := info_partsN infoNum
  refine F_block 2 (.cells #[.bool n1, .slice p1 l1 c1, .bool n2, .slice p2 l2 c2] 36) (fun g w => NRs w g [a1, a2]) hk hw (fun g => by simp [shp, ho]) (fun w _ => ?_) (fun g w hf hb => ?_) h
  · unfold execOp
    simp only [ho, Sem.run_bind]
    rw [run_buildSlice w 145 36 2 _ i _ (by kernel_rfl) hi hz0 (by rw [hz1]; omega) (by rw [hz1]; omega) (cells := #[.bool n1, .slice p1 l1 c1, .bool n2, .slice p2 l2 c2]) (by rw [hz1]; simp only [List.map_toArray, List.map_cons, List.map_nil, e1, e2]; exact fillN2 _ _ _ _ _ _ _ _)]
    rfl
  · obtain ⟨g1, g2⟩ := hF w hf
    exact NRs_2 hb g1 g2 r1 r2
theorem fillN3 (n1 n2 n3 : Bool) (p1 p2 p3 : Option Addr) (l1 c1 l2 c2 l3 c3 : Nat) : Instr.fill (fun i => some (i * 2, 2)) ((Array.range (3 * 2)).map ((.agg #[.bool false, .slice none 0 0] : Value).cells[· % (.agg #[.bool false, .slice none 0 0] : Value).cells.size]!)) [(0, .agg #[.bool n1, .slice p1 l1 c1]), (1, .agg #[.bool n2, .slice p2 l2 c2]), (2, .agg #[.bool n3, .slice p3 l3 c3])] = some #[.bool n1, .slice p1 l1 c1, .bool n2, .slice p2 l2 c2, .bool n3, .slice p3 l3 c3] := by kernel_rfl
theorem NRs_3 {W : World} {n1 n2 n3 : Bool} {p1 p2 p3 : Option Addr} {l1 c1 l2 c2 l3 c3 g : Nat} {a1 a2 a3 : Nm} {T : TypeId} (h : W.heap[g]? = some (.cells #[.bool n1, .slice p1 l1 c1, .bool n2, .slice p2 l2 c2, .bool n3, .slice p3 l3 c3] T)) (h1 : NR W n1 p1 l1 c1 a1) (h2 : NR W n2 p2 l2 c2 a2) (h3 : NR W n3 p3 l3 c3 a3) (r1 : a1.right = true) (r2 : a2.right = true) (r3 : a3.right = true) : NRs W g [a1, a2, a3] := by
  have hc : ∀ j v, (#[.bool n1, .slice p1 l1 c1, .bool n2, .slice p2 l2 c2, .bool n3, .slice p3 l3 c3] : Array Value)[j]? = some v → W.cell? ⟨g, j, none⟩ = some v := by
    intro j v hv
    simp [World.cell?, h, hv]
  refine ⟨(Array.getElem?_eq_some_iff.1 h).1, fun i x hi => ?_⟩
  match i, hi with
  | 0, hi => cases hi; exact ⟨r1, n1, p1, l1, c1, hc 0 _ rfl, hc 1 _ rfl, h1⟩
  | 1, hi => cases hi; exact ⟨r2, n2, p2, l2, c2, hc 2 _ rfl, hc 3 _ rfl, h2⟩
  | 2, hi => cases hi; exact ⟨r3, n3, p3, l3, c3, hc 4 _ rfl, hc 5 _ rfl, h3⟩
  | i + 3, hi => simp at hi
/-- A slice literal of 3 numbers. -/
theorem F_ns3 {ops : Array Oper} {S : World → Prop} {Q : Act → World → Prop} {o : Oper} {l : List Oper} {a : Act} {own : List Nat} {F : World → Prop} (a1 a2 a3 : Nm) (x1 x2 x3 : Operand) (ho : o.op = .buildSlice 145 3 #[(0, x1), (1, x2), (2, x3)]) (hk : fkind o = 1) (hw : Region.wanted o (yielded ops a.tmps) = true)
    {n1 n2 n3 : Bool} {p1 p2 p3 : Option Addr} {l1 c1 l2 c2 l3 c3 : Nat} (e1 : a.eval x1 = .agg #[.bool n1, .slice p1 l1 c1]) (e2 : a.eval x2 = .agg #[.bool n2, .slice p2 l2 c2]) (e3 : a.eval x3 = .agg #[.bool n3, .slice p3 l3 c3]) (hF : ∀ w, F w → NR w n1 p1 l1 c1 a1 ∧ NR w n2 p2 l2 c2 a2 ∧ NR w n3 p3 l3 c3 a3) (r1 : a1.right = true) (r2 : a2.right = true) (r3 : a3.right = true)
    (h : ∀ g, WpF Tryz.prog ops S Q l (a.put o.dst (.slice (some ⟨g, 0, none⟩) 3 3)) own (fun w => F w ∧ NRs w g [a1, a2, a3])) : WpF Tryz.prog ops S Q (o :: l) a own F := by
  obtain ⟨i, hi, hz0, hz1, hz2⟩ := info_partsN infoNum
  refine F_block 3 (.cells #[.bool n1, .slice p1 l1 c1, .bool n2, .slice p2 l2 c2, .bool n3, .slice p3 l3 c3] 36) (fun g w => NRs w g [a1, a2, a3]) hk hw (fun g => by simp [shp, ho]) (fun w _ => ?_) (fun g w hf hb => ?_) h
  · unfold execOp
    simp only [ho, Sem.run_bind]
    rw [run_buildSlice w 145 36 3 _ i _ (by kernel_rfl) hi hz0 (by rw [hz1]; omega) (by rw [hz1]; omega) (cells := #[.bool n1, .slice p1 l1 c1, .bool n2, .slice p2 l2 c2, .bool n3, .slice p3 l3 c3]) (by rw [hz1]; simp only [List.map_toArray, List.map_cons, List.map_nil, e1, e2, e3]; exact fillN3 _ _ _ _ _ _ _ _ _ _ _ _)]
    rfl
  · obtain ⟨g1, g2, g3⟩ := hF w hf
    exact NRs_3 hb g1 g2 g3 r1 r2 r3
theorem fillN4 (n1 n2 n3 n4 : Bool) (p1 p2 p3 p4 : Option Addr) (l1 c1 l2 c2 l3 c3 l4 c4 : Nat) : Instr.fill (fun i => some (i * 2, 2)) ((Array.range (4 * 2)).map ((.agg #[.bool false, .slice none 0 0] : Value).cells[· % (.agg #[.bool false, .slice none 0 0] : Value).cells.size]!)) [(0, .agg #[.bool n1, .slice p1 l1 c1]), (1, .agg #[.bool n2, .slice p2 l2 c2]), (2, .agg #[.bool n3, .slice p3 l3 c3]), (3, .agg #[.bool n4, .slice p4 l4 c4])] = some #[.bool n1, .slice p1 l1 c1, .bool n2, .slice p2 l2 c2, .bool n3, .slice p3 l3 c3, .bool n4, .slice p4 l4 c4] := by kernel_rfl
theorem NRs_4 {W : World} {n1 n2 n3 n4 : Bool} {p1 p2 p3 p4 : Option Addr} {l1 c1 l2 c2 l3 c3 l4 c4 g : Nat} {a1 a2 a3 a4 : Nm} {T : TypeId} (h : W.heap[g]? = some (.cells #[.bool n1, .slice p1 l1 c1, .bool n2, .slice p2 l2 c2, .bool n3, .slice p3 l3 c3, .bool n4, .slice p4 l4 c4] T)) (h1 : NR W n1 p1 l1 c1 a1) (h2 : NR W n2 p2 l2 c2 a2) (h3 : NR W n3 p3 l3 c3 a3) (h4 : NR W n4 p4 l4 c4 a4) (r1 : a1.right = true) (r2 : a2.right = true) (r3 : a3.right = true) (r4 : a4.right = true) : NRs W g [a1, a2, a3, a4] := by
  have hc : ∀ j v, (#[.bool n1, .slice p1 l1 c1, .bool n2, .slice p2 l2 c2, .bool n3, .slice p3 l3 c3, .bool n4, .slice p4 l4 c4] : Array Value)[j]? = some v → W.cell? ⟨g, j, none⟩ = some v := by
    intro j v hv
    simp [World.cell?, h, hv]
  refine ⟨(Array.getElem?_eq_some_iff.1 h).1, fun i x hi => ?_⟩
  match i, hi with
  | 0, hi => cases hi; exact ⟨r1, n1, p1, l1, c1, hc 0 _ rfl, hc 1 _ rfl, h1⟩
  | 1, hi => cases hi; exact ⟨r2, n2, p2, l2, c2, hc 2 _ rfl, hc 3 _ rfl, h2⟩
  | 2, hi => cases hi; exact ⟨r3, n3, p3, l3, c3, hc 4 _ rfl, hc 5 _ rfl, h3⟩
  | 3, hi => cases hi; exact ⟨r4, n4, p4, l4, c4, hc 6 _ rfl, hc 7 _ rfl, h4⟩
  | i + 4, hi => simp at hi
/-- A slice literal of 4 numbers. -/
theorem F_ns4 {ops : Array Oper} {S : World → Prop} {Q : Act → World → Prop} {o : Oper} {l : List Oper} {a : Act} {own : List Nat} {F : World → Prop} (a1 a2 a3 a4 : Nm) (x1 x2 x3 x4 : Operand) (ho : o.op = .buildSlice 145 4 #[(0, x1), (1, x2), (2, x3), (3, x4)]) (hk : fkind o = 1) (hw : Region.wanted o (yielded ops a.tmps) = true)
    {n1 n2 n3 n4 : Bool} {p1 p2 p3 p4 : Option Addr} {l1 c1 l2 c2 l3 c3 l4 c4 : Nat} (e1 : a.eval x1 = .agg #[.bool n1, .slice p1 l1 c1]) (e2 : a.eval x2 = .agg #[.bool n2, .slice p2 l2 c2]) (e3 : a.eval x3 = .agg #[.bool n3, .slice p3 l3 c3]) (e4 : a.eval x4 = .agg #[.bool n4, .slice p4 l4 c4]) (hF : ∀ w, F w → NR w n1 p1 l1 c1 a1 ∧ NR w n2 p2 l2 c2 a2 ∧ NR w n3 p3 l3 c3 a3 ∧ NR w n4 p4 l4 c4 a4) (r1 : a1.right = true) (r2 : a2.right = true) (r3 : a3.right = true) (r4 : a4.right = true)
    (h : ∀ g, WpF Tryz.prog ops S Q l (a.put o.dst (.slice (some ⟨g, 0, none⟩) 4 4)) own (fun w => F w ∧ NRs w g [a1, a2, a3, a4])) : WpF Tryz.prog ops S Q (o :: l) a own F := by
  obtain ⟨i, hi, hz0, hz1, hz2⟩ := info_partsN infoNum
  refine F_block 4 (.cells #[.bool n1, .slice p1 l1 c1, .bool n2, .slice p2 l2 c2, .bool n3, .slice p3 l3 c3, .bool n4, .slice p4 l4 c4] 36) (fun g w => NRs w g [a1, a2, a3, a4]) hk hw (fun g => by simp [shp, ho]) (fun w _ => ?_) (fun g w hf hb => ?_) h
  · unfold execOp
    simp only [ho, Sem.run_bind]
    rw [run_buildSlice w 145 36 4 _ i _ (by kernel_rfl) hi hz0 (by rw [hz1]; omega) (by rw [hz1]; omega) (cells := #[.bool n1, .slice p1 l1 c1, .bool n2, .slice p2 l2 c2, .bool n3, .slice p3 l3 c3, .bool n4, .slice p4 l4 c4]) (by rw [hz1]; simp only [List.map_toArray, List.map_cons, List.map_nil, e1, e2, e3, e4]; exact fillN4 _ _ _ _ _ _ _ _ _ _ _ _ _ _ _ _)]
    rfl
  · obtain ⟨g1, g2, g3, g4⟩ := hF w hf
    exact NRs_4 hb g1 g2 g3 g4 r1 r2 r3 r4
end Go.Proofs.YtighahcllmoajaaGreat

namespace Go.Proofs.YtighahcllmoajaaGreat
open Go.RowKit

theorem cells6 {W : World} {g : Nat} {a0 a1 a2 a3 a4 a5 : Value} {T : TypeId} (h : W.heap[g]? = some (.cells #[a0, a1, a2, a3, a4, a5] T)) :
    (W.cell? ⟨g, 0, none⟩ = some a0 ∧ W.cell? ⟨g, 1, none⟩ = some a1 ∧ W.cell? ⟨g, 2, none⟩ = some a2 ∧ W.cell? ⟨g, 3, none⟩ = some a3 ∧ W.cell? ⟨g, 4, none⟩ = some a4 ∧ W.cell? ⟨g, 5, none⟩ = some a5) ∧ (∀ o, W.frozen? ⟨g, o, none⟩ = false) ∧ g < W.heap.size := by
  refine ⟨⟨?_, ?_, ?_, ?_, ?_, ?_⟩, fun o => ?_, (Array.getElem?_eq_some_iff.1 h).1⟩
  all_goals first | (rw [cell_of_row _ _ _ _ _ _ h]; rfl) | simp [World.frozen?, h]
theorem store1c {W : World} {g j : Nat} {cs : Array Value} {v : Value} {T : TypeId} (h : W.heap[g]? = some (.cells cs T)) :
    OnlyB g W (W.setCell ⟨g, j, none⟩ v) ∧ (W.setCell ⟨g, j, none⟩ v).heap[g]? = some (.cells (cs.setIfInBounds j v) T) := by
  have hlt := (Array.getElem?_eq_some_iff.1 h).1
  refine ⟨⟨rfl, rfl, rfl, by simp [World.setCell], fun k hk => Below.heap_setCell _ _ _ _ (by simpa using hk)⟩, ?_⟩
  have e : W.heap[g] = .cells cs T := by
    rw [Array.getElem?_eq_getElem hlt] at h; simpa using h
  simp [World.setCell, hlt, Array.getElem_modify, e]
theorem OnlyB.next {g : Nat} {a b c : World} (h : OnlyB g a b) (k : OnlyB g b c) : OnlyB g a c :=
  ⟨k.os.trans h.os, k.tape.trans h.tape, k.output.trans h.output, k.size.trans h.size, fun i hi => (k.block i hi).trans (h.block i hi)⟩
theorem store6 {W : World} {g : Nat} {a0 a1 a2 a3 a4 a5 x0 x1 x2 x3 x4 x5 : Value} {T : TypeId} (h : W.heap[g]? = some (.cells #[a0, a1, a2, a3, a4, a5] T)) : OnlyB g W ((((((W.setCell ⟨g, 0, none⟩ x0).setCell ⟨g, 1, none⟩ x1).setCell ⟨g, 2, none⟩ x2).setCell ⟨g, 3, none⟩ x3).setCell ⟨g, 4, none⟩ x4).setCell ⟨g, 5, none⟩ x5) ∧ ((((((W.setCell ⟨g, 0, none⟩ x0).setCell ⟨g, 1, none⟩ x1).setCell ⟨g, 2, none⟩ x2).setCell ⟨g, 3, none⟩ x3).setCell ⟨g, 4, none⟩ x4).setCell ⟨g, 5, none⟩ x5).heap[g]? = some (.cells #[x0, x1, x2, x3, x4, x5] T) := by
  obtain ⟨h0, k0⟩ := store1c (j := 0) (v := x0) h
  obtain ⟨h1, k1⟩ := store1c (j := 1) (v := x1) k0
  obtain ⟨h2, k2⟩ := store1c (j := 2) (v := x2) k1
  obtain ⟨h3, k3⟩ := store1c (j := 3) (v := x3) k2
  obtain ⟨h4, k4⟩ := store1c (j := 4) (v := x4) k3
  obtain ⟨h5, k5⟩ := store1c (j := 5) (v := x5) k4
  refine ⟨(((((h0.next h1).next h2).next h3).next h4).next h5), k5.trans ?_⟩
  simp
theorem RK.nr6 {g : Nat} {a0 a1 a2 a3 a4 a5 : Value} {T : TypeId} {n : Bool} {p : Option Addr} {l c : Nat} {x : Nm} (h0 : ∀ z, a0 ≠ .int .u32 z) (h1 : ∀ z, a1 ≠ .int .u32 z) (h2 : ∀ z, a2 ≠ .int .u32 z) (h3 : ∀ z, a3 ≠ .int .u32 z) (h4 : ∀ z, a4 ≠ .int .u32 z) (h5 : ∀ z, a5 ≠ .int .u32 z) : RK g (.cells #[a0, a1, a2, a3, a4, a5] T) (fun W => NR W n p l c x) := fun W W' h ho hk => by
  obtain ⟨k1, k2, k3, k4, k5, k6⟩ := h
  refine ⟨k1, k2, k3, k4, k5, fun k0 => ?_⟩
  obtain ⟨B, o, rfl, hlt, hc⟩ := k6 k0
  have hne : B ≠ g := by
    intro e
    subst e
    have := hc 0 k0
    rw [cell_of_row _ _ _ _ _ _ ho] at this
    rcases o with _ | _ | _ | _ | _ | _ | o
    · simp at this; exact h0 _ this
    · simp at this; exact h1 _ this
    · simp at this; exact h2 _ this
    · simp at this; exact h3 _ this
    · simp at this; exact h4 _ this
    · simp at this; exact h5 _ this
    · simp at this
  refine ⟨B, o, rfl, by rw [hk.size]; exact hlt, fun i hi => ?_⟩
  rw [← hc i hi]
  exact World.cell?_of_block (hk.block B hne)
section
variable {P : Program} {ops : Array Oper} {S : World → Prop} {Q : Act → World → Prop} {o : Oper} {l : List Oper} {a : Act} {own : List Nat} {F : World → Prop}
/-- A store into a new variable of six cells. -/
theorem F_store6 (R : World → Prop) (g : Nat) (a0 a1 a2 a3 a4 a5 x0 x1 x2 x3 x4 x5 : Value) (T : TypeId) (hk : fkind o = 3) (hw : Region.wanted o (yielded ops a.tmps) = true)
    (hrun : ∀ W : World, W.cell? ⟨g, 0, none⟩ = some a0 → W.cell? ⟨g, 1, none⟩ = some a1 → W.cell? ⟨g, 2, none⟩ = some a2 → W.cell? ⟨g, 3, none⟩ = some a3 → W.cell? ⟨g, 4, none⟩ = some a4 → W.cell? ⟨g, 5, none⟩ = some a5 → (∀ o, W.frozen? ⟨g, o, none⟩ = false) → (execOp a.eval o).run P W = .ok .skip ((((((W.setCell ⟨g, 0, none⟩ x0).setCell ⟨g, 1, none⟩ x1).setCell ⟨g, 2, none⟩ x2).setCell ⟨g, 3, none⟩ x3).setCell ⟨g, 4, none⟩ x4).setCell ⟨g, 5, none⟩ x5))
    (hF : ∀ W, F W → R W ∧ W.heap[g]? = some (.cells #[a0, a1, a2, a3, a4, a5] T)) (hR : RK g (.cells #[a0, a1, a2, a3, a4, a5] T) R) (hm : FMono R) (hs : ∀ W, R W → S W)
    (h : WpF P ops S Q l (a.put o.dst undef) own (fun W => (R W ∧ W.heap[g]? = some (.cells #[x0, x1, x2, x3, x4, x5] T)) ∧ ∀ g ∈ own, g < W.heap.size)) : WpF P ops S Q (o :: l) a own F := by
  refine F_store (fun W => R W ∧ W.heap[g]? = some (.cells #[x0, x1, x2, x3, x4, x5] T)) (hm.and (fmono_obj _ _)) (fun W h => hs W h.1) hk hw (fun W hf => ?_) h
  obtain ⟨hr, hb⟩ := hF W hf
  obtain ⟨⟨c0, c1, c2, c3, c4, c5⟩, cf, hlt⟩ := cells6 hb
  unfold Gives
  rw [hrun W c0 c1 c2 c3 c4 c5 cf]
  obtain ⟨k1, k2⟩ := store6 (x0 := x0) (x1 := x1) (x2 := x2) (x3 := x3) (x4 := x4) (x5 := x5) hb
  exact ⟨rfl, by rw [k1.size]; exact Nat.le_refl _, hR W _ hr hb k1, k2⟩
end
end Go.Proofs.YtighahcllmoajaaGreat
