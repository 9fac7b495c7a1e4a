/- Plain: the law RootWhole. | Plain: bounds of roots, and how the roots compare. -/
import Derived.Test.YtghgggaimijcaaaDoorJ29
import Derived.Test.YtghgggaimijcaaaDoorJ22
set_option linter.unusedVariables false
set_option linter.unusedSimpArgs false

namespace Go.Proofs.YtghgggaimijcaaaDoor
open Go.RowKit

theorem int_right (i : Int) : Rt.right ⟨i, 0, zero, ofZ 1⟩ = true := by
  have h := ofP_nat (add := i) (s := 0) (n := 0) (d := 1) (by decide) (by decide +kernel) (by decide +kernel) (by decide)
  obtain ⟨q1, q2, _⟩ := ofP_ok (dig_digs _) (dig_digs _) h
  have e : rootOf i 0 0 1 = ⟨i, 0, zero, ofZ 1⟩ := by unfold rootOf; rw [if_pos (.inl rfl)]
  rw [e] at q1 q2
  exact right_of q2 q1.nr q1.dr
theorem rootOf_gd {add s : Int} {n d : Nat} (hs : -1 ≤ s ∧ s ≤ 1) (hn : n < 4294967296 ^ 8) (hd : d < 4294967296 ^ 8) (h0 : 0 < d) : (rootOf add s n d).Gd := by
  obtain ⟨h1, h2⟩ := whole_ok (add := add) hs hn hd h0
  refine ⟨h1, h2, ?_⟩
  unfold rootOf
  split
  · exact ⟨Dig.nil, dig_digs _⟩
  · exact ⟨dig_digs _, dig_digs _⟩
theorem cmp_root_int {add s i : Int} {n d : Nat} (hs : s = 1 ∨ s = -1) (hn : n < 4294967296 ^ 8) (hd : d < 4294967296 ^ 8) (h0 : 0 < d) : cmpRt (rootOf add s n d) ⟨i, 0, zero, ofZ 1⟩ = sideZ ((add - i) * d) s ((n : Int) * d) := by
  unfold cmpRt
  rw [(rootOf_gd (by omega) hn hd h0).2.1, int_right]
  simp only [Bool.and_self, if_true]
  rw [zero_z, ofZ_z]
  exact cmp_int h0 (by omega)
theorem whole_law {m n d : Nat} (hm : m < 2000000) (hn : n < 1000000) (hd : 0 < d) (hd2 : d ≤ 1000000) :
    cmpRt (rootOf 0 1 (m * m) 1) ⟨(m : Int), 0, zero, ofZ 1⟩ = 0 ∧ cmpRt (rootOf 0 1 (m * m) 1) ⟨(m : Int) + 1, 0, zero, ofZ 1⟩ = -1 ∧
    (∀ f : Nat, cmpRt (rootOf 0 1 n d) ⟨(f : Int), 0, zero, ofZ 1⟩ = sgn ((n : Int) - d * f * f) ∧ cmpRt (rootOf 0 (-1) n d) ⟨-(f : Int), 0, zero, ofZ 1⟩ = -sgn ((n : Int) - d * f * f)) ∧
    cmpRt (rootOf 0 (-1) n d) (rootOf 0 1 n d) = -sgn (n : Int) := by
  have hp : (4000000000000 : Nat) < 4294967296 ^ 8 := by decide +kernel
  have hm2 : m * m < 4000000000000 := Nat.lt_of_le_of_lt (Nat.mul_le_mul (show m ≤ 1999999 by omega) (show m ≤ 1999999 by omega)) (by decide)
  refine ⟨?_, ?_, fun f => ⟨?_, ?_⟩, ?_⟩
  · rw [cmp_root_int (.inl rfl) (by omega) (by omega) (by decide), show (0 : Int) - (m : Int) = -(m : Int) by omega, side_whole (by omega) (by decide) (by omega)]
    rw [show (((m * m : Nat) : Int) - ((1 : Nat) : Int) * (m : Int) * (m : Int)) = 0 by rw [Int.natCast_mul, show ((1 : Nat) : Int) = 1 from rfl, Int.one_mul]; omega]
    rfl
  · rw [cmp_root_int (.inl rfl) (by omega) (by omega) (by decide), show (0 : Int) - ((m : Int) + 1) = -((m : Int) + 1) by omega, side_whole (by omega) (by decide) (by omega)]
    have e : (((m * m : Nat) : Int) - ((1 : Nat) : Int) * ((m : Int) + 1) * ((m : Int) + 1)) < 0 := by
      rw [Int.natCast_mul, show ((1 : Nat) : Int) = 1 from rfl, Int.one_mul, Int.add_mul, Int.mul_add]
      omega
    unfold sgn cmpZ
    rw [if_pos e]
  · rw [cmp_root_int (.inl rfl) (by omega) (by omega) hd, show (0 : Int) - (f : Int) = -(f : Int) by omega, side_whole (by omega) (by omega) (by omega)]
  · rw [cmp_root_int (.inr rfl) (by omega) (by omega) hd, show (0 : Int) - -(f : Int) = (f : Int) by omega]
    have h := sideZ_neg (-(f : Int) * (d : Int)) 1 (n * d)
    rw [Int.natCast_mul, side_whole (by omega) (by omega) (by omega)] at h
    rw [← h, Int.neg_mul, Int.neg_neg]
  · rw [cmpRt_gd (rootOf_gd (by decide) (by omega) (by omega) hd) (rootOf_gd (by decide) (by omega) (by omega) hd)]
    rcases Nat.eq_zero_or_pos n with rfl | hn0
    · have e : ∀ s : Int, rootOf 0 s 0 d = ⟨0, 0, zero, ofZ 1⟩ := fun s => by unfold rootOf; rw [if_pos (.inr rfl)]
      rw [e, e]
      simp only
      rw [zero_z, ofZ_z]
      decide
    · have hg : 0 < Nat.gcd n d := Nat.gcd_pos_of_pos_left _ hn0
      have pN : 0 < n / Nat.gcd n d := Nat.div_pos (Nat.gcd_le_left _ hn0) hg
      have pD : 0 < d / Nat.gcd n d := Nat.div_pos (Nat.gcd_le_right _ hd) hg
      unfold rootOf
      rw [if_neg (by omega), if_neg (by omega)]
      simp only
      rw [ofZ_z, ofZ_z]
      generalize n / Nat.gcd n d = N at *
      generalize d / Nat.gcd n d = D at *
      have hnd : 0 < (N : Int) * (D : Int) := Int.mul_pos (by omega) (by omega)
      have s1 : sideZ ((0 - 0) * (D : Int)) (-1) ((N : Int) * D) = -1 := by
        unfold sideZ
        rw [show (0 - 0 : Int) * (D : Int) = 0 by simp, show sgn ((N : Int) * D) = 1 by unfold sgn cmpZ; rw [if_neg (by omega), if_neg (by omega)], if_pos (by decide)]
        decide
      unfold cmpR
      rw [s1]
      rw [show sgn (n : Int) = 1 by unfold sgn cmpZ; rw [if_neg (by omega), if_neg (by omega)], if_pos (by decide)]
      decide
end Go.Proofs.YtghgggaimijcaaaDoor

namespace Go.Proofs.YtghgggaimijcaaaDoor
open Go.RowKit

theorem rt_between {n r h : Nat} (h1 : r * r ≤ n * 1048576) (h2 : n * 1048576 ≤ h * h) : nn ((mul 1024 (Re.rt n)).add (Re.int (r : Int)).neg) ∧ nn ((Re.int (h : Int)).add (mul 1024 (Re.rt n)).neg) := by
  have x0 : nn (mul 1024 (Re.rt n)) := nn_mul (int_nn (by decide)) (rt_nn n)
  have hr : nn (Re.int (r : Int)) := int_nn (by omega)
  have hh : nn (Re.int (h : Int)) := int_nn (by omega)
  have c0 : ((1024 : Int) : Rat) = 1024 := rfl
  have c1 : ((1048576 : Int) : Rat) = 1048576 := rfl
  constructor
  · refine sq_nn' x0 hr (nn_eq (nn_add (nn_mul (int_nn (show (0 : Int) ≤ 1048576 by decide)) (rt_dn n)) (int_nn (show (0 : Int) ≤ (n : Int) * 1048576 - (r : Int) * r by have : ((r * r : Nat) : Int) ≤ ((n * 1048576 : Nat) : Int) := Int.ofNat_le.2 h1; rw [Int.natCast_mul, Int.natCast_mul] at this; omega))) fun k => ?_)
    show ((1048576 : Int) : Rat) * (rtf n k * rtf n k + -((n : Int) : Rat)) + (((n : Int) * 1048576 - (r : Int) * r : Int) : Rat) = ((1024 : Int) : Rat) * rtf n k * (((1024 : Int) : Rat) * rtf n k) + -(((r : Int) : Rat) * ((r : Int) : Rat))
    rw [Rat.intCast_sub, Rat.intCast_mul, Rat.intCast_mul, c0, c1]
    grind
  · refine sq_nn' hh x0 (nn_eq (nn_add (nn_mul (int_nn (show (0 : Int) ≤ 1048576 by decide)) (rt_up n)) (int_nn (show (0 : Int) ≤ (h : Int) * h - (n : Int) * 1048576 by have : ((n * 1048576 : Nat) : Int) ≤ ((h * h : Nat) : Int) := Int.ofNat_le.2 h2; rw [Int.natCast_mul, Int.natCast_mul] at this; omega))) fun k => ?_)
    show ((1048576 : Int) : Rat) * (((n : Int) : Rat) + -(rtf n k * rtf n k)) + (((h : Int) * h - (n : Int) * 1048576 : Int) : Rat) = ((h : Int) : Rat) * ((h : Int) : Rat) + -(((1024 : Int) : Rat) * rtf n k * (((1024 : Int) : Rat) * rtf n k))
    rw [Rat.intCast_sub, Rat.intCast_mul, Rat.intCast_mul, c0, c1]
    grind
def lowZ (add s : Int) (r h : Nat) : Int := if s = 1 then add * 1024 + r else if s = -1 then add * 1024 - h else add * 1024
def highZ (add s : Int) (r h : Nat) : Int := if s = 1 then add * 1024 + h else if s = -1 then add * 1024 - r else add * 1024
theorem root_between {add s : Int} {n r h : Nat} (hs : s = 1 ∨ s = 0 ∨ s = -1) (h1 : r * r ≤ n * 1048576) (h2 : n * 1048576 ≤ h * h) :
    val (rootOf add s n 1).d.d = 1 ∧ nn ((mul 1024 (rv (rootOf add s n 1))).add (Re.int (lowZ add s r h)).neg) ∧ nn ((Re.int (highZ add s r h)).add (mul 1024 (rv (rootOf add s n 1))).neg) := by
  have c0 : ((1024 : Int) : Rat) = 1024 := rfl
  have z0 : ((0 : Int) : Rat) = 0 := rfl
  have z1 : ((1 : Int) : Rat) = 1 := rfl
  have n1 : ((1 : Nat) : Rat) = 1 := rfl
  have m1 : ((-1 : Int) : Rat) = -1 := rfl
  obtain ⟨b1, b2⟩ := rt_between h1 h2
  have hd : val (rootOf add s n 1).d.d = 1 := by
    unfold rootOf
    split
    · exact val_one_ofZ
    · show val (ofZ _).d = 1
      rw [Nat.gcd_one_right, val_ofZ]; rfl
  refine ⟨hd, ?_⟩
  have key : ∃ t : Int, (∀ k, (rv (rootOf add s n 1)).f k = (add : Rat) + (t : Rat) * rtf n k) ∧ ((t = s) ∨ (n = 0 ∧ t = 0)) := by
    by_cases hz : s = 0 ∨ n = 0
    · refine ⟨0, fun k => ?_, by omega⟩
      rw [rv_f, hd]
      have e : rootOf add s n 1 = ⟨add, 0, zero, ofZ 1⟩ := by unfold rootOf; rw [if_pos hz]
      rw [e]
      simp only
      rw [n1, z0]
      grind
    · refine ⟨s, fun k => ?_, .inl rfl⟩
      rw [rv_f, hd]
      have e : rootOf add s n 1 = ⟨add, s, ofZ (n : Int), ofZ 1⟩ := by unfold rootOf; rw [if_neg hz, Nat.gcd_one_right, Nat.div_one]; rfl
      rw [e]
      simp only
      rw [val_ofZ, Int.natAbs_natCast, Nat.mul_one, n1]
      grind
  obtain ⟨t, hv, ht⟩ := key
  have r0 : ∀ k, n = 0 → rtf n k = 0 := fun k hn => by rw [hn]; exact rtf_zero k
  have hh0 : nn (Re.int (h : Int)) := int_nn (by omega)
  have hr0 : n = 0 → r = 0 := fun hn => by
    rw [hn, Nat.zero_mul] at h1
    rcases Nat.eq_zero_or_pos r with g | g
    · exact g
    · have := Nat.mul_pos g g; omega
  rcases hs with rfl | rfl | rfl
  · have eL : lowZ add 1 r h = add * 1024 + r := by unfold lowZ; rw [if_pos rfl]
    have eH : highZ add 1 r h = add * 1024 + h := by unfold highZ; rw [if_pos rfl]
    rw [eL, eH]
    rcases ht with rfl | ⟨hn, rfl⟩
    · constructor
      · refine nn_eq b1 fun k => ?_
        rw [add_f, add_f, neg_f, neg_f, mul_f, mul_f, hv, int_f, int_f, Rat.intCast_add, Rat.intCast_mul, c0, z1]
        show 1024 * rtf n k + _ = _
        grind
      · refine nn_eq b2 fun k => ?_
        rw [add_f, add_f, neg_f, neg_f, mul_f, mul_f, hv, int_f, int_f, Rat.intCast_add, Rat.intCast_mul, c0, z1]
        show _ + -(1024 * rtf n k) = _
        grind
    · rw [hr0 hn]
      constructor
      · refine nn_of fun k => ?_
        rw [add_f, neg_f, mul_f, hv, int_f, Rat.intCast_add, Rat.intCast_mul, c0, z0]
        show 0 ≤ _ + -(_ + ((0 : Int) : Rat))
        rw [z0]
        grind
      · refine nn_eq hh0 fun k => ?_
        rw [add_f, neg_f, mul_f, hv, int_f, int_f, Rat.intCast_add, Rat.intCast_mul, c0, z0]
        grind
  · have eL : lowZ add 0 r h = add * 1024 := rfl
    have eH : highZ add 0 r h = add * 1024 := rfl
    rw [eL, eH]
    obtain rfl : t = 0 := by omega
    constructor
    · refine nn_of fun k => ?_
      rw [add_f, neg_f, mul_f, hv, int_f, Rat.intCast_mul, c0, z0]
      grind
    · refine nn_of fun k => ?_
      rw [add_f, neg_f, mul_f, hv, int_f, Rat.intCast_mul, c0, z0]
      grind
  · have eL : lowZ add (-1) r h = add * 1024 - h := rfl
    have eH : highZ add (-1) r h = add * 1024 - r := rfl
    rw [eL, eH]
    rcases ht with rfl | ⟨hn, rfl⟩
    · constructor
      · refine nn_eq b2 fun k => ?_
        rw [add_f, add_f, neg_f, neg_f, mul_f, mul_f, hv, int_f, int_f, Rat.intCast_sub, Rat.intCast_mul, c0, m1]
        show _ + -(1024 * rtf n k) = _
        grind
      · refine nn_eq b1 fun k => ?_
        rw [add_f, add_f, neg_f, neg_f, mul_f, mul_f, hv, int_f, int_f, Rat.intCast_sub, Rat.intCast_mul, c0, m1]
        show 1024 * rtf n k + _ = _
        grind
    · rw [hr0 hn]
      constructor
      · refine nn_eq hh0 fun k => ?_
        rw [add_f, neg_f, mul_f, hv, int_f, int_f, Rat.intCast_sub, Rat.intCast_mul, c0, z0]
        grind
      · refine nn_of fun k => ?_
        rw [add_f, neg_f, mul_f, hv, int_f, Rat.intCast_sub, Rat.intCast_mul, c0, z0]
        show 0 ≤ _ - ((0 : Int) : Rat) + _
        rw [z0]
        grind
theorem no_ps {x : Re} (h : ps x) (e : ∀ k, x.f k = 0) : False := by
  obtain ⟨d, N, hd, h⟩ := h
  have := h N (Nat.le_refl _)
  rw [e] at this
  grind
/-- Bounds that do not meet tell how roots compare. -/
theorem bounds_tell {a b : Rt} {c l0 h0 l1 h1 : Int} (ea : val a.d.d = 1) (eb : val b.d.d = 1) (hc : Sg c (df a b)) (la : nn ((mul 1024 (rv a)).add (Re.int l0).neg)) (ha : nn ((Re.int h0).add (mul 1024 (rv a)).neg))
    (lb : nn ((mul 1024 (rv b)).add (Re.int l1).neg)) (hb : nn ((Re.int h1).add (mul 1024 (rv b)).neg)) : (0 ≤ c → l1 ≤ h0 ∨ False) ∧ (c ≤ 0 → l0 ≤ h1) := by
  have n1 : ((1 : Nat) : Rat) = 1 := rfl
  have c0 : ((1024 : Int) : Rat) = 1024 := rfl
  have ed : ∀ k, (df a b).f k = (rv a).f k - (rv b).f k := fun k => by
    rw [df_f, rv_f, rv_f, ea, eb, n1]
    grind
  have up : 0 ≤ c → nn (df a b) := fun h => by
    rcases hc with ⟨_, g⟩ | ⟨_, g, _⟩ | ⟨g, _⟩
    · exact ps_nn g
    · exact g
    · omega
  have dn : c ≤ 0 → nn (df a b).neg := fun h => by
    rcases hc with ⟨g, _⟩ | ⟨_, _, g⟩ | ⟨_, g⟩
    · omega
    · exact g
    · exact ps_nn g
  have k0 : nn (Re.int 1024) := int_nn (by decide)
  constructor
  · intro h
    left
    apply Classical.byContradiction
    intro hn
    refine no_ps (ps_add (int_ps (show 0 < l1 - h0 by omega)) (nn_add (nn_mul k0 (up h)) (nn_add ha lb))) fun k => ?_
    show ((l1 - h0 : Int) : Rat) + (((1024 : Int) : Rat) * (df a b).f k + (((h0 : Int) : Rat) + -(((1024 : Int) : Rat) * (rv a).f k) + (((1024 : Int) : Rat) * (rv b).f k + -((l1 : Int) : Rat)))) = 0
    rw [ed, c0, Rat.intCast_sub]
    grind
  · intro h
    apply Classical.byContradiction
    intro hn
    refine no_ps (ps_add (int_ps (show 0 < l0 - h1 by omega)) (nn_add (nn_mul k0 (dn h)) (nn_add la hb))) fun k => ?_
    show ((l0 - h1 : Int) : Rat) + (((1024 : Int) : Rat) * -(df a b).f k + (((1024 : Int) : Rat) * (rv a).f k + -((l0 : Int) : Rat) + (((h1 : Int) : Rat) + -(((1024 : Int) : Rat) * (rv b).f k)))) = 0
    rw [ed, c0, Rat.intCast_sub]
    grind
end Go.Proofs.YtghgggaimijcaaaDoor
