/- Plain and contracts for the laws NumBack and NumGcds. | The walk of the law NumBack. -/
import Derived.Test.YtdaaknfmodbjcaaDoorJ20
import Derived.Test.YtdaaknfmodbjcaaDoorJ15
import Derived.Test.YtdaaknfmodbjcaaDoorJ18
set_option linter.unusedVariables false
set_option linter.unusedSimpArgs false

namespace Go.Proofs.YtdaaknfmodbjcaaDoor
open Go.RowKit

theorem div_all (a b : Nm) (r : Nm × Nm × Bool) (na nb : Bool) (pa pb : Option Addr) (la ca lb cb : Nat) (w : World) (ha : NR w na pa la ca a) (hb : NR w nb pb lb cb b) (h : divP a b = r) :
    Calls Tryd.prog 11 #[.agg #[.bool na, .slice pa la ca], .agg #[.bool nb, .slice pb lb cb]] w (RetDiv w r) :=
  h ▸ num_Div a b na nb pa pb la ca lb cb w ha hb (fun ra rb h0 W hx => divOn_all a.d b.d pa pb la ca lb cb W (ha.2.2.ext hx) (hb.2.2.ext hx) ha.2.1 hb.2.1 (a.right_iff.1 ra).2.1 (b.right_iff.1 rb).2.1 (a.right_iff.1 ra).1 h0 (b.right_iff.1 rb).1)
theorem gcd_all (a b : Nm) (r : Nm × Bool) (na nb : Bool) (pa pb : Option Addr) (la ca lb cb : Nat) (w : World) (ha : NR w na pa la ca a) (hb : NR w nb pb lb cb b) (rb : b.right = true) (h : gcdP a b = r) :
    Calls Tryd.prog 13 #[.agg #[.bool na, .slice pa la ca], .agg #[.bool nb, .slice pb lb cb]] w (RetNum w r) :=
  h ▸ num_Gcd a b na nb pa pb la ca lb cb w ha hb 64 (b.right_iff.1 rb).1 divOn_all
theorem val_ofZ (z : Int) : val (ofZ z).d = z.natAbs := val_digs _
theorem len_ofZ (z : Int) : (ofZ z).d.length = 0 ↔ z = 0 := by
  simp only [ofZ]
  constructor
  · intro h; have := digs_eq_nil.1 (List.eq_nil_of_length_eq_zero h); omega
  · rintro rfl; rw [Int.natAbs_zero, digs_zero]; rfl
theorem divP_of {x : Int} {n : Nat} (hx : small x = true) (hn : small (n : Int) = true) (h0 : 0 < n) : divP (ofZ x) (ofZ (n : Int)) = (ofZ (x / (n : Int)), ofZ (x % (n : Int)), true) := by
  have hl : 0 < (ofZ (n : Int)).d.length := by
    rcases Nat.eq_zero_or_pos (ofZ (n : Int)).d.length with g | g
    · have := (len_ofZ _).1 g; omega
    · exact g
  rw [divP_yes (ofZ_right hx) (ofZ_right hn) (by simp [ofZ]) hl, ofZ_z, val_ofZ, Int.natAbs_natCast]
theorem divP_none {x : Int} : divP (ofZ x) (ofZ ((0 : Nat) : Int)) = (zero, zero, false) := divP_no (.inr (.inr (.inr ((len_ofZ _).2 rfl))))
theorem gcdP_of {x y : Int} (hx : small x = true) (hy : small y = true) : gcdP (ofZ x) (ofZ y) = (ofZ ((Nat.gcd x.natAbs y.natAbs : Nat) : Int), true) := by
  unfold gcdP
  rw [ofZ_right hx, ofZ_right hy, val_ofZ, val_ofZ]
  rfl
theorem cmpP_ofZ {x y : Int} (hx : small x = true) (hy : small y = true) : cmpP (ofZ x) (ofZ y) = if x < y then -1 else if x = y then 0 else 1 := by
  unfold cmpP
  rw [ofZ_right hx, ofZ_right hy, ofZ_z, ofZ_z]
  rfl
theorem neg_ofZ {n : Nat} : (ofZ (n : Int)).neg = false := by simp [ofZ]

/-- A quotient times the divisor, and the rest. -/
theorem back_ok {x : Int} {n : Nat} (hx : x.natAbs < M6) (hn : n < M6) (h0 : 0 < n) : ∃ q r : Int, divP (ofZ x) (ofZ (n : Int)) = (ofZ q, ofZ r, true) ∧ mulP (ofZ q) (ofZ (n : Int)) = (ofZ (q * n), true) ∧ addP (ofZ (q * n)) (ofZ r) = (ofZ x, true) ∧
    (ofZ r).neg = false ∧ cmpP (ofZ r) (ofZ (n : Int)) = -1 ∧ (ofZ q).right = true ∧ (ofZ r).right = true := by
  have hM : M6 ≤ M6 * M6 := by decide +kernel
  have h0' : 0 < M6 * M6 := by decide +kernel
  have e := Int.mul_ediv_add_emod x (n : Int)
  have h1 := Int.emod_nonneg x (show (n : Int) ≠ 0 by omega)
  have h2 := Int.emod_lt_of_pos x (show (0 : Int) < (n : Int) by omega)
  have e2 : x / (n : Int) * (n : Int) = x - x % (n : Int) := by rw [Int.mul_comm]; omega
  have h3 : (x / (n : Int)).natAbs ≤ x.natAbs + n := by
    have h4 : (x / (n : Int)).natAbs * 1 ≤ (x / (n : Int)).natAbs * n := Nat.mul_le_mul_left _ h0
    have h5 : (x / (n : Int) * (n : Int)).natAbs = (x / (n : Int)).natAbs * n := by rw [Int.natAbs_mul]; rfl
    rw [← h5, e2] at h4
    omega
  have sx : small x = true := small_M (by omega)
  have sn : small (n : Int) = true := small_M (by omega)
  have sr : small (x % (n : Int)) = true := small_M (by omega)
  have sq : small (x / (n : Int)) = true := small_M (by omega)
  have sp : small (x / (n : Int) * (n : Int)) = true := small_M (by rw [e2]; omega)
  refine ⟨x / (n : Int), x % (n : Int), divP_of sx sn h0, mulP_of sq sn sp, ?_, ?_, ?_, ofZ_right sq, ofZ_right sr⟩
  · have := addP_of sp sr (by rw [e2, Int.sub_add_cancel]; exact sx)
    rwa [show x / (n : Int) * (n : Int) + x % (n : Int) = x by omega] at this
  · simp [ofZ]; omega
  · rw [cmpP_ofZ sr sn, if_pos h2]
/-- The greatest common divisor. -/
theorem gcds_ok {x y : Int} {n : Nat} (hx : x.natAbs < M6) (hy : y.natAbs < M6) (hn : n < M6) : ∃ g : Nat, gcdP (ofZ x) (ofZ y) = (ofZ (g : Int), true) ∧ (0 < g → (∃ q, divP (ofZ x) (ofZ (g : Int)) = (q, ⟨false, []⟩, true)) ∧ ∃ q, divP (ofZ y) (ofZ (g : Int)) = (q, ⟨false, []⟩, true)) ∧
    mulP (ofZ x) (ofZ (n : Int)) = (ofZ (x * n), true) ∧ mulP (ofZ y) (ofZ (n : Int)) = (ofZ (y * n), true) ∧ mulP (ofZ (g : Int)) (ofZ (n : Int)) = (ofZ ((g * n : Nat) : Int), true) ∧
    gcdP (ofZ (x * n)) (ofZ (y * n)) = (ofZ ((g * n : Nat) : Int), true) ∧ gcdP (ofZ (n : Int)) (ofZ (x * n)) = (ofZ (n : Int), true) ∧ (ofZ y).right = true ∧ (ofZ (y * n)).right = true ∧ (ofZ (x * n)).right = true := by
  have hM : M6 ≤ M6 * M6 := by decide +kernel
  have h0' : 0 < M6 * M6 := by decide +kernel
  have h1 : (x * (n : Int)).natAbs < M6 * M6 := by rw [Int.natAbs_mul, Int.natAbs_natCast]; exact Nat.mul_lt_mul'' hx hn
  have h2 : (y * (n : Int)).natAbs < M6 * M6 := by rw [Int.natAbs_mul, Int.natAbs_natCast]; exact Nat.mul_lt_mul'' hy hn
  have hg : Nat.gcd x.natAbs y.natAbs < M6 := by
    rcases Nat.eq_zero_or_pos x.natAbs with h | h
    · rw [h, Nat.gcd_zero_left]; exact hy
    · exact Nat.lt_of_le_of_lt (Nat.gcd_le_left _ h) hx
  have h3 : Nat.gcd x.natAbs y.natAbs * n < M6 * M6 := Nat.mul_lt_mul'' hg hn
  have sx : small x = true := small_M (by omega)
  have sy : small y = true := small_M (by omega)
  have sn : small (n : Int) = true := small_M (by omega)
  have sg : small ((Nat.gcd x.natAbs y.natAbs : Nat) : Int) = true := small_M (by omega)
  have sxn : small (x * (n : Int)) = true := small_M (by omega)
  have syn : small (y * (n : Int)) = true := small_M (by omega)
  have sgn : small ((Nat.gcd x.natAbs y.natAbs * n : Nat) : Int) = true := small_M (by omega)
  have dz : ∀ z : Int, small z = true → (Nat.gcd x.natAbs y.natAbs) ∣ z.natAbs → 0 < Nat.gcd x.natAbs y.natAbs → ∃ q, divP (ofZ z) (ofZ ((Nat.gcd x.natAbs y.natAbs : Nat) : Int)) = (q, ⟨false, []⟩, true) := by
    intro z sz hd h0
    refine ⟨ofZ (z / ((Nat.gcd x.natAbs y.natAbs : Nat) : Int)), ?_⟩
    rw [divP_of sz sg h0]
    have : z % ((Nat.gcd x.natAbs y.natAbs : Nat) : Int) = 0 := Int.emod_eq_zero_of_dvd (Int.ofNat_dvd_left.2 hd)
    rw [this, lit_0]
  refine ⟨Nat.gcd x.natAbs y.natAbs, gcdP_of sx sy, fun h0 => ⟨dz x sx (Nat.gcd_dvd_left _ _) h0, dz y sy (Nat.gcd_dvd_right _ _) h0⟩, mulP_of sx sn sxn, mulP_of sy sn syn, ?_, ?_, ?_, ofZ_right sy, ofZ_right syn, ofZ_right sxn⟩
  · have := mulP_of sg sn (by rw [← Int.natCast_mul]; exact sgn)
    rwa [← Int.natCast_mul] at this
  · rw [gcdP_of sxn syn, Int.natAbs_mul, Int.natAbs_mul, Int.natAbs_natCast, Nat.gcd_mul_right]
  · rw [gcdP_of sn sxn, Int.natAbs_mul, Int.natAbs_natCast, Nat.gcd_mul_left_right]
/-- A made number, without its sign. -/
theorem made_abs (p : Option Addr) (l c : Nat) (w : World) (hz : Ints w p l c) : Calls Tryd.prog 10 #[.slice p l c] w fun e w' =>
    ∃ (g : Bool) (q : Option Addr) (k d : Nat) (n : Nat), e = .returned (.agg #[.bool g, .slice q k d]) ∧ NR w' false q k d (ofZ (n : Int)) ∧ n < M6 ∧ (k = 0 ↔ n = 0) ∧ Ext w w' := by
  refine (r01_Made p l c w hz).mono ?_
  rintro e w' ⟨g, q, k, d, X, rfl, h1, h2, h3, h4⟩
  have hX := abs_ofZ h1.2.2.dig h2
  refine ⟨g, q, k, d, val X.d, rfl, ?_, ?_, ?_, h4⟩
  · rw [← hX]; exact ⟨rfl, h1.2.1, h1.2.2⟩
  · rw [M6_eq]
    exact Nat.lt_of_lt_of_le (val_lt h1.2.2.dig) (Nat.pow_le_pow_right (by omega) h3)
  · have hk := h1.2.1
    constructor
    · intro h
      rw [List.eq_nil_of_length_eq_zero (hk.symm.trans h)]; rfl
    · intro h
      rcases Nat.eq_zero_or_pos X.d.length with g | g
      · exact hk.trans g
      · have := tight_pos (X.right_iff.1 h2).2.1 g; omega
end Go.Proofs.YtdaaknfmodbjcaaDoor

namespace Go.Proofs.YtdaaknfmodbjcaaDoor
open Go.RowKit

set_option maxRecDepth 100000 in
set_option maxHeartbeats 16000000 in
theorem Back_core (p0 : Option Addr) (l0 c0 : Nat) (p1 : Option Addr) (l1 c1 : Nat) (w : World) (i0 : Ints w p0 l0 c0) (i1 : Ints w p1 l1 c1) (ht : Tab w) :
    Calls Tryd.prog 8 #[.slice p0 l0 c0, .slice p1 l1 c1] w fun e w' => e = .returned (.bool true) ∧ Ext w w' := by
  have TB := Lib.hid ht
  have Ia := Lib.hid i0
  have Ib := Lib.hid i1
  clear ht i0 i1
  go_enter Tryd.func8, Tryd.ntmps8
  have EX : Ext w w := Below.refl _ _
  go_wp2_with fail
  refine (law_sanity1 _ (TB.out.ext (by (repeat (first | exact Below.refl _ _ | assumption | refine Below.drewN ?_ _ | refine Below.drew ?_ | refine Below.setCell ?_ (by first | exact Nat.le_refl _ | (simp; done) | (simp; omega) | omega) _ | refine Below.alloc ?_ (by first | exact Nat.le_refl _ | (simp; done) | (simp; omega) | omega) _))))).mono ?_
  rintro e w1 ⟨rfl, hx1⟩
  have ex1 : Ext w w1 := Ext.step (by (repeat (first | exact Below.refl _ _ | assumption | refine Below.drewN ?_ _ | refine Below.drew ?_ | refine Below.setCell ?_ (by first | exact Nat.le_refl _ | (simp; done) | (simp; omega) | omega) _ | refine Below.alloc ?_ (by first | exact Nat.le_refl _ | (simp; done) | (simp; omega) | omega) _))) hx1
  replace EX := EX.trans (ex1.mono EX.size)
  clear hx1
  go_wp2_with fail
  refine (made_z _ _ _ _ ((Ia.out).ext (EX.trans (by (repeat (first | exact Below.refl _ _ | assumption | refine Below.drewN ?_ _ | refine Below.drew ?_ | refine Below.setCell ?_ (by first | exact Nat.le_refl _ | (simp; done) | (simp; omega) | omega) _ | refine Below.alloc ?_ (by first | exact Nat.le_refl _ | (simp; done) | (simp; omega) | omega) _)))))).mono ?_
  rintro e w2 ⟨ga, pa, la, ca, xa, rfl, na, ba, hx2⟩
  have ex2 : Ext w1 w2 := Ext.step (by (repeat (first | exact Below.refl _ _ | assumption | refine Below.drewN ?_ _ | refine Below.drew ?_ | refine Below.setCell ?_ (by first | exact Nat.le_refl _ | (simp; done) | (simp; omega) | omega) _ | refine Below.alloc ?_ (by first | exact Nat.le_refl _ | (simp; done) | (simp; omega) | omega) _))) hx2
  replace EX := EX.trans (ex2.mono EX.size)
  clear hx2
  go_wp2_with fail
  refine (made_abs _ _ _ _ ((Ib.out).ext (EX.trans (by (repeat (first | exact Below.refl _ _ | assumption | refine Below.drewN ?_ _ | refine Below.drew ?_ | refine Below.setCell ?_ (by first | exact Nat.le_refl _ | (simp; done) | (simp; omega) | omega) _ | refine Below.alloc ?_ (by first | exact Nat.le_refl _ | (simp; done) | (simp; omega) | omega) _)))))).mono ?_
  rintro e w3 ⟨gb, pb, lb, cb, n, rfl, nb, bb, hb0, hx3⟩
  have ex3 : Ext w2 w3 := Ext.step (by (repeat (first | exact Below.refl _ _ | assumption | refine Below.drewN ?_ _ | refine Below.drew ?_ | refine Below.setCell ?_ (by first | exact Nat.le_refl _ | (simp; done) | (simp; omega) | omega) _ | refine Below.alloc ?_ (by first | exact Nat.le_refl _ | (simp; done) | (simp; omega) | omega) _))) hx3
  replace na := na.ext ex3
  replace EX := EX.trans (ex3.mono EX.size)
  clear hx3
  by_cases hl : lb = 0
  · have hn0 : n = 0 := hb0.1 hl
    subst hl hn0
    clear hb0
    go_wp2_with fail
    refine (div_all _ _ (zero, zero, false) _ _ _ _ _ _ _ _ _ (na.ext (by (repeat (first | exact Below.refl _ _ | assumption | refine Below.drewN ?_ _ | refine Below.drew ?_ | refine Below.setCell ?_ (by first | exact Nat.le_refl _ | (simp; done) | (simp; omega) | omega) _ | refine Below.alloc ?_ (by first | exact Nat.le_refl _ | (simp; done) | (simp; omega) | omega) _)))) (nb.ext (by (repeat (first | exact Below.refl _ _ | assumption | refine Below.drewN ?_ _ | refine Below.drew ?_ | refine Below.setCell ?_ (by first | exact Nat.le_refl _ | (simp; done) | (simp; omega) | omega) _ | refine Below.alloc ?_ (by first | exact Nat.le_refl _ | (simp; done) | (simp; omega) | omega) _)))) divP_none).mono ?_
    rintro e w4 ⟨gq, pq, lq, cq, gr, pr, lr, cr, rfl, nq, nr, _, _, hx4⟩
    have ex4 : Ext w3 w4 := Ext.step (by (repeat (first | exact Below.refl _ _ | assumption | refine Below.drewN ?_ _ | refine Below.drew ?_ | refine Below.setCell ?_ (by first | exact Nat.le_refl _ | (simp; done) | (simp; omega) | omega) _ | refine Below.alloc ?_ (by first | exact Nat.le_refl _ | (simp; done) | (simp; omega) | omega) _))) hx4
    obtain ⟨vA, vB⟩ := VB.new2 na nb hx4
    replace na := na.ext ex4
    replace nb := nb.ext ex4
    replace EX := EX.trans (ex4.mono EX.size)
    clear hx4
    obtain ⟨qA1, qA2, qA3, qA4⟩ := vA
    obtain ⟨qB1, qB2, qB3, qB4⟩ := vB
    go_wp2
    go_ret
    exact ⟨rfl, (EX.alloc EX.size _).alloc (by have := EX.size; simp; omega) _⟩
  · have hn0 : 0 < n := Nat.pos_of_ne_zero (fun h => hl (hb0.2 h))
    have e0 : ((lb : Int) == 0) = false := by rw [beq_eq_false_iff_ne]; omega
    clear hb0
    obtain ⟨q, r, R1, R2, R3, R4, R5, R6, R7⟩ := back_ok ba bb hn0
    generalize HU : q * (n : Int) = u at R2 R3
    obtain ⟨nn, NN⟩ : ∃ z, (n : Int) = z := ⟨_, rfl⟩
    rw [NN] at R1 R2 R5 nb
    clear ba bb HU hn0 NN
    go_wp2_with fail
    refine (div_all _ _ (ofZ q, ofZ r, true) _ _ _ _ _ _ _ _ _ (na.ext (by (repeat (first | exact Below.refl _ _ | assumption | refine Below.drewN ?_ _ | refine Below.drew ?_ | refine Below.setCell ?_ (by first | exact Nat.le_refl _ | (simp; done) | (simp; omega) | omega) _ | refine Below.alloc ?_ (by first | exact Nat.le_refl _ | (simp; done) | (simp; omega) | omega) _)))) (nb.ext (by (repeat (first | exact Below.refl _ _ | assumption | refine Below.drewN ?_ _ | refine Below.drew ?_ | refine Below.setCell ?_ (by first | exact Nat.le_refl _ | (simp; done) | (simp; omega) | omega) _ | refine Below.alloc ?_ (by first | exact Nat.le_refl _ | (simp; done) | (simp; omega) | omega) _)))) R1).mono ?_
    rintro e w4 ⟨gq, pq, lq, cq, gr, pr, lr, cr, rfl, nq, nr, _, _, hx4⟩
    have ex4 : Ext w3 w4 := Ext.step (by (repeat (first | exact Below.refl _ _ | assumption | refine Below.drewN ?_ _ | refine Below.drew ?_ | refine Below.setCell ?_ (by first | exact Nat.le_refl _ | (simp; done) | (simp; omega) | omega) _ | refine Below.alloc ?_ (by first | exact Nat.le_refl _ | (simp; done) | (simp; omega) | omega) _))) hx4
    obtain ⟨vA, vB⟩ := VB.new2 na nb hx4
    replace na := na.ext ex4
    replace nb := nb.ext ex4
    replace EX := EX.trans (ex4.mono EX.size)
    clear hx4
    obtain ⟨qB1, qB2, qB3, qB4⟩ := id vB
    obtain ⟨qA1, qA2, qA3, qA4⟩ := id vA
    go_wp2_with fail
    refine (ret_num (num_Mul _ _ _ _ _ _ _ _ _ _ _ (nq.ext (by (repeat (first | exact Below.refl _ _ | assumption | refine Below.drewN ?_ _ | refine Below.drew ?_ | refine Below.setCell ?_ (by first | exact Nat.le_refl _ | (simp; done) | (simp; omega) | omega) _ | refine Below.alloc ?_ (by first | exact Nat.le_refl _ | (simp; done) | (simp; omega) | omega) _)))) (qB4.ext (by (repeat (first | exact Below.refl _ _ | assumption | refine Below.drewN ?_ _ | refine Below.drew ?_ | refine Below.setCell ?_ (by first | exact Nat.le_refl _ | (simp; done) | (simp; omega) | omega) _ | refine Below.alloc ?_ (by first | exact Nat.le_refl _ | (simp; done) | (simp; omega) | omega) _))))) R2).mono ?_
    rintro e w5 ⟨gp, pp, lp, cp, rfl, np, _, hx5⟩
    have ex5 : Ext w4 w5 := Ext.step (by (repeat (first | exact Below.refl _ _ | assumption | refine Below.drewN ?_ _ | refine Below.drew ?_ | refine Below.setCell ?_ (by first | exact Nat.le_refl _ | (simp; done) | (simp; omega) | omega) _ | refine Below.alloc ?_ (by first | exact Nat.le_refl _ | (simp; done) | (simp; omega) | omega) _))) hx5
    obtain ⟨vQ, vR⟩ := VB.new2 nq nr hx5
    replace vA := vA.ext ex5
    replace vB := vB.ext ex5
    replace nq := nq.ext ex5
    replace nr := nr.ext ex5
    replace EX := EX.trans (ex5.mono EX.size)
    clear hx5
    clear qB1 qB2 qB3 qB4
    clear qA1 qA2 qA3 qA4
    obtain ⟨qR1, qR2, qR3, qR4⟩ := id vR
    go_wp2_with fail
    refine (ret_num (num_Add _ _ _ _ _ _ _ _ _ _ _ (np.ext (by (repeat (first | exact Below.refl _ _ | assumption | refine Below.drewN ?_ _ | refine Below.drew ?_ | refine Below.setCell ?_ (by first | exact Nat.le_refl _ | (simp; done) | (simp; omega) | omega) _ | refine Below.alloc ?_ (by first | exact Nat.le_refl _ | (simp; done) | (simp; omega) | omega) _)))) (qR4.ext (by (repeat (first | exact Below.refl _ _ | assumption | refine Below.drewN ?_ _ | refine Below.drew ?_ | refine Below.setCell ?_ (by first | exact Nat.le_refl _ | (simp; done) | (simp; omega) | omega) _ | refine Below.alloc ?_ (by first | exact Nat.le_refl _ | (simp; done) | (simp; omega) | omega) _))))) R3).mono ?_
    rintro e w6 ⟨gs, ps, ls, cs, rfl, ns, _, hx6⟩
    have ex6 : Ext w5 w6 := Ext.step (by (repeat (first | exact Below.refl _ _ | assumption | refine Below.drewN ?_ _ | refine Below.drew ?_ | refine Below.setCell ?_ (by first | exact Nat.le_refl _ | (simp; done) | (simp; omega) | omega) _ | refine Below.alloc ?_ (by first | exact Nat.le_refl _ | (simp; done) | (simp; omega) | omega) _))) hx6
    have vP := VB.new np hx6
    replace vA := vA.ext ex6
    replace vB := vB.ext ex6
    replace vQ := vQ.ext ex6
    replace vR := vR.ext ex6
    replace np := np.ext ex6
    replace EX := EX.trans (ex6.mono EX.size)
    clear hx6
    clear qR1 qR2 qR3 qR4
    obtain ⟨qA1, qA2, qA3, qA4⟩ := id vA
    go_wp2_with fail
    refine (same_yes _ _ _ _ _ _ _ _ _ _ _ (ns.ext (by (repeat (first | exact Below.refl _ _ | assumption | refine Below.drewN ?_ _ | refine Below.drew ?_ | refine Below.setCell ?_ (by first | exact Nat.le_refl _ | (simp; done) | (simp; omega) | omega) _ | refine Below.alloc ?_ (by first | exact Nat.le_refl _ | (simp; done) | (simp; omega) | omega) _)))) (qA4.ext (by (repeat (first | exact Below.refl _ _ | assumption | refine Below.drewN ?_ _ | refine Below.drew ?_ | refine Below.setCell ?_ (by first | exact Nat.le_refl _ | (simp; done) | (simp; omega) | omega) _ | refine Below.alloc ?_ (by first | exact Nat.le_refl _ | (simp; done) | (simp; omega) | omega) _)))) rfl).mono ?_
    rintro e w7 ⟨rfl, hx7⟩
    have ex7 : Ext w6 w7 := Ext.step (by (repeat (first | exact Below.refl _ _ | assumption | refine Below.drewN ?_ _ | refine Below.drew ?_ | refine Below.setCell ?_ (by first | exact Nat.le_refl _ | (simp; done) | (simp; omega) | omega) _ | refine Below.alloc ?_ (by first | exact Nat.le_refl _ | (simp; done) | (simp; omega) | omega) _))) hx7
    have vS := VB.new ns hx7
    replace vA := vA.ext ex7
    replace vB := vB.ext ex7
    replace vQ := vQ.ext ex7
    replace vR := vR.ext ex7
    replace vP := vP.ext ex7
    replace ns := ns.ext ex7
    replace EX := EX.trans (ex7.mono EX.size)
    clear hx7
    clear qA1 qA2 qA3 qA4
    have hrn : gr = false := by obtain ⟨z, _⟩ := id vR; exact vR.2.2.2.1.trans R4
    subst hrn
    obtain ⟨qR1, qR2, qR3, qR4⟩ := id vR
    obtain ⟨qB1, qB2, qB3, qB4⟩ := id vB
    go_wp2_with fail
    refine (num_Cmp _ _ _ _ _ _ _ _ _ _ _ (qR4.ext (by (repeat (first | exact Below.refl _ _ | assumption | refine Below.drewN ?_ _ | refine Below.drew ?_ | refine Below.setCell ?_ (by first | exact Nat.le_refl _ | (simp; done) | (simp; omega) | omega) _ | refine Below.alloc ?_ (by first | exact Nat.le_refl _ | (simp; done) | (simp; omega) | omega) _)))) (qB4.ext (by (repeat (first | exact Below.refl _ _ | assumption | refine Below.drewN ?_ _ | refine Below.drew ?_ | refine Below.setCell ?_ (by first | exact Nat.le_refl _ | (simp; done) | (simp; omega) | omega) _ | refine Below.alloc ?_ (by first | exact Nat.le_refl _ | (simp; done) | (simp; omega) | omega) _))))).mono ?_
    rintro e w8 ⟨rfl, hx8⟩
    have ex8 : Ext w7 w8 := Ext.step (by (repeat (first | exact Below.refl _ _ | assumption | refine Below.drewN ?_ _ | refine Below.drew ?_ | refine Below.setCell ?_ (by first | exact Nat.le_refl _ | (simp; done) | (simp; omega) | omega) _ | refine Below.alloc ?_ (by first | exact Nat.le_refl _ | (simp; done) | (simp; omega) | omega) _))) hx8
    replace vA := vA.ext ex8
    replace vB := vB.ext ex8
    replace vQ := vQ.ext ex8
    replace vR := vR.ext ex8
    replace vP := vP.ext ex8
    replace vS := vS.ext ex8
    replace EX := EX.trans (ex8.mono EX.size)
    clear hx8
    clear qR1 qR2 qR3 qR4
    clear qB1 qB2 qB3 qB4
    rw [R5]
    obtain ⟨qQ1, qQ2, qQ3, qQ4⟩ := id vQ
    go_wp2_with fail
    refine (num_Right _ _ _ _ _ _ (qQ4.ext (by (repeat (first | exact Below.refl _ _ | assumption | refine Below.drewN ?_ _ | refine Below.drew ?_ | refine Below.setCell ?_ (by first | exact Nat.le_refl _ | (simp; done) | (simp; omega) | omega) _ | refine Below.alloc ?_ (by first | exact Nat.le_refl _ | (simp; done) | (simp; omega) | omega) _))))).mono ?_
    rintro e w9 ⟨rfl, hx9⟩
    have ex9 : Ext w8 w9 := Ext.step (by (repeat (first | exact Below.refl _ _ | assumption | refine Below.drewN ?_ _ | refine Below.drew ?_ | refine Below.setCell ?_ (by first | exact Nat.le_refl _ | (simp; done) | (simp; omega) | omega) _ | refine Below.alloc ?_ (by first | exact Nat.le_refl _ | (simp; done) | (simp; omega) | omega) _))) hx9
    replace vA := vA.ext ex9
    replace vB := vB.ext ex9
    replace vQ := vQ.ext ex9
    replace vR := vR.ext ex9
    replace vP := vP.ext ex9
    replace vS := vS.ext ex9
    replace EX := EX.trans (ex9.mono EX.size)
    clear hx9
    clear qQ1 qQ2 qQ3 qQ4
    rw [R6]
    obtain ⟨qR1, qR2, qR3, qR4⟩ := id vR
    go_wp2_with fail
    refine (num_Right _ _ _ _ _ _ (qR4.ext (by (repeat (first | exact Below.refl _ _ | assumption | refine Below.drewN ?_ _ | refine Below.drew ?_ | refine Below.setCell ?_ (by first | exact Nat.le_refl _ | (simp; done) | (simp; omega) | omega) _ | refine Below.alloc ?_ (by first | exact Nat.le_refl _ | (simp; done) | (simp; omega) | omega) _))))).mono ?_
    rintro e w10 ⟨rfl, hx10⟩
    have ex10 : Ext w9 w10 := Ext.step (by (repeat (first | exact Below.refl _ _ | assumption | refine Below.drewN ?_ _ | refine Below.drew ?_ | refine Below.setCell ?_ (by first | exact Nat.le_refl _ | (simp; done) | (simp; omega) | omega) _ | refine Below.alloc ?_ (by first | exact Nat.le_refl _ | (simp; done) | (simp; omega) | omega) _))) hx10
    replace vA := vA.ext ex10
    replace vB := vB.ext ex10
    replace vQ := vQ.ext ex10
    replace vR := vR.ext ex10
    replace vP := vP.ext ex10
    replace vS := vS.ext ex10
    replace EX := EX.trans (ex10.mono EX.size)
    clear hx10
    clear qR1 qR2 qR3 qR4
    rw [R7]
    go_wp2
    go_ret
    exact ⟨rfl, EX⟩
end Go.Proofs.YtdaaknfmodbjcaaDoor
