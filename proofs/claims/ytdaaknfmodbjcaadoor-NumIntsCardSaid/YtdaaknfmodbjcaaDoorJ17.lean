/- The walk of the law NumInts. -/
import Derived.Test.YtdaaknfmodbjcaaDoorJ15
set_option linter.unusedVariables false
set_option linter.unusedSimpArgs false

namespace Go.Proofs.YtdaaknfmodbjcaaDoor
open Go.RowKit

theorem small_int {n : Int} (h : -9223372036854775808 ≤ n ∧ n ≤ 9223372036854775807) : small n = true := by
  refine small_M ?_
  have : (9223372036854775809 : Nat) < 4 * (M6 * M6) := by decide +kernel
  omega
theorem intP_of {n : Int} (h : -9223372036854775808 ≤ n ∧ n ≤ 9223372036854775807) : intP (ofZ n) = (n, true) := by
  unfold intP
  have hl : (ofZ n).d.length ≤ 2 := by
    simp only [ofZ]
    refine (digs_length_le _ _).2 ?_
    have : (9223372036854775809 : Nat) < 4294967296 ^ 2 := by decide +kernel
    omega
  rw [ofZ_right (small_int h), ofZ_z, if_pos]
  simp [hl, h.1, h.2]
theorem cmpP_of {n m : Int} (h : -9223372036854775808 ≤ n ∧ n ≤ 9223372036854775807) (k : -9223372036854775808 ≤ m ∧ m ≤ 9223372036854775807) : cmpP (ofZ n) (ofZ m) = if n < m then -1 else if n = m then 0 else 1 := by
  unfold cmpP
  rw [ofZ_right (small_int h), ofZ_right (small_int k), ofZ_z, ofZ_z]
  rfl
theorem mod31 (n : Int) : -2147483648 < n.tmod 2147483648 ∧ n.tmod 2147483648 < 2147483648 := by
  constructor
  · have := Int.tmod_lt_of_pos (-n) (show (0 : Int) < 2147483648 by omega)
    rw [Int.neg_tmod] at this
    omega
  · exact Int.tmod_lt_of_pos n (by omega)

set_option maxRecDepth 100000 in
set_option maxHeartbeats 16000000 in
theorem Ints_core (n m : Int) (w : World) (hn : -9223372036854775808 ≤ n ∧ n ≤ 9223372036854775807) (hm : -9223372036854775808 ≤ m ∧ m ≤ 9223372036854775807) (ht : Tab w) :
    Calls Tryd.prog 7 #[.int .i64 n, .int .i64 m] w fun e w' => e = .returned (.bool true) ∧ Ext w w' := by
  have TB := Lib.hid ht
  have I0 := intP_of hn
  have RN : (ofZ n).right = true := ofZ_right (small_int hn)
  have a1 := mod31 n
  have b1 := mod31 m
  obtain ⟨a, HA⟩ : ∃ a, n.tmod 2147483648 = a := ⟨_, rfl⟩
  obtain ⟨b, HB⟩ : ∃ b, m.tmod 2147483648 = b := ⟨_, rfl⟩
  rw [HA] at a1
  rw [HB] at b1
  have ha : -9223372036854775808 ≤ a ∧ a ≤ 9223372036854775807 := by omega
  have hb : -9223372036854775808 ≤ b ∧ b ≤ 9223372036854775807 := by omega
  have hp : -9223372036854775808 ≤ a * b ∧ a * b ≤ 9223372036854775807 := by
    have h1 : (a * b).natAbs ≤ 2147483648 * 2147483648 := by rw [Int.natAbs_mul]; exact Nat.mul_le_mul (by omega) (by omega)
    omega
  have hs : -9223372036854775808 ≤ a + b ∧ a + b ≤ 9223372036854775807 := by omega
  have hd : -9223372036854775808 ≤ a - b ∧ a - b ≤ 9223372036854775807 := by omega
  have R1 := addP_of (small_int ha) (small_int hb) (small_int hs)
  have R2 := subP_of (small_int ha) (small_int hb) (small_int hd)
  have R3 := mulP_of (small_int ha) (small_int hb) (small_int hp)
  have I1 := intP_of hs
  have I2 := intP_of hd
  have I3 := intP_of hp
  have W1 : IntKind.i64.wrap (a + b) = a + b := wrapI hs.1 hs.2
  have W2 : IntKind.i64.wrap (a - b) = a - b := wrapI hd.1 hd.2
  have W3 : IntKind.i64.wrap (a * b) = a * b := wrapI hp.1 hp.2
  obtain ⟨s, HS⟩ : ∃ s, a + b = s := ⟨_, rfl⟩
  obtain ⟨d, HD⟩ : ∃ d, a - b = d := ⟨_, rfl⟩
  obtain ⟨p, HP⟩ : ∃ p, a * b = p := ⟨_, rfl⟩
  rw [HS] at hs R1 I1 W1
  rw [HD] at hd R2 I2 W2
  rw [HP] at hp R3 I3 W3
  clear ht
  go_enter Tryd.func7, Tryd.ntmps7
  have EX : Ext w w := Below.refl _ _
  go_wp2_with fail
  refine (law_sanity1 _ (TB.out.ext (by (repeat (first | exact Below.refl _ _ | assumption | refine Below.drewN ?_ _ | refine Below.drew ?_ | refine Below.setCell ?_ (by first | exact Nat.le_refl _ | (simp; done) | (simp; omega) | omega) _ | refine Below.alloc ?_ (by first | exact Nat.le_refl _ | (simp; done) | (simp; omega) | omega) _))))).mono ?_
  rintro e w1 ⟨rfl, hx1⟩
  have ex1 : Ext w w1 := Ext.step (by (repeat (first | exact Below.refl _ _ | assumption | refine Below.drewN ?_ _ | refine Below.drew ?_ | refine Below.setCell ?_ (by first | exact Nat.le_refl _ | (simp; done) | (simp; omega) | omega) _ | refine Below.alloc ?_ (by first | exact Nat.le_refl _ | (simp; done) | (simp; omega) | omega) _))) hx1
  replace EX := EX.trans (ex1.mono EX.size)
  clear hx1
  go_wp2_with fail
  refine (num_Of n _ hn.1 hn.2).mono ?_
  rintro e w2 ⟨ga, pa, la, ca, rfl, na, _, hx2⟩
  have ex2 : Ext w1 w2 := Ext.step (by (repeat (first | exact Below.refl _ _ | assumption | refine Below.drewN ?_ _ | refine Below.drew ?_ | refine Below.setCell ?_ (by first | exact Nat.le_refl _ | (simp; done) | (simp; omega) | omega) _ | refine Below.alloc ?_ (by first | exact Nat.le_refl _ | (simp; done) | (simp; omega) | omega) _))) hx2
  replace EX := EX.trans (ex2.mono EX.size)
  clear hx2
  go_wp2_with fail
  refine (int_lit (ofZ n) (n, true) _ _ _ _ _ (na.ext (by (repeat (first | exact Below.refl _ _ | assumption | refine Below.drewN ?_ _ | refine Below.drew ?_ | refine Below.setCell ?_ (by first | exact Nat.le_refl _ | (simp; done) | (simp; omega) | omega) _ | refine Below.alloc ?_ (by first | exact Nat.le_refl _ | (simp; done) | (simp; omega) | omega) _)))) I0).mono ?_
  rintro e w3 ⟨rfl, hx3⟩
  have ex3 : Ext w2 w3 := Ext.step (by (repeat (first | exact Below.refl _ _ | assumption | refine Below.drewN ?_ _ | refine Below.drew ?_ | refine Below.setCell ?_ (by first | exact Nat.le_refl _ | (simp; done) | (simp; omega) | omega) _ | refine Below.alloc ?_ (by first | exact Nat.le_refl _ | (simp; done) | (simp; omega) | omega) _))) hx3
  replace na := na.ext ex3
  replace EX := EX.trans (ex3.mono EX.size)
  clear hx3
  go_wp2_with fail
  refine (num_Of a _ ha.1 ha.2).mono ?_
  rintro e w4 ⟨gb, pb, lb, cb, rfl, nb, _, hx4⟩
  have ex4 : Ext w3 w4 := Ext.step (by (repeat (first | exact Below.refl _ _ | assumption | refine Below.drewN ?_ _ | refine Below.drew ?_ | refine Below.setCell ?_ (by first | exact Nat.le_refl _ | (simp; done) | (simp; omega) | omega) _ | refine Below.alloc ?_ (by first | exact Nat.le_refl _ | (simp; done) | (simp; omega) | omega) _))) hx4
  replace EX := EX.trans (ex4.mono EX.size)
  clear hx4
  go_wp2_with fail
  refine (num_Of b _ hb.1 hb.2).mono ?_
  rintro e w5 ⟨gc, pc, lc, cc, rfl, nc, _, hx5⟩
  have ex5 : Ext w4 w5 := Ext.step (by (repeat (first | exact Below.refl _ _ | assumption | refine Below.drewN ?_ _ | refine Below.drew ?_ | refine Below.setCell ?_ (by first | exact Nat.le_refl _ | (simp; done) | (simp; omega) | omega) _ | refine Below.alloc ?_ (by first | exact Nat.le_refl _ | (simp; done) | (simp; omega) | omega) _))) hx5
  replace nb := nb.ext ex5
  replace EX := EX.trans (ex5.mono EX.size)
  clear hx5
  go_wp2_with fail
  refine (ret_num (num_Add _ _ _ _ _ _ _ _ _ _ _ (nb.ext (by (repeat (first | exact Below.refl _ _ | assumption | refine Below.drewN ?_ _ | refine Below.drew ?_ | refine Below.setCell ?_ (by first | exact Nat.le_refl _ | (simp; done) | (simp; omega) | omega) _ | refine Below.alloc ?_ (by first | exact Nat.le_refl _ | (simp; done) | (simp; omega) | omega) _)))) (nc.ext (by (repeat (first | exact Below.refl _ _ | assumption | refine Below.drewN ?_ _ | refine Below.drew ?_ | refine Below.setCell ?_ (by first | exact Nat.le_refl _ | (simp; done) | (simp; omega) | omega) _ | refine Below.alloc ?_ (by first | exact Nat.le_refl _ | (simp; done) | (simp; omega) | omega) _))))) R1).mono ?_
  rintro e w6 ⟨gd, pd, ld, cd, rfl, nd, _, hx6⟩
  have ex6 : Ext w5 w6 := Ext.step (by (repeat (first | exact Below.refl _ _ | assumption | refine Below.drewN ?_ _ | refine Below.drew ?_ | refine Below.setCell ?_ (by first | exact Nat.le_refl _ | (simp; done) | (simp; omega) | omega) _ | refine Below.alloc ?_ (by first | exact Nat.le_refl _ | (simp; done) | (simp; omega) | omega) _))) hx6
  replace nb := nb.ext ex6
  replace nc := nc.ext ex6
  replace EX := EX.trans (ex6.mono EX.size)
  clear hx6
  go_wp2_with fail
  refine (num_Of a _ ha.1 ha.2).mono ?_
  rintro e w7 ⟨ge, pe, le, ce, rfl, ne, _, hx7⟩
  have ex7 : Ext w6 w7 := Ext.step (by (repeat (first | exact Below.refl _ _ | assumption | refine Below.drewN ?_ _ | refine Below.drew ?_ | refine Below.setCell ?_ (by first | exact Nat.le_refl _ | (simp; done) | (simp; omega) | omega) _ | refine Below.alloc ?_ (by first | exact Nat.le_refl _ | (simp; done) | (simp; omega) | omega) _))) hx7
  have vD := VB.new nd hx7
  replace nd := nd.ext ex7
  replace EX := EX.trans (ex7.mono EX.size)
  clear hx7
  go_wp2_with fail
  refine (num_Of b _ hb.1 hb.2).mono ?_
  rintro e w8 ⟨gf, pf, lf, cf, rfl, nf, _, hx8⟩
  have ex8 : Ext w7 w8 := Ext.step (by (repeat (first | exact Below.refl _ _ | assumption | refine Below.drewN ?_ _ | refine Below.drew ?_ | refine Below.setCell ?_ (by first | exact Nat.le_refl _ | (simp; done) | (simp; omega) | omega) _ | refine Below.alloc ?_ (by first | exact Nat.le_refl _ | (simp; done) | (simp; omega) | omega) _))) hx8
  replace vD := vD.ext ex8
  replace ne := ne.ext ex8
  replace EX := EX.trans (ex8.mono EX.size)
  clear hx8
  go_wp2_with fail
  refine (ret_num (num_Sub _ _ _ _ _ _ _ _ _ _ _ (ne.ext (by (repeat (first | exact Below.refl _ _ | assumption | refine Below.drewN ?_ _ | refine Below.drew ?_ | refine Below.setCell ?_ (by first | exact Nat.le_refl _ | (simp; done) | (simp; omega) | omega) _ | refine Below.alloc ?_ (by first | exact Nat.le_refl _ | (simp; done) | (simp; omega) | omega) _)))) (nf.ext (by (repeat (first | exact Below.refl _ _ | assumption | refine Below.drewN ?_ _ | refine Below.drew ?_ | refine Below.setCell ?_ (by first | exact Nat.le_refl _ | (simp; done) | (simp; omega) | omega) _ | refine Below.alloc ?_ (by first | exact Nat.le_refl _ | (simp; done) | (simp; omega) | omega) _))))) R2).mono ?_
  rintro e w9 ⟨gg, pg, lg, cg, rfl, ng, _, hx9⟩
  have ex9 : Ext w8 w9 := Ext.step (by (repeat (first | exact Below.refl _ _ | assumption | refine Below.drewN ?_ _ | refine Below.drew ?_ | refine Below.setCell ?_ (by first | exact Nat.le_refl _ | (simp; done) | (simp; omega) | omega) _ | refine Below.alloc ?_ (by first | exact Nat.le_refl _ | (simp; done) | (simp; omega) | omega) _))) hx9
  replace vD := vD.ext ex9
  replace ne := ne.ext ex9
  replace nf := nf.ext ex9
  replace EX := EX.trans (ex9.mono EX.size)
  clear hx9
  go_wp2_with fail
  refine (num_Of a _ ha.1 ha.2).mono ?_
  rintro e w10 ⟨gh, ph, lh, ch, rfl, nh, _, hx10⟩
  have ex10 : Ext w9 w10 := Ext.step (by (repeat (first | exact Below.refl _ _ | assumption | refine Below.drewN ?_ _ | refine Below.drew ?_ | refine Below.setCell ?_ (by first | exact Nat.le_refl _ | (simp; done) | (simp; omega) | omega) _ | refine Below.alloc ?_ (by first | exact Nat.le_refl _ | (simp; done) | (simp; omega) | omega) _))) hx10
  have vG := VB.new ng hx10
  replace vD := vD.ext ex10
  replace ng := ng.ext ex10
  replace EX := EX.trans (ex10.mono EX.size)
  clear hx10
  go_wp2_with fail
  refine (num_Of b _ hb.1 hb.2).mono ?_
  rintro e w11 ⟨gi, pi, li, ci, rfl, ni, _, hx11⟩
  have ex11 : Ext w10 w11 := Ext.step (by (repeat (first | exact Below.refl _ _ | assumption | refine Below.drewN ?_ _ | refine Below.drew ?_ | refine Below.setCell ?_ (by first | exact Nat.le_refl _ | (simp; done) | (simp; omega) | omega) _ | refine Below.alloc ?_ (by first | exact Nat.le_refl _ | (simp; done) | (simp; omega) | omega) _))) hx11
  replace vD := vD.ext ex11
  replace vG := vG.ext ex11
  replace nh := nh.ext ex11
  replace EX := EX.trans (ex11.mono EX.size)
  clear hx11
  go_wp2_with fail
  refine (ret_num (num_Mul _ _ _ _ _ _ _ _ _ _ _ (nh.ext (by (repeat (first | exact Below.refl _ _ | assumption | refine Below.drewN ?_ _ | refine Below.drew ?_ | refine Below.setCell ?_ (by first | exact Nat.le_refl _ | (simp; done) | (simp; omega) | omega) _ | refine Below.alloc ?_ (by first | exact Nat.le_refl _ | (simp; done) | (simp; omega) | omega) _)))) (ni.ext (by (repeat (first | exact Below.refl _ _ | assumption | refine Below.drewN ?_ _ | refine Below.drew ?_ | refine Below.setCell ?_ (by first | exact Nat.le_refl _ | (simp; done) | (simp; omega) | omega) _ | refine Below.alloc ?_ (by first | exact Nat.le_refl _ | (simp; done) | (simp; omega) | omega) _))))) R3).mono ?_
  rintro e w12 ⟨gj, pj, lj, cj, rfl, nj, _, hx12⟩
  have ex12 : Ext w11 w12 := Ext.step (by (repeat (first | exact Below.refl _ _ | assumption | refine Below.drewN ?_ _ | refine Below.drew ?_ | refine Below.setCell ?_ (by first | exact Nat.le_refl _ | (simp; done) | (simp; omega) | omega) _ | refine Below.alloc ?_ (by first | exact Nat.le_refl _ | (simp; done) | (simp; omega) | omega) _))) hx12
  replace vD := vD.ext ex12
  replace vG := vG.ext ex12
  replace nh := nh.ext ex12
  replace ni := ni.ext ex12
  replace EX := EX.trans (ex12.mono EX.size)
  clear hx12
  obtain ⟨qD1, qD2, qD3, qD4⟩ := vD
  go_wp2_with fail
  refine (int_lit (ofZ s) (s, true) _ _ _ _ _ (qD4.ext (by (repeat (first | exact Below.refl _ _ | assumption | refine Below.drewN ?_ _ | refine Below.drew ?_ | refine Below.setCell ?_ (by first | exact Nat.le_refl _ | (simp; done) | (simp; omega) | omega) _ | refine Below.alloc ?_ (by first | exact Nat.le_refl _ | (simp; done) | (simp; omega) | omega) _)))) I1).mono ?_
  rintro e w13 ⟨rfl, hx13⟩
  have ex13 : Ext w12 w13 := Ext.step (by (repeat (first | exact Below.refl _ _ | assumption | refine Below.drewN ?_ _ | refine Below.drew ?_ | refine Below.setCell ?_ (by first | exact Nat.le_refl _ | (simp; done) | (simp; omega) | omega) _ | refine Below.alloc ?_ (by first | exact Nat.le_refl _ | (simp; done) | (simp; omega) | omega) _))) hx13
  have vJ := VB.new nj hx13
  replace vG := vG.ext ex13
  replace nj := nj.ext ex13
  replace EX := EX.trans (ex13.mono EX.size)
  clear hx13
  obtain ⟨qG1, qG2, qG3, qG4⟩ := vG
  go_wp2_with fail
  refine (int_lit (ofZ d) (d, true) _ _ _ _ _ (qG4.ext (by (repeat (first | exact Below.refl _ _ | assumption | refine Below.drewN ?_ _ | refine Below.drew ?_ | refine Below.setCell ?_ (by first | exact Nat.le_refl _ | (simp; done) | (simp; omega) | omega) _ | refine Below.alloc ?_ (by first | exact Nat.le_refl _ | (simp; done) | (simp; omega) | omega) _)))) I2).mono ?_
  rintro e w14 ⟨rfl, hx14⟩
  have ex14 : Ext w13 w14 := Ext.step (by (repeat (first | exact Below.refl _ _ | assumption | refine Below.drewN ?_ _ | refine Below.drew ?_ | refine Below.setCell ?_ (by first | exact Nat.le_refl _ | (simp; done) | (simp; omega) | omega) _ | refine Below.alloc ?_ (by first | exact Nat.le_refl _ | (simp; done) | (simp; omega) | omega) _))) hx14
  replace vJ := vJ.ext ex14
  replace EX := EX.trans (ex14.mono EX.size)
  clear hx14
  obtain ⟨qJ1, qJ2, qJ3, qJ4⟩ := vJ
  go_wp2_with fail
  refine (int_lit (ofZ p) (p, true) _ _ _ _ _ (qJ4.ext (by (repeat (first | exact Below.refl _ _ | assumption | refine Below.drewN ?_ _ | refine Below.drew ?_ | refine Below.setCell ?_ (by first | exact Nat.le_refl _ | (simp; done) | (simp; omega) | omega) _ | refine Below.alloc ?_ (by first | exact Nat.le_refl _ | (simp; done) | (simp; omega) | omega) _)))) I3).mono ?_
  rintro e w15 ⟨rfl, hx15⟩
  have ex15 : Ext w14 w15 := Ext.step (by (repeat (first | exact Below.refl _ _ | assumption | refine Below.drewN ?_ _ | refine Below.drew ?_ | refine Below.setCell ?_ (by first | exact Nat.le_refl _ | (simp; done) | (simp; omega) | omega) _ | refine Below.alloc ?_ (by first | exact Nat.le_refl _ | (simp; done) | (simp; omega) | omega) _))) hx15
  replace EX := EX.trans (ex15.mono EX.size)
  clear hx15
  rcases Int.lt_trichotomy n m with hlt | heq | hgt
  · have D1 : decide (n < m) = true := by simpa using hlt
    have D2 : decide (m < n) = false := by simp; omega
    go_wp2_with fail
    refine (num_Of n _ hn.1 hn.2).mono ?_
    rintro e w16 ⟨gk, pk, lk, ck, rfl, nk, _, hx16⟩
    have ex16 : Ext w15 w16 := Ext.step (by (repeat (first | exact Below.refl _ _ | assumption | refine Below.drewN ?_ _ | refine Below.drew ?_ | refine Below.setCell ?_ (by first | exact Nat.le_refl _ | (simp; done) | (simp; omega) | omega) _ | refine Below.alloc ?_ (by first | exact Nat.le_refl _ | (simp; done) | (simp; omega) | omega) _))) hx16
    replace EX := EX.trans (ex16.mono EX.size)
    clear hx16
    go_wp2_with fail
    refine (num_Of m _ hm.1 hm.2).mono ?_
    rintro e w17 ⟨gl, pl, ll, cl, rfl, nl, _, hx17⟩
    have ex17 : Ext w16 w17 := Ext.step (by (repeat (first | exact Below.refl _ _ | assumption | refine Below.drewN ?_ _ | refine Below.drew ?_ | refine Below.setCell ?_ (by first | exact Nat.le_refl _ | (simp; done) | (simp; omega) | omega) _ | refine Below.alloc ?_ (by first | exact Nat.le_refl _ | (simp; done) | (simp; omega) | omega) _))) hx17
    replace nk := nk.ext ex17
    replace EX := EX.trans (ex17.mono EX.size)
    clear hx17
    go_wp2_with fail
    refine (num_Cmp _ _ _ _ _ _ _ _ _ _ _ (nk.ext (by (repeat (first | exact Below.refl _ _ | assumption | refine Below.drewN ?_ _ | refine Below.drew ?_ | refine Below.setCell ?_ (by first | exact Nat.le_refl _ | (simp; done) | (simp; omega) | omega) _ | refine Below.alloc ?_ (by first | exact Nat.le_refl _ | (simp; done) | (simp; omega) | omega) _)))) (nl.ext (by (repeat (first | exact Below.refl _ _ | assumption | refine Below.drewN ?_ _ | refine Below.drew ?_ | refine Below.setCell ?_ (by first | exact Nat.le_refl _ | (simp; done) | (simp; omega) | omega) _ | refine Below.alloc ?_ (by first | exact Nat.le_refl _ | (simp; done) | (simp; omega) | omega) _))))).mono ?_
    rintro e w18 ⟨rfl, hx18⟩
    have ex18 : Ext w17 w18 := Ext.step (by (repeat (first | exact Below.refl _ _ | assumption | refine Below.drewN ?_ _ | refine Below.drew ?_ | refine Below.setCell ?_ (by first | exact Nat.le_refl _ | (simp; done) | (simp; omega) | omega) _ | refine Below.alloc ?_ (by first | exact Nat.le_refl _ | (simp; done) | (simp; omega) | omega) _))) hx18
    replace nk := nk.ext ex18
    replace nl := nl.ext ex18
    replace EX := EX.trans (ex18.mono EX.size)
    clear hx18
    rw [show cmpP (ofZ n) (ofZ m) = -1 from (cmpP_of hn hm).trans (if_pos hlt)]
    go_wp2_with fail
    refine (num_Of n _ hn.1 hn.2).mono ?_
    rintro e w19 ⟨go, po, lo, co, rfl, no, _, hx19⟩
    have ex19 : Ext w18 w19 := Ext.step (by (repeat (first | exact Below.refl _ _ | assumption | refine Below.drewN ?_ _ | refine Below.drew ?_ | refine Below.setCell ?_ (by first | exact Nat.le_refl _ | (simp; done) | (simp; omega) | omega) _ | refine Below.alloc ?_ (by first | exact Nat.le_refl _ | (simp; done) | (simp; omega) | omega) _))) hx19
    replace nk := nk.ext ex19
    replace nl := nl.ext ex19
    replace EX := EX.trans (ex19.mono EX.size)
    clear hx19
    go_wp2_with fail
    refine (num_Right _ _ _ _ _ _ (no.ext (by (repeat (first | exact Below.refl _ _ | assumption | refine Below.drewN ?_ _ | refine Below.drew ?_ | refine Below.setCell ?_ (by first | exact Nat.le_refl _ | (simp; done) | (simp; omega) | omega) _ | refine Below.alloc ?_ (by first | exact Nat.le_refl _ | (simp; done) | (simp; omega) | omega) _))))).mono ?_
    rintro e w20 ⟨rfl, hx20⟩
    have ex20 : Ext w19 w20 := Ext.step (by (repeat (first | exact Below.refl _ _ | assumption | refine Below.drewN ?_ _ | refine Below.drew ?_ | refine Below.setCell ?_ (by first | exact Nat.le_refl _ | (simp; done) | (simp; omega) | omega) _ | refine Below.alloc ?_ (by first | exact Nat.le_refl _ | (simp; done) | (simp; omega) | omega) _))) hx20
    replace nk := nk.ext ex20
    replace nl := nl.ext ex20
    replace no := no.ext ex20
    replace EX := EX.trans (ex20.mono EX.size)
    clear hx20
    rw [RN]
    go_wp2
    go_ret
    exact ⟨rfl, EX⟩
  · have D1 : decide (n < m) = false := by simp; omega
    have D2 : decide (m < n) = false := by simp; omega
    have HE := Lib.hid heq
    clear heq
    go_wp2_with fail
    refine (num_Of n _ hn.1 hn.2).mono ?_
    rintro e w16 ⟨gk, pk, lk, ck, rfl, nk, _, hx16⟩
    have ex16 : Ext w15 w16 := Ext.step (by (repeat (first | exact Below.refl _ _ | assumption | refine Below.drewN ?_ _ | refine Below.drew ?_ | refine Below.setCell ?_ (by first | exact Nat.le_refl _ | (simp; done) | (simp; omega) | omega) _ | refine Below.alloc ?_ (by first | exact Nat.le_refl _ | (simp; done) | (simp; omega) | omega) _))) hx16
    replace EX := EX.trans (ex16.mono EX.size)
    clear hx16
    go_wp2_with fail
    refine (num_Of m _ hm.1 hm.2).mono ?_
    rintro e w17 ⟨gl, pl, ll, cl, rfl, nl, _, hx17⟩
    have ex17 : Ext w16 w17 := Ext.step (by (repeat (first | exact Below.refl _ _ | assumption | refine Below.drewN ?_ _ | refine Below.drew ?_ | refine Below.setCell ?_ (by first | exact Nat.le_refl _ | (simp; done) | (simp; omega) | omega) _ | refine Below.alloc ?_ (by first | exact Nat.le_refl _ | (simp; done) | (simp; omega) | omega) _))) hx17
    replace nk := nk.ext ex17
    replace EX := EX.trans (ex17.mono EX.size)
    clear hx17
    go_wp2_with fail
    refine (num_Cmp _ _ _ _ _ _ _ _ _ _ _ (nk.ext (by (repeat (first | exact Below.refl _ _ | assumption | refine Below.drewN ?_ _ | refine Below.drew ?_ | refine Below.setCell ?_ (by first | exact Nat.le_refl _ | (simp; done) | (simp; omega) | omega) _ | refine Below.alloc ?_ (by first | exact Nat.le_refl _ | (simp; done) | (simp; omega) | omega) _)))) (nl.ext (by (repeat (first | exact Below.refl _ _ | assumption | refine Below.drewN ?_ _ | refine Below.drew ?_ | refine Below.setCell ?_ (by first | exact Nat.le_refl _ | (simp; done) | (simp; omega) | omega) _ | refine Below.alloc ?_ (by first | exact Nat.le_refl _ | (simp; done) | (simp; omega) | omega) _))))).mono ?_
    rintro e w18 ⟨rfl, hx18⟩
    have ex18 : Ext w17 w18 := Ext.step (by (repeat (first | exact Below.refl _ _ | assumption | refine Below.drewN ?_ _ | refine Below.drew ?_ | refine Below.setCell ?_ (by first | exact Nat.le_refl _ | (simp; done) | (simp; omega) | omega) _ | refine Below.alloc ?_ (by first | exact Nat.le_refl _ | (simp; done) | (simp; omega) | omega) _))) hx18
    replace nk := nk.ext ex18
    replace nl := nl.ext ex18
    replace EX := EX.trans (ex18.mono EX.size)
    clear hx18
    rw [show cmpP (ofZ n) (ofZ m) = 0 from (cmpP_of hn hm).trans ((if_neg (by have := HE.out; omega)).trans (if_pos HE.out))]
    go_wp2_with fail
    refine (num_Of n _ hn.1 hn.2).mono ?_
    rintro e w19 ⟨go, po, lo, co, rfl, no, _, hx19⟩
    have ex19 : Ext w18 w19 := Ext.step (by (repeat (first | exact Below.refl _ _ | assumption | refine Below.drewN ?_ _ | refine Below.drew ?_ | refine Below.setCell ?_ (by first | exact Nat.le_refl _ | (simp; done) | (simp; omega) | omega) _ | refine Below.alloc ?_ (by first | exact Nat.le_refl _ | (simp; done) | (simp; omega) | omega) _))) hx19
    replace nk := nk.ext ex19
    replace nl := nl.ext ex19
    replace EX := EX.trans (ex19.mono EX.size)
    clear hx19
    go_wp2_with fail
    refine (num_Right _ _ _ _ _ _ (no.ext (by (repeat (first | exact Below.refl _ _ | assumption | refine Below.drewN ?_ _ | refine Below.drew ?_ | refine Below.setCell ?_ (by first | exact Nat.le_refl _ | (simp; done) | (simp; omega) | omega) _ | refine Below.alloc ?_ (by first | exact Nat.le_refl _ | (simp; done) | (simp; omega) | omega) _))))).mono ?_
    rintro e w20 ⟨rfl, hx20⟩
    have ex20 : Ext w19 w20 := Ext.step (by (repeat (first | exact Below.refl _ _ | assumption | refine Below.drewN ?_ _ | refine Below.drew ?_ | refine Below.setCell ?_ (by first | exact Nat.le_refl _ | (simp; done) | (simp; omega) | omega) _ | refine Below.alloc ?_ (by first | exact Nat.le_refl _ | (simp; done) | (simp; omega) | omega) _))) hx20
    replace nk := nk.ext ex20
    replace nl := nl.ext ex20
    replace no := no.ext ex20
    replace EX := EX.trans (ex20.mono EX.size)
    clear hx20
    rw [RN]
    go_wp2
    go_ret
    exact ⟨rfl, EX⟩
  · have D1 : decide (n < m) = false := by simp; omega
    have D2 : decide (m < n) = true := by simpa using hgt
    go_wp2_with fail
    refine (num_Of n _ hn.1 hn.2).mono ?_
    rintro e w16 ⟨gk, pk, lk, ck, rfl, nk, _, hx16⟩
    have ex16 : Ext w15 w16 := Ext.step (by (repeat (first | exact Below.refl _ _ | assumption | refine Below.drewN ?_ _ | refine Below.drew ?_ | refine Below.setCell ?_ (by first | exact Nat.le_refl _ | (simp; done) | (simp; omega) | omega) _ | refine Below.alloc ?_ (by first | exact Nat.le_refl _ | (simp; done) | (simp; omega) | omega) _))) hx16
    replace EX := EX.trans (ex16.mono EX.size)
    clear hx16
    go_wp2_with fail
    refine (num_Of m _ hm.1 hm.2).mono ?_
    rintro e w17 ⟨gl, pl, ll, cl, rfl, nl, _, hx17⟩
    have ex17 : Ext w16 w17 := Ext.step (by (repeat (first | exact Below.refl _ _ | assumption | refine Below.drewN ?_ _ | refine Below.drew ?_ | refine Below.setCell ?_ (by first | exact Nat.le_refl _ | (simp; done) | (simp; omega) | omega) _ | refine Below.alloc ?_ (by first | exact Nat.le_refl _ | (simp; done) | (simp; omega) | omega) _))) hx17
    replace nk := nk.ext ex17
    replace EX := EX.trans (ex17.mono EX.size)
    clear hx17
    go_wp2_with fail
    refine (num_Cmp _ _ _ _ _ _ _ _ _ _ _ (nk.ext (by (repeat (first | exact Below.refl _ _ | assumption | refine Below.drewN ?_ _ | refine Below.drew ?_ | refine Below.setCell ?_ (by first | exact Nat.le_refl _ | (simp; done) | (simp; omega) | omega) _ | refine Below.alloc ?_ (by first | exact Nat.le_refl _ | (simp; done) | (simp; omega) | omega) _)))) (nl.ext (by (repeat (first | exact Below.refl _ _ | assumption | refine Below.drewN ?_ _ | refine Below.drew ?_ | refine Below.setCell ?_ (by first | exact Nat.le_refl _ | (simp; done) | (simp; omega) | omega) _ | refine Below.alloc ?_ (by first | exact Nat.le_refl _ | (simp; done) | (simp; omega) | omega) _))))).mono ?_
    rintro e w18 ⟨rfl, hx18⟩
    have ex18 : Ext w17 w18 := Ext.step (by (repeat (first | exact Below.refl _ _ | assumption | refine Below.drewN ?_ _ | refine Below.drew ?_ | refine Below.setCell ?_ (by first | exact Nat.le_refl _ | (simp; done) | (simp; omega) | omega) _ | refine Below.alloc ?_ (by first | exact Nat.le_refl _ | (simp; done) | (simp; omega) | omega) _))) hx18
    replace nk := nk.ext ex18
    replace nl := nl.ext ex18
    replace EX := EX.trans (ex18.mono EX.size)
    clear hx18
    rw [show cmpP (ofZ n) (ofZ m) = 1 from (cmpP_of hn hm).trans ((if_neg (by omega)).trans (if_neg (by omega)))]
    go_wp2_with fail
    refine (num_Of n _ hn.1 hn.2).mono ?_
    rintro e w19 ⟨go, po, lo, co, rfl, no, _, hx19⟩
    have ex19 : Ext w18 w19 := Ext.step (by (repeat (first | exact Below.refl _ _ | assumption | refine Below.drewN ?_ _ | refine Below.drew ?_ | refine Below.setCell ?_ (by first | exact Nat.le_refl _ | (simp; done) | (simp; omega) | omega) _ | refine Below.alloc ?_ (by first | exact Nat.le_refl _ | (simp; done) | (simp; omega) | omega) _))) hx19
    replace nk := nk.ext ex19
    replace nl := nl.ext ex19
    replace EX := EX.trans (ex19.mono EX.size)
    clear hx19
    go_wp2_with fail
    refine (num_Right _ _ _ _ _ _ (no.ext (by (repeat (first | exact Below.refl _ _ | assumption | refine Below.drewN ?_ _ | refine Below.drew ?_ | refine Below.setCell ?_ (by first | exact Nat.le_refl _ | (simp; done) | (simp; omega) | omega) _ | refine Below.alloc ?_ (by first | exact Nat.le_refl _ | (simp; done) | (simp; omega) | omega) _))))).mono ?_
    rintro e w20 ⟨rfl, hx20⟩
    have ex20 : Ext w19 w20 := Ext.step (by (repeat (first | exact Below.refl _ _ | assumption | refine Below.drewN ?_ _ | refine Below.drew ?_ | refine Below.setCell ?_ (by first | exact Nat.le_refl _ | (simp; done) | (simp; omega) | omega) _ | refine Below.alloc ?_ (by first | exact Nat.le_refl _ | (simp; done) | (simp; omega) | omega) _))) hx20
    replace nk := nk.ext ex20
    replace nl := nl.ext ex20
    replace no := no.ext ex20
    replace EX := EX.trans (ex20.mono EX.size)
    clear hx20
    rw [RN]
    go_wp2
    go_ret
    exact ⟨rfl, EX⟩
end Go.Proofs.YtdaaknfmodbjcaaDoor
