/- The walk of the law NumRing. -/
import Derived.Test.YtdaaknfmodbjcaaDoorJ15
set_option linter.unusedVariables false
set_option linter.unusedSimpArgs false

namespace Go.Proofs.YtdaaknfmodbjcaaDoor
open Go.RowKit

set_option maxRecDepth 100000 in
set_option maxHeartbeats 16000000 in
theorem Ring_core (p0 : Option Addr) (l0 c0 : Nat) (p1 : Option Addr) (l1 c1 : Nat) (p2 : Option Addr) (l2 c2 : Nat) (w : World) (i0 : Ints w p0 l0 c0) (i1 : Ints w p1 l1 c1) (i2 : Ints w p2 l2 c2) (ht : Tab w) :
    Calls Tryd.prog 5 #[.slice p0 l0 c0, .slice p1 l1 c1, .slice p2 l2 c2] w fun e w' => e = .returned (.bool true) ∧ Ext w w' := by
  have TB := Lib.hid ht
  have Ia := Lib.hid i0
  have Ib := Lib.hid i1
  have Ic := Lib.hid i2
  clear ht i0 i1 i2
  go_enter Tryd.func5, Tryd.ntmps5
  have EX : Ext w w := Below.refl _ _
  go_wp2_with fail
  refine (law_sanity1 _ (TB.out.ext (by (repeat (first | exact Below.refl _ _ | assumption | refine Below.drewN ?_ _ | refine Below.drew ?_ | refine Below.setCell ?_ (by first | exact Nat.le_refl _ | (simp; done) | (simp; omega) | omega) _ | refine Below.alloc ?_ (by first | exact Nat.le_refl _ | (simp; done) | (simp; omega) | omega) _))))).mono ?_
  rintro e w1 ⟨rfl, hx1⟩
  have ex1 : Ext w w1 := Ext.step (by (repeat (first | exact Below.refl _ _ | assumption | refine Below.drewN ?_ _ | refine Below.drew ?_ | refine Below.setCell ?_ (by first | exact Nat.le_refl _ | (simp; done) | (simp; omega) | omega) _ | refine Below.alloc ?_ (by first | exact Nat.le_refl _ | (simp; done) | (simp; omega) | omega) _))) hx1
  replace EX := EX.trans (ex1.mono EX.size)
  clear hx1
  go_wp2_with fail
  refine (made_z _ _ _ _ ((Ia.out).ext (EX.trans (by (repeat (first | exact Below.refl _ _ | assumption | refine Below.drewN ?_ _ | refine Below.drew ?_ | refine Below.setCell ?_ (by first | exact Nat.le_refl _ | (simp; done) | (simp; omega) | omega) _ | refine Below.alloc ?_ (by first | exact Nat.le_refl _ | (simp; done) | (simp; omega) | omega) _)))))).mono ?_
  rintro e w2 ⟨ga, pa, la, ca, xa, rfl, na, ba, hx2⟩
  have ex2 : Ext w1 w2 := Ext.step (by (repeat (first | exact Below.refl _ _ | assumption | refine Below.drewN ?_ _ | refine Below.drew ?_ | refine Below.setCell ?_ (by first | exact Nat.le_refl _ | (simp; done) | (simp; omega) | omega) _ | refine Below.alloc ?_ (by first | exact Nat.le_refl _ | (simp; done) | (simp; omega) | omega) _))) hx2
  replace EX := EX.trans (ex2.mono EX.size)
  clear hx2
  go_wp2_with fail
  refine (made_z _ _ _ _ ((Ib.out).ext (EX.trans (by (repeat (first | exact Below.refl _ _ | assumption | refine Below.drewN ?_ _ | refine Below.drew ?_ | refine Below.setCell ?_ (by first | exact Nat.le_refl _ | (simp; done) | (simp; omega) | omega) _ | refine Below.alloc ?_ (by first | exact Nat.le_refl _ | (simp; done) | (simp; omega) | omega) _)))))).mono ?_
  rintro e w3 ⟨gb, pb, lb, cb, xb, rfl, nb, bb, hx3⟩
  have ex3 : Ext w2 w3 := Ext.step (by (repeat (first | exact Below.refl _ _ | assumption | refine Below.drewN ?_ _ | refine Below.drew ?_ | refine Below.setCell ?_ (by first | exact Nat.le_refl _ | (simp; done) | (simp; omega) | omega) _ | refine Below.alloc ?_ (by first | exact Nat.le_refl _ | (simp; done) | (simp; omega) | omega) _))) hx3
  replace na := na.ext ex3
  replace EX := EX.trans (ex3.mono EX.size)
  clear hx3
  go_wp2_with fail
  refine (made_z _ _ _ _ ((Ic.out).ext (EX.trans (by (repeat (first | exact Below.refl _ _ | assumption | refine Below.drewN ?_ _ | refine Below.drew ?_ | refine Below.setCell ?_ (by first | exact Nat.le_refl _ | (simp; done) | (simp; omega) | omega) _ | refine Below.alloc ?_ (by first | exact Nat.le_refl _ | (simp; done) | (simp; omega) | omega) _)))))).mono ?_
  rintro e w4 ⟨gc, pc, lc, cc, xc, rfl, nc, bc, hx4⟩
  have ex4 : Ext w3 w4 := Ext.step (by (repeat (first | exact Below.refl _ _ | assumption | refine Below.drewN ?_ _ | refine Below.drew ?_ | refine Below.setCell ?_ (by first | exact Nat.le_refl _ | (simp; done) | (simp; omega) | omega) _ | refine Below.alloc ?_ (by first | exact Nat.le_refl _ | (simp; done) | (simp; omega) | omega) _))) hx4
  replace na := na.ext ex4
  replace nb := nb.ext ex4
  replace EX := EX.trans (ex4.mono EX.size)
  clear hx4
  obtain ⟨R1, R2, R3, R4, R5, R6, R7, R8⟩ := ring_ok ba bb bc
  generalize HU : xa + xb = u at R1 R2 R3 R6 R7 R8; generalize HV : u * xc = v at R3 R6 R8; generalize HS : xa * xc = s at R4 R6; generalize HT : xc * xb = t at R5 R6
  clear ba bb bc HU HV HS HT
  go_wp2_with fail
  refine (ret_num (num_Add _ _ _ _ _ _ _ _ _ _ _ (na.ext (by (repeat (first | exact Below.refl _ _ | assumption | refine Below.drewN ?_ _ | refine Below.drew ?_ | refine Below.setCell ?_ (by first | exact Nat.le_refl _ | (simp; done) | (simp; omega) | omega) _ | refine Below.alloc ?_ (by first | exact Nat.le_refl _ | (simp; done) | (simp; omega) | omega) _)))) (nb.ext (by (repeat (first | exact Below.refl _ _ | assumption | refine Below.drewN ?_ _ | refine Below.drew ?_ | refine Below.setCell ?_ (by first | exact Nat.le_refl _ | (simp; done) | (simp; omega) | omega) _ | refine Below.alloc ?_ (by first | exact Nat.le_refl _ | (simp; done) | (simp; omega) | omega) _))))) R1).mono ?_
  rintro e w5 ⟨gd, pd, ld, cd, rfl, nd, _, hx5⟩
  have ex5 : Ext w4 w5 := Ext.step (by (repeat (first | exact Below.refl _ _ | assumption | refine Below.drewN ?_ _ | refine Below.drew ?_ | refine Below.setCell ?_ (by first | exact Nat.le_refl _ | (simp; done) | (simp; omega) | omega) _ | refine Below.alloc ?_ (by first | exact Nat.le_refl _ | (simp; done) | (simp; omega) | omega) _))) hx5
  obtain ⟨vA, vB, vC⟩ := VB.new3 na nb nc hx5
  replace na := na.ext ex5
  replace nb := nb.ext ex5
  replace nc := nc.ext ex5
  replace EX := EX.trans (ex5.mono EX.size)
  clear hx5
  obtain ⟨qB1, qB2, qB3, qB4⟩ := id vB
  obtain ⟨qA1, qA2, qA3, qA4⟩ := id vA
  go_wp2_with fail
  refine (ret_num (num_Add _ _ _ _ _ _ _ _ _ _ _ (qB4.ext (by (repeat (first | exact Below.refl _ _ | assumption | refine Below.drewN ?_ _ | refine Below.drew ?_ | refine Below.setCell ?_ (by first | exact Nat.le_refl _ | (simp; done) | (simp; omega) | omega) _ | refine Below.alloc ?_ (by first | exact Nat.le_refl _ | (simp; done) | (simp; omega) | omega) _)))) (qA4.ext (by (repeat (first | exact Below.refl _ _ | assumption | refine Below.drewN ?_ _ | refine Below.drew ?_ | refine Below.setCell ?_ (by first | exact Nat.le_refl _ | (simp; done) | (simp; omega) | omega) _ | refine Below.alloc ?_ (by first | exact Nat.le_refl _ | (simp; done) | (simp; omega) | omega) _))))) R2).mono ?_
  rintro e w6 ⟨ge, pe, le, ce, rfl, ne, _, hx6⟩
  have ex6 : Ext w5 w6 := Ext.step (by (repeat (first | exact Below.refl _ _ | assumption | refine Below.drewN ?_ _ | refine Below.drew ?_ | refine Below.setCell ?_ (by first | exact Nat.le_refl _ | (simp; done) | (simp; omega) | omega) _ | refine Below.alloc ?_ (by first | exact Nat.le_refl _ | (simp; done) | (simp; omega) | omega) _))) hx6
  have vD := VB.new nd hx6
  replace vA := vA.ext ex6
  replace vB := vB.ext ex6
  replace vC := vC.ext ex6
  replace nd := nd.ext ex6
  replace EX := EX.trans (ex6.mono EX.size)
  clear hx6
  clear qB1 qB2 qB3 qB4
  clear qA1 qA2 qA3 qA4
  obtain ⟨qD1, qD2, qD3, qD4⟩ := id vD
  obtain ⟨qC1, qC2, qC3, qC4⟩ := id vC
  go_wp2_with fail
  refine (ret_num (num_Mul _ _ _ _ _ _ _ _ _ _ _ (qD4.ext (by (repeat (first | exact Below.refl _ _ | assumption | refine Below.drewN ?_ _ | refine Below.drew ?_ | refine Below.setCell ?_ (by first | exact Nat.le_refl _ | (simp; done) | (simp; omega) | omega) _ | refine Below.alloc ?_ (by first | exact Nat.le_refl _ | (simp; done) | (simp; omega) | omega) _)))) (qC4.ext (by (repeat (first | exact Below.refl _ _ | assumption | refine Below.drewN ?_ _ | refine Below.drew ?_ | refine Below.setCell ?_ (by first | exact Nat.le_refl _ | (simp; done) | (simp; omega) | omega) _ | refine Below.alloc ?_ (by first | exact Nat.le_refl _ | (simp; done) | (simp; omega) | omega) _))))) R3).mono ?_
  rintro e w7 ⟨gf, pf, lf, cf, rfl, nf, _, hx7⟩
  have ex7 : Ext w6 w7 := Ext.step (by (repeat (first | exact Below.refl _ _ | assumption | refine Below.drewN ?_ _ | refine Below.drew ?_ | refine Below.setCell ?_ (by first | exact Nat.le_refl _ | (simp; done) | (simp; omega) | omega) _ | refine Below.alloc ?_ (by first | exact Nat.le_refl _ | (simp; done) | (simp; omega) | omega) _))) hx7
  have vE := VB.new ne hx7
  replace vA := vA.ext ex7
  replace vB := vB.ext ex7
  replace vC := vC.ext ex7
  replace vD := vD.ext ex7
  replace ne := ne.ext ex7
  replace EX := EX.trans (ex7.mono EX.size)
  clear hx7
  clear qD1 qD2 qD3 qD4
  clear qC1 qC2 qC3 qC4
  obtain ⟨qA1, qA2, qA3, qA4⟩ := id vA
  obtain ⟨qC1, qC2, qC3, qC4⟩ := id vC
  go_wp2_with fail
  refine (ret_num (num_Mul _ _ _ _ _ _ _ _ _ _ _ (qA4.ext (by (repeat (first | exact Below.refl _ _ | assumption | refine Below.drewN ?_ _ | refine Below.drew ?_ | refine Below.setCell ?_ (by first | exact Nat.le_refl _ | (simp; done) | (simp; omega) | omega) _ | refine Below.alloc ?_ (by first | exact Nat.le_refl _ | (simp; done) | (simp; omega) | omega) _)))) (qC4.ext (by (repeat (first | exact Below.refl _ _ | assumption | refine Below.drewN ?_ _ | refine Below.drew ?_ | refine Below.setCell ?_ (by first | exact Nat.le_refl _ | (simp; done) | (simp; omega) | omega) _ | refine Below.alloc ?_ (by first | exact Nat.le_refl _ | (simp; done) | (simp; omega) | omega) _))))) R4).mono ?_
  rintro e w8 ⟨gh, ph, lh, ch, rfl, nh, _, hx8⟩
  have ex8 : Ext w7 w8 := Ext.step (by (repeat (first | exact Below.refl _ _ | assumption | refine Below.drewN ?_ _ | refine Below.drew ?_ | refine Below.setCell ?_ (by first | exact Nat.le_refl _ | (simp; done) | (simp; omega) | omega) _ | refine Below.alloc ?_ (by first | exact Nat.le_refl _ | (simp; done) | (simp; omega) | omega) _))) hx8
  have vF := VB.new nf hx8
  replace vA := vA.ext ex8
  replace vB := vB.ext ex8
  replace vC := vC.ext ex8
  replace vD := vD.ext ex8
  replace vE := vE.ext ex8
  replace nf := nf.ext ex8
  replace EX := EX.trans (ex8.mono EX.size)
  clear hx8
  clear qA1 qA2 qA3 qA4
  clear qC1 qC2 qC3 qC4
  obtain ⟨qC1, qC2, qC3, qC4⟩ := id vC
  obtain ⟨qB1, qB2, qB3, qB4⟩ := id vB
  go_wp2_with fail
  refine (ret_num (num_Mul _ _ _ _ _ _ _ _ _ _ _ (qC4.ext (by (repeat (first | exact Below.refl _ _ | assumption | refine Below.drewN ?_ _ | refine Below.drew ?_ | refine Below.setCell ?_ (by first | exact Nat.le_refl _ | (simp; done) | (simp; omega) | omega) _ | refine Below.alloc ?_ (by first | exact Nat.le_refl _ | (simp; done) | (simp; omega) | omega) _)))) (qB4.ext (by (repeat (first | exact Below.refl _ _ | assumption | refine Below.drewN ?_ _ | refine Below.drew ?_ | refine Below.setCell ?_ (by first | exact Nat.le_refl _ | (simp; done) | (simp; omega) | omega) _ | refine Below.alloc ?_ (by first | exact Nat.le_refl _ | (simp; done) | (simp; omega) | omega) _))))) R5).mono ?_
  rintro e w9 ⟨gi, pi, li, ci, rfl, ni, _, hx9⟩
  have ex9 : Ext w8 w9 := Ext.step (by (repeat (first | exact Below.refl _ _ | assumption | refine Below.drewN ?_ _ | refine Below.drew ?_ | refine Below.setCell ?_ (by first | exact Nat.le_refl _ | (simp; done) | (simp; omega) | omega) _ | refine Below.alloc ?_ (by first | exact Nat.le_refl _ | (simp; done) | (simp; omega) | omega) _))) hx9
  have vH := VB.new nh hx9
  replace vA := vA.ext ex9
  replace vB := vB.ext ex9
  replace vC := vC.ext ex9
  replace vD := vD.ext ex9
  replace vE := vE.ext ex9
  replace vF := vF.ext ex9
  replace nh := nh.ext ex9
  replace EX := EX.trans (ex9.mono EX.size)
  clear hx9
  clear qC1 qC2 qC3 qC4
  clear qB1 qB2 qB3 qB4
  obtain ⟨qH1, qH2, qH3, qH4⟩ := id vH
  go_wp2_with fail
  refine (ret_num (num_Add _ _ _ _ _ _ _ _ _ _ _ (qH4.ext (by (repeat (first | exact Below.refl _ _ | assumption | refine Below.drewN ?_ _ | refine Below.drew ?_ | refine Below.setCell ?_ (by first | exact Nat.le_refl _ | (simp; done) | (simp; omega) | omega) _ | refine Below.alloc ?_ (by first | exact Nat.le_refl _ | (simp; done) | (simp; omega) | omega) _)))) (ni.ext (by (repeat (first | exact Below.refl _ _ | assumption | refine Below.drewN ?_ _ | refine Below.drew ?_ | refine Below.setCell ?_ (by first | exact Nat.le_refl _ | (simp; done) | (simp; omega) | omega) _ | refine Below.alloc ?_ (by first | exact Nat.le_refl _ | (simp; done) | (simp; omega) | omega) _))))) R6).mono ?_
  rintro e w10 ⟨gj, pj, lj, cj, rfl, nj, _, hx10⟩
  have ex10 : Ext w9 w10 := Ext.step (by (repeat (first | exact Below.refl _ _ | assumption | refine Below.drewN ?_ _ | refine Below.drew ?_ | refine Below.setCell ?_ (by first | exact Nat.le_refl _ | (simp; done) | (simp; omega) | omega) _ | refine Below.alloc ?_ (by first | exact Nat.le_refl _ | (simp; done) | (simp; omega) | omega) _))) hx10
  have vI := VB.new ni hx10
  replace vA := vA.ext ex10
  replace vB := vB.ext ex10
  replace vC := vC.ext ex10
  replace vD := vD.ext ex10
  replace vE := vE.ext ex10
  replace vF := vF.ext ex10
  replace vH := vH.ext ex10
  replace ni := ni.ext ex10
  replace EX := EX.trans (ex10.mono EX.size)
  clear hx10
  clear qH1 qH2 qH3 qH4
  obtain ⟨qD1, qD2, qD3, qD4⟩ := id vD
  obtain ⟨qB1, qB2, qB3, qB4⟩ := id vB
  go_wp2_with fail
  refine (ret_num (num_Sub _ _ _ _ _ _ _ _ _ _ _ (qD4.ext (by (repeat (first | exact Below.refl _ _ | assumption | refine Below.drewN ?_ _ | refine Below.drew ?_ | refine Below.setCell ?_ (by first | exact Nat.le_refl _ | (simp; done) | (simp; omega) | omega) _ | refine Below.alloc ?_ (by first | exact Nat.le_refl _ | (simp; done) | (simp; omega) | omega) _)))) (qB4.ext (by (repeat (first | exact Below.refl _ _ | assumption | refine Below.drewN ?_ _ | refine Below.drew ?_ | refine Below.setCell ?_ (by first | exact Nat.le_refl _ | (simp; done) | (simp; omega) | omega) _ | refine Below.alloc ?_ (by first | exact Nat.le_refl _ | (simp; done) | (simp; omega) | omega) _))))) R7).mono ?_
  rintro e w11 ⟨gk, pk, lk, ck, rfl, nk, _, hx11⟩
  have ex11 : Ext w10 w11 := Ext.step (by (repeat (first | exact Below.refl _ _ | assumption | refine Below.drewN ?_ _ | refine Below.drew ?_ | refine Below.setCell ?_ (by first | exact Nat.le_refl _ | (simp; done) | (simp; omega) | omega) _ | refine Below.alloc ?_ (by first | exact Nat.le_refl _ | (simp; done) | (simp; omega) | omega) _))) hx11
  have vJ := VB.new nj hx11
  replace vA := vA.ext ex11
  replace vB := vB.ext ex11
  replace vC := vC.ext ex11
  replace vD := vD.ext ex11
  replace vE := vE.ext ex11
  replace vF := vF.ext ex11
  replace vH := vH.ext ex11
  replace vI := vI.ext ex11
  replace nj := nj.ext ex11
  replace EX := EX.trans (ex11.mono EX.size)
  clear hx11
  clear qD1 qD2 qD3 qD4
  clear qB1 qB2 qB3 qB4
  obtain ⟨qF1, qF2, qF3, qF4⟩ := id vF
  obtain ⟨qJ1, qJ2, qJ3, qJ4⟩ := id vJ
  go_wp2_with fail
  refine (ret_num (num_Sub _ _ _ _ _ _ _ _ _ _ _ (qF4.ext (by (repeat (first | exact Below.refl _ _ | assumption | refine Below.drewN ?_ _ | refine Below.drew ?_ | refine Below.setCell ?_ (by first | exact Nat.le_refl _ | (simp; done) | (simp; omega) | omega) _ | refine Below.alloc ?_ (by first | exact Nat.le_refl _ | (simp; done) | (simp; omega) | omega) _)))) (qJ4.ext (by (repeat (first | exact Below.refl _ _ | assumption | refine Below.drewN ?_ _ | refine Below.drew ?_ | refine Below.setCell ?_ (by first | exact Nat.le_refl _ | (simp; done) | (simp; omega) | omega) _ | refine Below.alloc ?_ (by first | exact Nat.le_refl _ | (simp; done) | (simp; omega) | omega) _))))) R8).mono ?_
  rintro e w12 ⟨gm, pm, lm, cm, rfl, nm, _, hx12⟩
  have ex12 : Ext w11 w12 := Ext.step (by (repeat (first | exact Below.refl _ _ | assumption | refine Below.drewN ?_ _ | refine Below.drew ?_ | refine Below.setCell ?_ (by first | exact Nat.le_refl _ | (simp; done) | (simp; omega) | omega) _ | refine Below.alloc ?_ (by first | exact Nat.le_refl _ | (simp; done) | (simp; omega) | omega) _))) hx12
  have vK := VB.new nk hx12
  replace vA := vA.ext ex12
  replace vB := vB.ext ex12
  replace vC := vC.ext ex12
  replace vD := vD.ext ex12
  replace vE := vE.ext ex12
  replace vF := vF.ext ex12
  replace vH := vH.ext ex12
  replace vI := vI.ext ex12
  replace vJ := vJ.ext ex12
  replace nk := nk.ext ex12
  replace EX := EX.trans (ex12.mono EX.size)
  clear hx12
  clear qF1 qF2 qF3 qF4
  clear qJ1 qJ2 qJ3 qJ4
  obtain ⟨qD1, qD2, qD3, qD4⟩ := vD
  obtain ⟨qE1, qE2, qE3, qE4⟩ := vE
  go_wp2_with fail
  refine (same_yes _ _ _ _ _ _ _ _ _ _ _ (qD4.ext (by (repeat (first | exact Below.refl _ _ | assumption | refine Below.drewN ?_ _ | refine Below.drew ?_ | refine Below.setCell ?_ (by first | exact Nat.le_refl _ | (simp; done) | (simp; omega) | omega) _ | refine Below.alloc ?_ (by first | exact Nat.le_refl _ | (simp; done) | (simp; omega) | omega) _)))) (qE4.ext (by (repeat (first | exact Below.refl _ _ | assumption | refine Below.drewN ?_ _ | refine Below.drew ?_ | refine Below.setCell ?_ (by first | exact Nat.le_refl _ | (simp; done) | (simp; omega) | omega) _ | refine Below.alloc ?_ (by first | exact Nat.le_refl _ | (simp; done) | (simp; omega) | omega) _)))) rfl).mono ?_
  rintro e w13 ⟨rfl, hx13⟩
  have ex13 : Ext w12 w13 := Ext.step (by (repeat (first | exact Below.refl _ _ | assumption | refine Below.drewN ?_ _ | refine Below.drew ?_ | refine Below.setCell ?_ (by first | exact Nat.le_refl _ | (simp; done) | (simp; omega) | omega) _ | refine Below.alloc ?_ (by first | exact Nat.le_refl _ | (simp; done) | (simp; omega) | omega) _))) hx13
  have vM := VB.new nm hx13
  replace vA := vA.ext ex13
  replace vB := vB.ext ex13
  replace vC := vC.ext ex13
  replace vF := vF.ext ex13
  replace vH := vH.ext ex13
  replace vI := vI.ext ex13
  replace vJ := vJ.ext ex13
  replace vK := vK.ext ex13
  replace nm := nm.ext ex13
  replace EX := EX.trans (ex13.mono EX.size)
  clear hx13
  obtain ⟨qF1, qF2, qF3, qF4⟩ := vF
  obtain ⟨qJ1, qJ2, qJ3, qJ4⟩ := vJ
  go_wp2_with fail
  refine (same_yes _ _ _ _ _ _ _ _ _ _ _ (qF4.ext (by (repeat (first | exact Below.refl _ _ | assumption | refine Below.drewN ?_ _ | refine Below.drew ?_ | refine Below.setCell ?_ (by first | exact Nat.le_refl _ | (simp; done) | (simp; omega) | omega) _ | refine Below.alloc ?_ (by first | exact Nat.le_refl _ | (simp; done) | (simp; omega) | omega) _)))) (qJ4.ext (by (repeat (first | exact Below.refl _ _ | assumption | refine Below.drewN ?_ _ | refine Below.drew ?_ | refine Below.setCell ?_ (by first | exact Nat.le_refl _ | (simp; done) | (simp; omega) | omega) _ | refine Below.alloc ?_ (by first | exact Nat.le_refl _ | (simp; done) | (simp; omega) | omega) _)))) rfl).mono ?_
  rintro e w14 ⟨rfl, hx14⟩
  have ex14 : Ext w13 w14 := Ext.step (by (repeat (first | exact Below.refl _ _ | assumption | refine Below.drewN ?_ _ | refine Below.drew ?_ | refine Below.setCell ?_ (by first | exact Nat.le_refl _ | (simp; done) | (simp; omega) | omega) _ | refine Below.alloc ?_ (by first | exact Nat.le_refl _ | (simp; done) | (simp; omega) | omega) _))) hx14
  replace vA := vA.ext ex14
  replace vB := vB.ext ex14
  replace vC := vC.ext ex14
  replace vH := vH.ext ex14
  replace vI := vI.ext ex14
  replace vK := vK.ext ex14
  replace vM := vM.ext ex14
  replace EX := EX.trans (ex14.mono EX.size)
  clear hx14
  obtain ⟨qK1, qK2, qK3, qK4⟩ := vK
  obtain ⟨qA1, qA2, qA3, qA4⟩ := vA
  go_wp2_with fail
  refine (same_yes _ _ _ _ _ _ _ _ _ _ _ (qK4.ext (by (repeat (first | exact Below.refl _ _ | assumption | refine Below.drewN ?_ _ | refine Below.drew ?_ | refine Below.setCell ?_ (by first | exact Nat.le_refl _ | (simp; done) | (simp; omega) | omega) _ | refine Below.alloc ?_ (by first | exact Nat.le_refl _ | (simp; done) | (simp; omega) | omega) _)))) (qA4.ext (by (repeat (first | exact Below.refl _ _ | assumption | refine Below.drewN ?_ _ | refine Below.drew ?_ | refine Below.setCell ?_ (by first | exact Nat.le_refl _ | (simp; done) | (simp; omega) | omega) _ | refine Below.alloc ?_ (by first | exact Nat.le_refl _ | (simp; done) | (simp; omega) | omega) _)))) rfl).mono ?_
  rintro e w15 ⟨rfl, hx15⟩
  have ex15 : Ext w14 w15 := Ext.step (by (repeat (first | exact Below.refl _ _ | assumption | refine Below.drewN ?_ _ | refine Below.drew ?_ | refine Below.setCell ?_ (by first | exact Nat.le_refl _ | (simp; done) | (simp; omega) | omega) _ | refine Below.alloc ?_ (by first | exact Nat.le_refl _ | (simp; done) | (simp; omega) | omega) _))) hx15
  replace vB := vB.ext ex15
  replace vC := vC.ext ex15
  replace vH := vH.ext ex15
  replace vI := vI.ext ex15
  replace vM := vM.ext ex15
  replace EX := EX.trans (ex15.mono EX.size)
  clear hx15
  obtain ⟨qM1, qM2, qM3, qM4⟩ := vM
  obtain ⟨rfl, rfl, _⟩ := qM4
  go_wp2
  go_ret
  exact ⟨rfl, EX⟩
end Go.Proofs.YtdaaknfmodbjcaaDoor
