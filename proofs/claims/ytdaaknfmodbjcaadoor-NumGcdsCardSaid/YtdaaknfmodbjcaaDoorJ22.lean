/- The walk of the law NumGcds. -/
import Derived.Test.YtdaaknfmodbjcaaDoorJ21
import Derived.Test.YtdaaknfmodbjcaaDoorJ15
set_option linter.unusedVariables false
set_option linter.unusedSimpArgs false

namespace Go.Proofs.YtdaaknfmodbjcaaDoor
open Go.RowKit

set_option maxRecDepth 100000 in
set_option maxHeartbeats 16000000 in
theorem Gcds_core (p0 : Option Addr) (l0 c0 : Nat) (p1 : Option Addr) (l1 c1 : Nat) (p2 : Option Addr) (l2 c2 : Nat) (w : World) (i0 : Ints w p0 l0 c0) (i1 : Ints w p1 l1 c1) (i2 : Ints w p2 l2 c2) (ht : Tab w) :
    Calls Tryd.prog 4 #[.slice p0 l0 c0, .slice p1 l1 c1, .slice p2 l2 c2] w fun e w' => e = .returned (.bool true) ∧ Ext w w' := by
  have TB := Lib.hid ht
  have Ia := Lib.hid i0
  have Ib := Lib.hid i1
  have Ic := Lib.hid i2
  clear ht i0 i1 i2
  go_enter Tryd.func4, Tryd.ntmps4
  have EX : Ext w w := Below.refl _ _
  go_wp2_with fail
  refine (law_sanity1 _ (TB.out.ext (by (repeat (first | exact Below.refl _ _ | assumption | refine Below.drewN ?_ _ | refine Below.drew ?_ | refine Below.setCell ?_ (by first | exact Nat.le_refl _ | (simp; done) | (simp; omega) | omega) _ | refine Below.alloc ?_ (by first | exact Nat.le_refl _ | (simp; done) | (simp; omega) | omega) _))))).mono ?_
  rintro e w1 ⟨rfl, hx1⟩
  have ex1 : Ext w w1 := Ext.step (by (repeat (first | exact Below.refl _ _ | assumption | refine Below.drewN ?_ _ | refine Below.drew ?_ | refine Below.setCell ?_ (by first | exact Nat.le_refl _ | (simp; done) | (simp; omega) | omega) _ | refine Below.alloc ?_ (by first | exact Nat.le_refl _ | (simp; done) | (simp; omega) | omega) _))) hx1
  replace EX := EX.trans (ex1.mono EX.size)
  clear hx1
  go_wp2_with fail
  refine (made_z _ _ _ _ ((Ia.out).ext (EX.trans (by (repeat (first | exact Below.refl _ _ | assumption | refine Below.drewN ?_ _ | refine Below.drew ?_ | refine Below.setCell ?_ (by first | exact Nat.le_refl _ | (simp; done) | (simp; omega) | omega) _ | refine Below.alloc ?_ (by first | exact Nat.le_refl _ | (simp; done) | (simp; omega) | omega) _)))))).mono ?_
  rintro e w2 ⟨ga, pa, la, ca, xa, rfl, na, ba, hx2⟩
  have ex2 : Ext w1 w2 := Ext.step (by (repeat (first | exact Below.refl _ _ | assumption | refine Below.drewN ?_ _ | refine Below.drew ?_ | refine Below.setCell ?_ (by first | exact Nat.le_refl _ | (simp; done) | (simp; omega) | omega) _ | refine Below.alloc ?_ (by first | exact Nat.le_refl _ | (simp; done) | (simp; omega) | omega) _))) hx2
  replace EX := EX.trans (ex2.mono EX.size)
  clear hx2
  go_wp2_with fail
  refine (made_z _ _ _ _ ((Ib.out).ext (EX.trans (by (repeat (first | exact Below.refl _ _ | assumption | refine Below.drewN ?_ _ | refine Below.drew ?_ | refine Below.setCell ?_ (by first | exact Nat.le_refl _ | (simp; done) | (simp; omega) | omega) _ | refine Below.alloc ?_ (by first | exact Nat.le_refl _ | (simp; done) | (simp; omega) | omega) _)))))).mono ?_
  rintro e w3 ⟨gb, pb, lb, cb, xb, rfl, nb, bb, hx3⟩
  have ex3 : Ext w2 w3 := Ext.step (by (repeat (first | exact Below.refl _ _ | assumption | refine Below.drewN ?_ _ | refine Below.drew ?_ | refine Below.setCell ?_ (by first | exact Nat.le_refl _ | (simp; done) | (simp; omega) | omega) _ | refine Below.alloc ?_ (by first | exact Nat.le_refl _ | (simp; done) | (simp; omega) | omega) _))) hx3
  replace na := na.ext ex3
  replace EX := EX.trans (ex3.mono EX.size)
  clear hx3
  go_wp2_with fail
  refine (made_abs _ _ _ _ ((Ic.out).ext (EX.trans (by (repeat (first | exact Below.refl _ _ | assumption | refine Below.drewN ?_ _ | refine Below.drew ?_ | refine Below.setCell ?_ (by first | exact Nat.le_refl _ | (simp; done) | (simp; omega) | omega) _ | refine Below.alloc ?_ (by first | exact Nat.le_refl _ | (simp; done) | (simp; omega) | omega) _)))))).mono ?_
  rintro e w4 ⟨gc, pc, lc, cc, n, rfl, nc, bc, _, hx4⟩
  have ex4 : Ext w3 w4 := Ext.step (by (repeat (first | exact Below.refl _ _ | assumption | refine Below.drewN ?_ _ | refine Below.drew ?_ | refine Below.setCell ?_ (by first | exact Nat.le_refl _ | (simp; done) | (simp; omega) | omega) _ | refine Below.alloc ?_ (by first | exact Nat.le_refl _ | (simp; done) | (simp; omega) | omega) _))) hx4
  replace na := na.ext ex4
  replace nb := nb.ext ex4
  replace EX := EX.trans (ex4.mono EX.size)
  clear hx4
  obtain ⟨g, R1, R2, R3, R4, R5, R6, R7, R8, R9, R10⟩ := gcds_ok ba bb bc
  generalize HU : xa * (n : Int) = u at R3 R6 R7 R10
  generalize HV : xb * (n : Int) = v at R4 R6 R9
  generalize HS : ((g * n : Nat) : Int) = s at R5 R6
  obtain ⟨nn, NN⟩ : ∃ z, (n : Int) = z := ⟨_, rfl⟩
  rw [NN] at R3 R4 R5 R7 nc
  have HR2 := Lib.hid R2
  clear R2 ba bb bc HU HV HS NN
  go_wp2_with fail
  refine (ret_num (gcd_all _ _ (ofZ (g : Int), true) _ _ _ _ _ _ _ _ _ (na.ext (by (repeat (first | exact Below.refl _ _ | assumption | refine Below.drewN ?_ _ | refine Below.drew ?_ | refine Below.setCell ?_ (by first | exact Nat.le_refl _ | (simp; done) | (simp; omega) | omega) _ | refine Below.alloc ?_ (by first | exact Nat.le_refl _ | (simp; done) | (simp; omega) | omega) _)))) (nb.ext (by (repeat (first | exact Below.refl _ _ | assumption | refine Below.drewN ?_ _ | refine Below.drew ?_ | refine Below.setCell ?_ (by first | exact Nat.le_refl _ | (simp; done) | (simp; omega) | omega) _ | refine Below.alloc ?_ (by first | exact Nat.le_refl _ | (simp; done) | (simp; omega) | omega) _)))) R8 R1) rfl).mono ?_
  rintro e w5 ⟨gg, pg, lg, cg, rfl, ng, _, hx5⟩
  have ex5 : Ext w4 w5 := Ext.step (by (repeat (first | exact Below.refl _ _ | assumption | refine Below.drewN ?_ _ | refine Below.drew ?_ | refine Below.setCell ?_ (by first | exact Nat.le_refl _ | (simp; done) | (simp; omega) | omega) _ | refine Below.alloc ?_ (by first | exact Nat.le_refl _ | (simp; done) | (simp; omega) | omega) _))) hx5
  obtain ⟨vA, vB, vC⟩ := VB.new3 na nb nc hx5
  replace na := na.ext ex5
  replace nb := nb.ext ex5
  replace nc := nc.ext ex5
  replace EX := EX.trans (ex5.mono EX.size)
  clear hx5
  have hgn : gg = false := ng.1.trans neg_ofZ
  subst hgn
  have hlg : lg = 0 ↔ g = 0 := by rw [ng.2.1, len_ofZ]; omega
  by_cases h0 : 0 < g
  · have hl0 : 0 < lg := Nat.pos_of_ne_zero (fun h => by have := hlg.1 h; omega)
    clear hlg
    obtain ⟨⟨d1, D1⟩, d2, D2⟩ := HR2.out h0
    clear HR2 h0
    obtain ⟨qA1, qA2, qA3, qA4⟩ := id vA
    go_wp2_with fail
    refine (div_all _ _ (d1, ⟨false, []⟩, true) _ _ _ _ _ _ _ _ _ (qA4.ext (by (repeat (first | exact Below.refl _ _ | assumption | refine Below.drewN ?_ _ | refine Below.drew ?_ | refine Below.setCell ?_ (by first | exact Nat.le_refl _ | (simp; done) | (simp; omega) | omega) _ | refine Below.alloc ?_ (by first | exact Nat.le_refl _ | (simp; done) | (simp; omega) | omega) _)))) (ng.ext (by (repeat (first | exact Below.refl _ _ | assumption | refine Below.drewN ?_ _ | refine Below.drew ?_ | refine Below.setCell ?_ (by first | exact Nat.le_refl _ | (simp; done) | (simp; omega) | omega) _ | refine Below.alloc ?_ (by first | exact Nat.le_refl _ | (simp; done) | (simp; omega) | omega) _)))) D1).mono ?_
    rintro e w6 ⟨gr, pr, lr, cr, gt, pt, lt, ct, rfl, nr, nt, _, _, hx6⟩
    have ex6 : Ext w5 w6 := Ext.step (by (repeat (first | exact Below.refl _ _ | assumption | refine Below.drewN ?_ _ | refine Below.drew ?_ | refine Below.setCell ?_ (by first | exact Nat.le_refl _ | (simp; done) | (simp; omega) | omega) _ | refine Below.alloc ?_ (by first | exact Nat.le_refl _ | (simp; done) | (simp; omega) | omega) _))) hx6
    have vG := VB.new ng hx6
    replace vA := vA.ext ex6
    replace vB := vB.ext ex6
    replace vC := vC.ext ex6
    replace ng := ng.ext ex6
    replace EX := EX.trans (ex6.mono EX.size)
    clear hx6
    clear qA1 qA2 qA3 qA4
    obtain ⟨rfl, rfl, _⟩ := id nt
    obtain ⟨qB1, qB2, qB3, qB4⟩ := id vB
    obtain ⟨qG1, qG2, qG3, qG4⟩ := id vG
    obtain ⟨qA1, qA2, qA3, qA4⟩ := id vA
    go_wp2_with fail
    refine (div_all _ _ (d2, ⟨false, []⟩, true) _ _ _ _ _ _ _ _ _ (qB4.ext (by (repeat (first | exact Below.refl _ _ | assumption | refine Below.drewN ?_ _ | refine Below.drew ?_ | refine Below.setCell ?_ (by first | exact Nat.le_refl _ | (simp; done) | (simp; omega) | omega) _ | refine Below.alloc ?_ (by first | exact Nat.le_refl _ | (simp; done) | (simp; omega) | omega) _)))) (qG4.ext (by (repeat (first | exact Below.refl _ _ | assumption | refine Below.drewN ?_ _ | refine Below.drew ?_ | refine Below.setCell ?_ (by first | exact Nat.le_refl _ | (simp; done) | (simp; omega) | omega) _ | refine Below.alloc ?_ (by first | exact Nat.le_refl _ | (simp; done) | (simp; omega) | omega) _)))) D2).mono ?_
    rintro e w7 ⟨gu1, pu1, lu1, cu1, gs, ps, ls, cs, rfl, nu1, ns, _, _, hx7⟩
    have ex7 : Ext w6 w7 := Ext.step (by (repeat (first | exact Below.refl _ _ | assumption | refine Below.drewN ?_ _ | refine Below.drew ?_ | refine Below.setCell ?_ (by first | exact Nat.le_refl _ | (simp; done) | (simp; omega) | omega) _ | refine Below.alloc ?_ (by first | exact Nat.le_refl _ | (simp; done) | (simp; omega) | omega) _))) hx7
    obtain ⟨vG2, vT⟩ := VB.new2 nr nt hx7
    replace vA := vA.ext ex7
    replace vB := vB.ext ex7
    replace vC := vC.ext ex7
    replace vG := vG.ext ex7
    replace nr := nr.ext ex7
    replace nt := nt.ext ex7
    replace EX := EX.trans (ex7.mono EX.size)
    clear hx7
    clear qB1 qB2 qB3 qB4
    clear qG1 qG2 qG3 qG4
    clear qA1 qA2 qA3 qA4
    obtain ⟨rfl, rfl, _⟩ := id ns
    obtain ⟨qA1, qA2, qA3, qA4⟩ := id vA
    obtain ⟨qC1, qC2, qC3, qC4⟩ := id vC
    obtain ⟨qG21, qG22, qG23, qG24⟩ := id vG2
    obtain ⟨qT1, qT2, qT3, qT4⟩ := id vT
    obtain ⟨qB1, qB2, qB3, qB4⟩ := id vB
    go_wp2_with fail
    refine (ret_num (num_Mul _ _ _ _ _ _ _ _ _ _ _ (qA4.ext (by (repeat (first | exact Below.refl _ _ | assumption | refine Below.drewN ?_ _ | refine Below.drew ?_ | refine Below.setCell ?_ (by first | exact Nat.le_refl _ | (simp; done) | (simp; omega) | omega) _ | refine Below.alloc ?_ (by first | exact Nat.le_refl _ | (simp; done) | (simp; omega) | omega) _)))) (qC4.ext (by (repeat (first | exact Below.refl _ _ | assumption | refine Below.drewN ?_ _ | refine Below.drew ?_ | refine Below.setCell ?_ (by first | exact Nat.le_refl _ | (simp; done) | (simp; omega) | omega) _ | refine Below.alloc ?_ (by first | exact Nat.le_refl _ | (simp; done) | (simp; omega) | omega) _))))) R3).mono ?_
    rintro e w8 ⟨gh, ph, lh, ch, rfl, nh, _, hx8⟩
    have ex8 : Ext w7 w8 := Ext.step (by (repeat (first | exact Below.refl _ _ | assumption | refine Below.drewN ?_ _ | refine Below.drew ?_ | refine Below.setCell ?_ (by first | exact Nat.le_refl _ | (simp; done) | (simp; omega) | omega) _ | refine Below.alloc ?_ (by first | exact Nat.le_refl _ | (simp; done) | (simp; omega) | omega) _))) hx8
    obtain ⟨vS1, vS⟩ := VB.new2 nu1 ns hx8
    replace vA := vA.ext ex8
    replace vB := vB.ext ex8
    replace vC := vC.ext ex8
    replace vG := vG.ext ex8
    replace vG2 := vG2.ext ex8
    replace vT := vT.ext ex8
    replace nu1 := nu1.ext ex8
    replace ns := ns.ext ex8
    replace EX := EX.trans (ex8.mono EX.size)
    clear hx8
    clear qA1 qA2 qA3 qA4
    clear qC1 qC2 qC3 qC4
    clear qG21 qG22 qG23 qG24
    clear qT1 qT2 qT3 qT4
    clear qB1 qB2 qB3 qB4
    obtain ⟨qB1, qB2, qB3, qB4⟩ := id vB
    obtain ⟨qC1, qC2, qC3, qC4⟩ := id vC
    go_wp2_with fail
    refine (ret_num (num_Mul _ _ _ _ _ _ _ _ _ _ _ (qB4.ext (by (repeat (first | exact Below.refl _ _ | assumption | refine Below.drewN ?_ _ | refine Below.drew ?_ | refine Below.setCell ?_ (by first | exact Nat.le_refl _ | (simp; done) | (simp; omega) | omega) _ | refine Below.alloc ?_ (by first | exact Nat.le_refl _ | (simp; done) | (simp; omega) | omega) _)))) (qC4.ext (by (repeat (first | exact Below.refl _ _ | assumption | refine Below.drewN ?_ _ | refine Below.drew ?_ | refine Below.setCell ?_ (by first | exact Nat.le_refl _ | (simp; done) | (simp; omega) | omega) _ | refine Below.alloc ?_ (by first | exact Nat.le_refl _ | (simp; done) | (simp; omega) | omega) _))))) R4).mono ?_
    rintro e w9 ⟨gi, pi, li, ci, rfl, ni, _, hx9⟩
    have ex9 : Ext w8 w9 := Ext.step (by (repeat (first | exact Below.refl _ _ | assumption | refine Below.drewN ?_ _ | refine Below.drew ?_ | refine Below.setCell ?_ (by first | exact Nat.le_refl _ | (simp; done) | (simp; omega) | omega) _ | refine Below.alloc ?_ (by first | exact Nat.le_refl _ | (simp; done) | (simp; omega) | omega) _))) hx9
    have vH := VB.new nh hx9
    replace vA := vA.ext ex9
    replace vB := vB.ext ex9
    replace vC := vC.ext ex9
    replace vG := vG.ext ex9
    replace vG2 := vG2.ext ex9
    replace vT := vT.ext ex9
    replace vS1 := vS1.ext ex9
    replace vS := vS.ext ex9
    replace nh := nh.ext ex9
    replace EX := EX.trans (ex9.mono EX.size)
    clear hx9
    clear qB1 qB2 qB3 qB4
    clear qC1 qC2 qC3 qC4
    obtain ⟨qG1, qG2, qG3, qG4⟩ := id vG
    obtain ⟨qC1, qC2, qC3, qC4⟩ := id vC
    go_wp2_with fail
    refine (ret_num (num_Mul _ _ _ _ _ _ _ _ _ _ _ (qG4.ext (by (repeat (first | exact Below.refl _ _ | assumption | refine Below.drewN ?_ _ | refine Below.drew ?_ | refine Below.setCell ?_ (by first | exact Nat.le_refl _ | (simp; done) | (simp; omega) | omega) _ | refine Below.alloc ?_ (by first | exact Nat.le_refl _ | (simp; done) | (simp; omega) | omega) _)))) (qC4.ext (by (repeat (first | exact Below.refl _ _ | assumption | refine Below.drewN ?_ _ | refine Below.drew ?_ | refine Below.setCell ?_ (by first | exact Nat.le_refl _ | (simp; done) | (simp; omega) | omega) _ | refine Below.alloc ?_ (by first | exact Nat.le_refl _ | (simp; done) | (simp; omega) | omega) _))))) R5).mono ?_
    rintro e w10 ⟨gj, pj, lj, cj, rfl, nj, _, hx10⟩
    have ex10 : Ext w9 w10 := Ext.step (by (repeat (first | exact Below.refl _ _ | assumption | refine Below.drewN ?_ _ | refine Below.drew ?_ | refine Below.setCell ?_ (by first | exact Nat.le_refl _ | (simp; done) | (simp; omega) | omega) _ | refine Below.alloc ?_ (by first | exact Nat.le_refl _ | (simp; done) | (simp; omega) | omega) _))) hx10
    have vI := VB.new ni hx10
    replace vA := vA.ext ex10
    replace vB := vB.ext ex10
    replace vC := vC.ext ex10
    replace vG := vG.ext ex10
    replace vG2 := vG2.ext ex10
    replace vT := vT.ext ex10
    replace vS1 := vS1.ext ex10
    replace vS := vS.ext ex10
    replace vH := vH.ext ex10
    replace ni := ni.ext ex10
    replace EX := EX.trans (ex10.mono EX.size)
    clear hx10
    clear qG1 qG2 qG3 qG4
    clear qC1 qC2 qC3 qC4
    obtain ⟨qH1, qH2, qH3, qH4⟩ := id vH
    obtain ⟨qI1, qI2, qI3, qI4⟩ := id vI
    go_wp2_with fail
    refine (ret_num (gcd_all _ _ (ofZ s, true) _ _ _ _ _ _ _ _ _ (qH4.ext (by (repeat (first | exact Below.refl _ _ | assumption | refine Below.drewN ?_ _ | refine Below.drew ?_ | refine Below.setCell ?_ (by first | exact Nat.le_refl _ | (simp; done) | (simp; omega) | omega) _ | refine Below.alloc ?_ (by first | exact Nat.le_refl _ | (simp; done) | (simp; omega) | omega) _)))) (qI4.ext (by (repeat (first | exact Below.refl _ _ | assumption | refine Below.drewN ?_ _ | refine Below.drew ?_ | refine Below.setCell ?_ (by first | exact Nat.le_refl _ | (simp; done) | (simp; omega) | omega) _ | refine Below.alloc ?_ (by first | exact Nat.le_refl _ | (simp; done) | (simp; omega) | omega) _)))) R9 R6) rfl).mono ?_
    rintro e w11 ⟨gk, pk, lk, ck, rfl, nk, _, hx11⟩
    have ex11 : Ext w10 w11 := Ext.step (by (repeat (first | exact Below.refl _ _ | assumption | refine Below.drewN ?_ _ | refine Below.drew ?_ | refine Below.setCell ?_ (by first | exact Nat.le_refl _ | (simp; done) | (simp; omega) | omega) _ | refine Below.alloc ?_ (by first | exact Nat.le_refl _ | (simp; done) | (simp; omega) | omega) _))) hx11
    have vJ := VB.new nj hx11
    replace vA := vA.ext ex11
    replace vB := vB.ext ex11
    replace vC := vC.ext ex11
    replace vG := vG.ext ex11
    replace vG2 := vG2.ext ex11
    replace vT := vT.ext ex11
    replace vS1 := vS1.ext ex11
    replace vS := vS.ext ex11
    replace vH := vH.ext ex11
    replace vI := vI.ext ex11
    replace nj := nj.ext ex11
    replace EX := EX.trans (ex11.mono EX.size)
    clear hx11
    clear qH1 qH2 qH3 qH4
    clear qI1 qI2 qI3 qI4
    obtain ⟨qC1, qC2, qC3, qC4⟩ := id vC
    obtain ⟨qH1, qH2, qH3, qH4⟩ := id vH
    go_wp2_with fail
    refine (ret_num (gcd_all _ _ (ofZ nn, true) _ _ _ _ _ _ _ _ _ (qC4.ext (by (repeat (first | exact Below.refl _ _ | assumption | refine Below.drewN ?_ _ | refine Below.drew ?_ | refine Below.setCell ?_ (by first | exact Nat.le_refl _ | (simp; done) | (simp; omega) | omega) _ | refine Below.alloc ?_ (by first | exact Nat.le_refl _ | (simp; done) | (simp; omega) | omega) _)))) (qH4.ext (by (repeat (first | exact Below.refl _ _ | assumption | refine Below.drewN ?_ _ | refine Below.drew ?_ | refine Below.setCell ?_ (by first | exact Nat.le_refl _ | (simp; done) | (simp; omega) | omega) _ | refine Below.alloc ?_ (by first | exact Nat.le_refl _ | (simp; done) | (simp; omega) | omega) _)))) R10 R7) rfl).mono ?_
    rintro e w12 ⟨gm, pm, lm, cm, rfl, nm, _, hx12⟩
    have ex12 : Ext w11 w12 := Ext.step (by (repeat (first | exact Below.refl _ _ | assumption | refine Below.drewN ?_ _ | refine Below.drew ?_ | refine Below.setCell ?_ (by first | exact Nat.le_refl _ | (simp; done) | (simp; omega) | omega) _ | refine Below.alloc ?_ (by first | exact Nat.le_refl _ | (simp; done) | (simp; omega) | omega) _))) hx12
    have vK := VB.new nk hx12
    replace vA := vA.ext ex12
    replace vB := vB.ext ex12
    replace vC := vC.ext ex12
    replace vG := vG.ext ex12
    replace vG2 := vG2.ext ex12
    replace vT := vT.ext ex12
    replace vS1 := vS1.ext ex12
    replace vS := vS.ext ex12
    replace vH := vH.ext ex12
    replace vI := vI.ext ex12
    replace vJ := vJ.ext ex12
    replace nk := nk.ext ex12
    replace EX := EX.trans (ex12.mono EX.size)
    clear hx12
    clear qC1 qC2 qC3 qC4
    clear qH1 qH2 qH3 qH4
    obtain ⟨qK1, qK2, qK3, qK4⟩ := id vK
    obtain ⟨qJ1, qJ2, qJ3, qJ4⟩ := id vJ
    go_wp2_with fail
    refine (same_yes _ _ _ _ _ _ _ _ _ _ _ (qK4.ext (by (repeat (first | exact Below.refl _ _ | assumption | refine Below.drewN ?_ _ | refine Below.drew ?_ | refine Below.setCell ?_ (by first | exact Nat.le_refl _ | (simp; done) | (simp; omega) | omega) _ | refine Below.alloc ?_ (by first | exact Nat.le_refl _ | (simp; done) | (simp; omega) | omega) _)))) (qJ4.ext (by (repeat (first | exact Below.refl _ _ | assumption | refine Below.drewN ?_ _ | refine Below.drew ?_ | refine Below.setCell ?_ (by first | exact Nat.le_refl _ | (simp; done) | (simp; omega) | omega) _ | refine Below.alloc ?_ (by first | exact Nat.le_refl _ | (simp; done) | (simp; omega) | omega) _)))) rfl).mono ?_
    rintro e w13 ⟨rfl, hx13⟩
    have ex13 : Ext w12 w13 := Ext.step (by (repeat (first | exact Below.refl _ _ | assumption | refine Below.drewN ?_ _ | refine Below.drew ?_ | refine Below.setCell ?_ (by first | exact Nat.le_refl _ | (simp; done) | (simp; omega) | omega) _ | refine Below.alloc ?_ (by first | exact Nat.le_refl _ | (simp; done) | (simp; omega) | omega) _))) hx13
    have vM := VB.new nm hx13
    replace vA := vA.ext ex13
    replace vB := vB.ext ex13
    replace vC := vC.ext ex13
    replace vG := vG.ext ex13
    replace vG2 := vG2.ext ex13
    replace vT := vT.ext ex13
    replace vS1 := vS1.ext ex13
    replace vS := vS.ext ex13
    replace vH := vH.ext ex13
    replace vI := vI.ext ex13
    replace vJ := vJ.ext ex13
    replace vK := vK.ext ex13
    replace nm := nm.ext ex13
    replace EX := EX.trans (ex13.mono EX.size)
    clear hx13
    clear qK1 qK2 qK3 qK4
    clear qJ1 qJ2 qJ3 qJ4
    obtain ⟨qM1, qM2, qM3, qM4⟩ := id vM
    obtain ⟨qC1, qC2, qC3, qC4⟩ := id vC
    go_wp2_with fail
    refine (same_yes _ _ _ _ _ _ _ _ _ _ _ (qM4.ext (by (repeat (first | exact Below.refl _ _ | assumption | refine Below.drewN ?_ _ | refine Below.drew ?_ | refine Below.setCell ?_ (by first | exact Nat.le_refl _ | (simp; done) | (simp; omega) | omega) _ | refine Below.alloc ?_ (by first | exact Nat.le_refl _ | (simp; done) | (simp; omega) | omega) _)))) (qC4.ext (by (repeat (first | exact Below.refl _ _ | assumption | refine Below.drewN ?_ _ | refine Below.drew ?_ | refine Below.setCell ?_ (by first | exact Nat.le_refl _ | (simp; done) | (simp; omega) | omega) _ | refine Below.alloc ?_ (by first | exact Nat.le_refl _ | (simp; done) | (simp; omega) | omega) _)))) rfl).mono ?_
    rintro e w14 ⟨rfl, hx14⟩
    have ex14 : Ext w13 w14 := Ext.step (by (repeat (first | exact Below.refl _ _ | assumption | refine Below.drewN ?_ _ | refine Below.drew ?_ | refine Below.setCell ?_ (by first | exact Nat.le_refl _ | (simp; done) | (simp; omega) | omega) _ | refine Below.alloc ?_ (by first | exact Nat.le_refl _ | (simp; done) | (simp; omega) | omega) _))) hx14
    replace vA := vA.ext ex14
    replace vB := vB.ext ex14
    replace vC := vC.ext ex14
    replace vG := vG.ext ex14
    replace vG2 := vG2.ext ex14
    replace vT := vT.ext ex14
    replace vS1 := vS1.ext ex14
    replace vS := vS.ext ex14
    replace vH := vH.ext ex14
    replace vI := vI.ext ex14
    replace vJ := vJ.ext ex14
    replace vK := vK.ext ex14
    replace vM := vM.ext ex14
    replace EX := EX.trans (ex14.mono EX.size)
    clear hx14
    clear qM1 qM2 qM3 qM4
    clear qC1 qC2 qC3 qC4
    go_wp2
    go_ret
    exact ⟨rfl, EX⟩
  · have hl0 : lg = 0 := hlg.2 (by omega)
    clear hlg
    subst hl0
    clear HR2 h0
    obtain ⟨qA1, qA2, qA3, qA4⟩ := id vA
    obtain ⟨qC1, qC2, qC3, qC4⟩ := id vC
    obtain ⟨qB1, qB2, qB3, qB4⟩ := id vB
    go_wp2_with fail
    refine (ret_num (num_Mul _ _ _ _ _ _ _ _ _ _ _ (qA4.ext (by (repeat (first | exact Below.refl _ _ | assumption | refine Below.drewN ?_ _ | refine Below.drew ?_ | refine Below.setCell ?_ (by first | exact Nat.le_refl _ | (simp; done) | (simp; omega) | omega) _ | refine Below.alloc ?_ (by first | exact Nat.le_refl _ | (simp; done) | (simp; omega) | omega) _)))) (qC4.ext (by (repeat (first | exact Below.refl _ _ | assumption | refine Below.drewN ?_ _ | refine Below.drew ?_ | refine Below.setCell ?_ (by first | exact Nat.le_refl _ | (simp; done) | (simp; omega) | omega) _ | refine Below.alloc ?_ (by first | exact Nat.le_refl _ | (simp; done) | (simp; omega) | omega) _))))) R3).mono ?_
    rintro e w6 ⟨gh, ph, lh, ch, rfl, nh, _, hx6⟩
    have ex6 : Ext w5 w6 := Ext.step (by (repeat (first | exact Below.refl _ _ | assumption | refine Below.drewN ?_ _ | refine Below.drew ?_ | refine Below.setCell ?_ (by first | exact Nat.le_refl _ | (simp; done) | (simp; omega) | omega) _ | refine Below.alloc ?_ (by first | exact Nat.le_refl _ | (simp; done) | (simp; omega) | omega) _))) hx6
    have vG := VB.new ng hx6
    replace vA := vA.ext ex6
    replace vB := vB.ext ex6
    replace vC := vC.ext ex6
    replace ng := ng.ext ex6
    replace EX := EX.trans (ex6.mono EX.size)
    clear hx6
    clear qA1 qA2 qA3 qA4
    clear qC1 qC2 qC3 qC4
    clear qB1 qB2 qB3 qB4
    obtain ⟨qB1, qB2, qB3, qB4⟩ := id vB
    obtain ⟨qC1, qC2, qC3, qC4⟩ := id vC
    go_wp2_with fail
    refine (ret_num (num_Mul _ _ _ _ _ _ _ _ _ _ _ (qB4.ext (by (repeat (first | exact Below.refl _ _ | assumption | refine Below.drewN ?_ _ | refine Below.drew ?_ | refine Below.setCell ?_ (by first | exact Nat.le_refl _ | (simp; done) | (simp; omega) | omega) _ | refine Below.alloc ?_ (by first | exact Nat.le_refl _ | (simp; done) | (simp; omega) | omega) _)))) (qC4.ext (by (repeat (first | exact Below.refl _ _ | assumption | refine Below.drewN ?_ _ | refine Below.drew ?_ | refine Below.setCell ?_ (by first | exact Nat.le_refl _ | (simp; done) | (simp; omega) | omega) _ | refine Below.alloc ?_ (by first | exact Nat.le_refl _ | (simp; done) | (simp; omega) | omega) _))))) R4).mono ?_
    rintro e w7 ⟨gi, pi, li, ci, rfl, ni, _, hx7⟩
    have ex7 : Ext w6 w7 := Ext.step (by (repeat (first | exact Below.refl _ _ | assumption | refine Below.drewN ?_ _ | refine Below.drew ?_ | refine Below.setCell ?_ (by first | exact Nat.le_refl _ | (simp; done) | (simp; omega) | omega) _ | refine Below.alloc ?_ (by first | exact Nat.le_refl _ | (simp; done) | (simp; omega) | omega) _))) hx7
    have vH := VB.new nh hx7
    replace vA := vA.ext ex7
    replace vB := vB.ext ex7
    replace vC := vC.ext ex7
    replace vG := vG.ext ex7
    replace nh := nh.ext ex7
    replace EX := EX.trans (ex7.mono EX.size)
    clear hx7
    clear qB1 qB2 qB3 qB4
    clear qC1 qC2 qC3 qC4
    obtain ⟨qG1, qG2, qG3, qG4⟩ := id vG
    obtain ⟨qC1, qC2, qC3, qC4⟩ := id vC
    go_wp2_with fail
    refine (ret_num (num_Mul _ _ _ _ _ _ _ _ _ _ _ (qG4.ext (by (repeat (first | exact Below.refl _ _ | assumption | refine Below.drewN ?_ _ | refine Below.drew ?_ | refine Below.setCell ?_ (by first | exact Nat.le_refl _ | (simp; done) | (simp; omega) | omega) _ | refine Below.alloc ?_ (by first | exact Nat.le_refl _ | (simp; done) | (simp; omega) | omega) _)))) (qC4.ext (by (repeat (first | exact Below.refl _ _ | assumption | refine Below.drewN ?_ _ | refine Below.drew ?_ | refine Below.setCell ?_ (by first | exact Nat.le_refl _ | (simp; done) | (simp; omega) | omega) _ | refine Below.alloc ?_ (by first | exact Nat.le_refl _ | (simp; done) | (simp; omega) | omega) _))))) R5).mono ?_
    rintro e w8 ⟨gj, pj, lj, cj, rfl, nj, _, hx8⟩
    have ex8 : Ext w7 w8 := Ext.step (by (repeat (first | exact Below.refl _ _ | assumption | refine Below.drewN ?_ _ | refine Below.drew ?_ | refine Below.setCell ?_ (by first | exact Nat.le_refl _ | (simp; done) | (simp; omega) | omega) _ | refine Below.alloc ?_ (by first | exact Nat.le_refl _ | (simp; done) | (simp; omega) | omega) _))) hx8
    have vI := VB.new ni hx8
    replace vA := vA.ext ex8
    replace vB := vB.ext ex8
    replace vC := vC.ext ex8
    replace vG := vG.ext ex8
    replace vH := vH.ext ex8
    replace ni := ni.ext ex8
    replace EX := EX.trans (ex8.mono EX.size)
    clear hx8
    clear qG1 qG2 qG3 qG4
    clear qC1 qC2 qC3 qC4
    obtain ⟨qH1, qH2, qH3, qH4⟩ := id vH
    obtain ⟨qI1, qI2, qI3, qI4⟩ := id vI
    go_wp2_with fail
    refine (ret_num (gcd_all _ _ (ofZ s, true) _ _ _ _ _ _ _ _ _ (qH4.ext (by (repeat (first | exact Below.refl _ _ | assumption | refine Below.drewN ?_ _ | refine Below.drew ?_ | refine Below.setCell ?_ (by first | exact Nat.le_refl _ | (simp; done) | (simp; omega) | omega) _ | refine Below.alloc ?_ (by first | exact Nat.le_refl _ | (simp; done) | (simp; omega) | omega) _)))) (qI4.ext (by (repeat (first | exact Below.refl _ _ | assumption | refine Below.drewN ?_ _ | refine Below.drew ?_ | refine Below.setCell ?_ (by first | exact Nat.le_refl _ | (simp; done) | (simp; omega) | omega) _ | refine Below.alloc ?_ (by first | exact Nat.le_refl _ | (simp; done) | (simp; omega) | omega) _)))) R9 R6) rfl).mono ?_
    rintro e w9 ⟨gk, pk, lk, ck, rfl, nk, _, hx9⟩
    have ex9 : Ext w8 w9 := Ext.step (by (repeat (first | exact Below.refl _ _ | assumption | refine Below.drewN ?_ _ | refine Below.drew ?_ | refine Below.setCell ?_ (by first | exact Nat.le_refl _ | (simp; done) | (simp; omega) | omega) _ | refine Below.alloc ?_ (by first | exact Nat.le_refl _ | (simp; done) | (simp; omega) | omega) _))) hx9
    have vJ := VB.new nj hx9
    replace vA := vA.ext ex9
    replace vB := vB.ext ex9
    replace vC := vC.ext ex9
    replace vG := vG.ext ex9
    replace vH := vH.ext ex9
    replace vI := vI.ext ex9
    replace nj := nj.ext ex9
    replace EX := EX.trans (ex9.mono EX.size)
    clear hx9
    clear qH1 qH2 qH3 qH4
    clear qI1 qI2 qI3 qI4
    obtain ⟨qC1, qC2, qC3, qC4⟩ := id vC
    obtain ⟨qH1, qH2, qH3, qH4⟩ := id vH
    go_wp2_with fail
    refine (ret_num (gcd_all _ _ (ofZ nn, true) _ _ _ _ _ _ _ _ _ (qC4.ext (by (repeat (first | exact Below.refl _ _ | assumption | refine Below.drewN ?_ _ | refine Below.drew ?_ | refine Below.setCell ?_ (by first | exact Nat.le_refl _ | (simp; done) | (simp; omega) | omega) _ | refine Below.alloc ?_ (by first | exact Nat.le_refl _ | (simp; done) | (simp; omega) | omega) _)))) (qH4.ext (by (repeat (first | exact Below.refl _ _ | assumption | refine Below.drewN ?_ _ | refine Below.drew ?_ | refine Below.setCell ?_ (by first | exact Nat.le_refl _ | (simp; done) | (simp; omega) | omega) _ | refine Below.alloc ?_ (by first | exact Nat.le_refl _ | (simp; done) | (simp; omega) | omega) _)))) R10 R7) rfl).mono ?_
    rintro e w10 ⟨gm, pm, lm, cm, rfl, nm, _, hx10⟩
    have ex10 : Ext w9 w10 := Ext.step (by (repeat (first | exact Below.refl _ _ | assumption | refine Below.drewN ?_ _ | refine Below.drew ?_ | refine Below.setCell ?_ (by first | exact Nat.le_refl _ | (simp; done) | (simp; omega) | omega) _ | refine Below.alloc ?_ (by first | exact Nat.le_refl _ | (simp; done) | (simp; omega) | omega) _))) hx10
    have vK := VB.new nk hx10
    replace vA := vA.ext ex10
    replace vB := vB.ext ex10
    replace vC := vC.ext ex10
    replace vG := vG.ext ex10
    replace vH := vH.ext ex10
    replace vI := vI.ext ex10
    replace vJ := vJ.ext ex10
    replace nk := nk.ext ex10
    replace EX := EX.trans (ex10.mono EX.size)
    clear hx10
    clear qC1 qC2 qC3 qC4
    clear qH1 qH2 qH3 qH4
    obtain ⟨qK1, qK2, qK3, qK4⟩ := id vK
    obtain ⟨qJ1, qJ2, qJ3, qJ4⟩ := id vJ
    go_wp2_with fail
    refine (same_yes _ _ _ _ _ _ _ _ _ _ _ (qK4.ext (by (repeat (first | exact Below.refl _ _ | assumption | refine Below.drewN ?_ _ | refine Below.drew ?_ | refine Below.setCell ?_ (by first | exact Nat.le_refl _ | (simp; done) | (simp; omega) | omega) _ | refine Below.alloc ?_ (by first | exact Nat.le_refl _ | (simp; done) | (simp; omega) | omega) _)))) (qJ4.ext (by (repeat (first | exact Below.refl _ _ | assumption | refine Below.drewN ?_ _ | refine Below.drew ?_ | refine Below.setCell ?_ (by first | exact Nat.le_refl _ | (simp; done) | (simp; omega) | omega) _ | refine Below.alloc ?_ (by first | exact Nat.le_refl _ | (simp; done) | (simp; omega) | omega) _)))) rfl).mono ?_
    rintro e w11 ⟨rfl, hx11⟩
    have ex11 : Ext w10 w11 := Ext.step (by (repeat (first | exact Below.refl _ _ | assumption | refine Below.drewN ?_ _ | refine Below.drew ?_ | refine Below.setCell ?_ (by first | exact Nat.le_refl _ | (simp; done) | (simp; omega) | omega) _ | refine Below.alloc ?_ (by first | exact Nat.le_refl _ | (simp; done) | (simp; omega) | omega) _))) hx11
    have vM := VB.new nm hx11
    replace vA := vA.ext ex11
    replace vB := vB.ext ex11
    replace vC := vC.ext ex11
    replace vG := vG.ext ex11
    replace vH := vH.ext ex11
    replace vI := vI.ext ex11
    replace vJ := vJ.ext ex11
    replace vK := vK.ext ex11
    replace nm := nm.ext ex11
    replace EX := EX.trans (ex11.mono EX.size)
    clear hx11
    clear qK1 qK2 qK3 qK4
    clear qJ1 qJ2 qJ3 qJ4
    obtain ⟨qM1, qM2, qM3, qM4⟩ := id vM
    obtain ⟨qC1, qC2, qC3, qC4⟩ := id vC
    go_wp2_with fail
    refine (same_yes _ _ _ _ _ _ _ _ _ _ _ (qM4.ext (by (repeat (first | exact Below.refl _ _ | assumption | refine Below.drewN ?_ _ | refine Below.drew ?_ | refine Below.setCell ?_ (by first | exact Nat.le_refl _ | (simp; done) | (simp; omega) | omega) _ | refine Below.alloc ?_ (by first | exact Nat.le_refl _ | (simp; done) | (simp; omega) | omega) _)))) (qC4.ext (by (repeat (first | exact Below.refl _ _ | assumption | refine Below.drewN ?_ _ | refine Below.drew ?_ | refine Below.setCell ?_ (by first | exact Nat.le_refl _ | (simp; done) | (simp; omega) | omega) _ | refine Below.alloc ?_ (by first | exact Nat.le_refl _ | (simp; done) | (simp; omega) | omega) _)))) rfl).mono ?_
    rintro e w12 ⟨rfl, hx12⟩
    have ex12 : Ext w11 w12 := Ext.step (by (repeat (first | exact Below.refl _ _ | assumption | refine Below.drewN ?_ _ | refine Below.drew ?_ | refine Below.setCell ?_ (by first | exact Nat.le_refl _ | (simp; done) | (simp; omega) | omega) _ | refine Below.alloc ?_ (by first | exact Nat.le_refl _ | (simp; done) | (simp; omega) | omega) _))) hx12
    replace vA := vA.ext ex12
    replace vB := vB.ext ex12
    replace vC := vC.ext ex12
    replace vG := vG.ext ex12
    replace vH := vH.ext ex12
    replace vI := vI.ext ex12
    replace vJ := vJ.ext ex12
    replace vK := vK.ext ex12
    replace vM := vM.ext ex12
    replace EX := EX.trans (ex12.mono EX.size)
    clear hx12
    clear qM1 qM2 qM3 qM4
    clear qC1 qC2 qC3 qC4
    go_wp2
    go_ret
    exact ⟨rfl, EX⟩
end Go.Proofs.YtdaaknfmodbjcaaDoor
