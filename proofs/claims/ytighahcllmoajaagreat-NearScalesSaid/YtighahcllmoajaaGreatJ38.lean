/- The law NearScales, by the kernel's walker. -/
import Derived.Test.YtighahcllmoajaaGreatJ34
import Derived.Test.YtighahcllmoajaaGreatJ32
import Derived.Test.YtighahcllmoajaaGreatJ33
set_option linter.unusedVariables false
set_option linter.unusedSimpArgs false

set_option maxRecDepth 1000000
namespace Go.Proofs.YtighahcllmoajaaGreat
open Go.RowKit
theorem Fok.b {f : FuncId} {args : List V1} {a b : Bool} (h : a = b) (H : Fok Tryz.prog f args (.one (blV a))) : Fok Tryz.prog f args (.one (blV b)) := h ▸ H
theorem right_Q {r : Rt} {x : Q4} (e : r = x.rt) (h : x.ok) : r.right = true := by rw [e]; exact h.root.2.2
theorem cmp_T {r s : Rt} {x y : Q4} {t n : Int} (ht : 0 < t) (e : r = x.rt) (f : s = y.rt) (hs : simQ y (scQ t x)) (hx : x.ok) (hy : y.ok) : (cmpRt r ⟨n, 0, zero, ofZ 1⟩ == cmpRt s ⟨n * t, 0, zero, ofZ 1⟩) = true := by
 rw [e, f, sim_int ht hs hx hy n]
 simp
def KSc : List Con := [cSan, dMade7, cMeet, cEdges, cPoint, cRight, cCmpInt]
abbrev u8V (z : Int) : It := .v (.int .u8 z)
theorem nearScales_ok (L M : List Int) (z0 z1 : Int) (h0 : 0 <= z0 /\ z0 <= 255) (h1 : 0 <= z1 /\ z1 <= 255) : Fok Tryz.prog 6 [⟨false, [.ds L]⟩, ⟨false, [.ds M]⟩, ⟨true, [u8V z0, u8V z1]⟩] (.one (blV true)) := by
 have p50 : (50 : Int) ≠ 0 := by decide
 have p60 : (60 : Int) ≠ 0 := by decide
 obtain ⟨t, ht⟩ : ∃ t, 1 + z0.tmod 50 = t := ⟨_, rfl⟩
 have hb : 1 <= t /\ t <= 50 := by
  have h2 : z0.tmod 50 = z0 % 50 := Int.tmod_eq_emod_of_nonneg h0.1
  omega
 have oa := madeE_ok L 1 (by omega)
 have ob := madeE_ok M 1 (by omega)
 have oc := madeE_ok L t (by omega)
 have od := madeE_ok M t (by omega)
 have ec := madeE_sc L t
 have ed := madeE_sc M t
 have t0 : 0 < t := by omega
 have hC : countE (madeE L t) (madeE M t) = countE (madeE L 1) (madeE M 1) := by
  rw [ec] at oc ⊢
  rw [ed] at od ⊢
  exact countE_sc t0 oa ob oc od
 cases hc : (!(countE (madeE L 1) (madeE M 1) == 0)) with
 | true =>
  have e : (!(countE (madeE L t) (madeE M t) == 0)) = true := by rw [hC]; exact hc
  rw [<- ht] at e
  exact Fok.b e (fok KSc [true] [pP h0, pP p50, pP h1, pP p60, pT hc] (by kernel_rfl))
 | false =>
  have c0 : countE (madeE L 1) (madeE M 1) = 0 := by simpa using hc
  have E1 := edgesR_Q oa ob c0
  have E2 := edgesR_Q oc od (hC.trans c0)
  have k1 := (leastQ_le' (candQ_ne _ _) (candQ_ok oa ob))
  have k2 := (leastQ_le' (candQ_ne _ _) (candQ_ok oc od))
  have cb := ok_right ob
  have cd := ok_right od
  have P1 := pointR_Q oa (coordB_iff.2 cb.2.1)
  have P2 := pointR_Q oc (coordB_iff.2 cd.2.1)
  have j1 := pointQ_ok oa cb.2.1.1 cb.2.1.2
  have j2 := pointQ_ok oc cd.2.1.1 cd.2.1.2
  have S1 : simQ (leastQ (candQ (madeE L t) (madeE M t))) (scQ t (leastQ (candQ (madeE L 1) (madeE M 1)))) := by
   rw [ec] at oc ⊢
   rw [ed] at od ⊢
   exact least_sc t0 oa ob oc od
  have S2 : simQ (pointQ (madeE L t) (madeE M t).bx (madeE M t).by') (scQ t (pointQ (madeE L 1) (madeE M 1).bx (madeE M 1).by')) := by
   rw [ec] at oc ⊢
   rw [ed]
   exact pointQ_sc t0 oa oc _ _
  have r1 := right_Q E1 k1
  have r2 := right_Q E2 k2
  have r3 := right_Q P1 j1
  have r4 := right_Q P2 j2
  have q1 := cmp_T (n := z1.tmod 60) t0 E1 E2 S1 k1 k2
  have q2 := cmp_T (n := z1.tmod 60) t0 P1 P2 S2 j1 j2
  rw [<- ht] at r2 r4 q1 q2
  exact Fok.b q2 (fok KSc [false, true, true, true, true, true] [pP h0, pP p50, pP h1, pP p60, pF hc, pT r1, pT r2, pT r3, pT r4, pT q1] (by kernel_rfl))
end Go.Proofs.YtighahcllmoajaaGreat
