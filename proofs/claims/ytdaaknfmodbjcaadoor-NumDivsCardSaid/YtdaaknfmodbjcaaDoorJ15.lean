/- Plain: sums and products of numbers that are not too long. | Contract: etchantlaw01.sanity. -/
import Derived.Test.YtdaaknfmodbjcaaDoorJ14
set_option linter.unusedVariables false
set_option linter.unusedSimpArgs false

namespace Go.Proofs.YtdaaknfmodbjcaaDoor
open Go.RowKit

/-- 2^192: above every made number. -/
def M6 : Nat := 6277101735386680763835789423207666416102355444464034512896
theorem M6_eq : M6 = 4294967296 ^ 6 := by decide +kernel
theorem small_M {z : Int} (h : z.natAbs < 4 * (M6 * M6)) : small z = true := by
  unfold small
  rw [decide_eq_true_eq]
  exact Nat.lt_of_lt_of_le h (by decide +kernel)
theorem mk_z {X : Nm} {w : World} {n : Bool} {p : Option Addr} {l c : Nat} (h : NR w n p l c X) (hr : X.right = true) (hl : X.d.length ≤ 6) : ∃ x : Int, X = ofZ x ∧ x.natAbs < M6 := by
  have hd := h.2.2.dig
  refine ⟨X.z, (ofZ_of_right hd hr).symm, ?_⟩
  have e : X.z.natAbs = val X.d := by unfold Nm.z; split <;> omega
  rw [e, M6_eq]
  exact Nat.lt_of_lt_of_le (val_lt hd) (Nat.pow_le_pow_right (by omega) hl)
theorem ofZ_rt {x : Int} (h : small x = true) : (ofZ x).right = true := ofZ_right h
theorem addP_of {x y : Int} (hx : small x = true) (hy : small y = true) (hs : small (x + y) = true) : addP (ofZ x) (ofZ y) = (ofZ (x + y), true) := by
  unfold addP
  rw [ofZ_right hx, ofZ_right hy, ofZ_z, ofZ_z, fit_small hs]
  rfl
theorem subP_of {x y : Int} (hx : small x = true) (hy : small y = true) (hs : small (x - y) = true) : subP (ofZ x) (ofZ y) = (ofZ (x - y), true) := by
  unfold subP
  rw [ofZ_right hx, ofZ_right hy, ofZ_z, ofZ_z, fit_small hs]
  rfl
theorem mulP_of {x y : Int} (hx : small x = true) (hy : small y = true) (hs : small (x * y) = true) : mulP (ofZ x) (ofZ y) = (ofZ (x * y), true) := by
  unfold mulP
  rw [ofZ_right hx, ofZ_right hy, ofZ_z, ofZ_z, fit_small hs]
  rfl
theorem ring_ok {x y z : Int} (hx : x.natAbs < M6) (hy : y.natAbs < M6) (hz : z.natAbs < M6) :
    addP (ofZ x) (ofZ y) = (ofZ (x + y), true) ∧ addP (ofZ y) (ofZ x) = (ofZ (x + y), true) ∧ mulP (ofZ (x + y)) (ofZ z) = (ofZ ((x + y) * z), true) ∧ mulP (ofZ x) (ofZ z) = (ofZ (x * z), true) ∧ mulP (ofZ z) (ofZ y) = (ofZ (z * y), true) ∧
    addP (ofZ (x * z)) (ofZ (z * y)) = (ofZ ((x + y) * z), true) ∧ subP (ofZ (x + y)) (ofZ y) = (ofZ x, true) ∧ subP (ofZ ((x + y) * z)) (ofZ ((x + y) * z)) = (⟨false, []⟩, true) := by
  have hM : M6 ≤ M6 * M6 := by decide +kernel
  have h0 : 0 < M6 * M6 := by decide +kernel
  have h1 : (x * z).natAbs < M6 * M6 := by rw [Int.natAbs_mul]; exact Nat.mul_lt_mul'' hx hz
  have h2 : (z * y).natAbs < M6 * M6 := by rw [Int.natAbs_mul]; exact Nat.mul_lt_mul'' hz hy
  have e : (x + y) * z = x * z + z * y := by rw [Int.add_mul, Int.mul_comm y z]
  have sx : small x = true := small_M (by omega)
  have sy : small y = true := small_M (by omega)
  have sz : small z = true := small_M (by omega)
  have sxy : small (x + y) = true := small_M (by omega)
  have sxz : small (x * z) = true := small_M (by omega)
  have szy : small (z * y) = true := small_M (by omega)
  have sl : small ((x + y) * z) = true := small_M (by rw [e]; omega)
  refine ⟨addP_of sx sy sxy, by rw [Int.add_comm x y] at sxy ⊢; exact addP_of sy sx sxy, mulP_of sxy sz sl, mulP_of sx sz sxz, mulP_of sz sy szy, ?_, ?_, ?_⟩
  · rw [e] at sl ⊢; exact addP_of sxz szy sl
  · have := subP_of sxy sy (by rw [show x + y - y = x by omega]; exact sx)
    rwa [show x + y - y = x by omega] at this
  · have := subP_of sl sl (by rw [Int.sub_self]; exact small_M (by simp; omega))
    rwa [Int.sub_self, lit_0] at this
theorem VB.new3 {w w' : World} {n m u : Bool} {p q s : Option Addr} {l c k d i j : Nat} {X Y Z : Nm} {T U V : TypeId} (h : NR w n p l c X) (h2 : NR w m q k d Y) (h3 : NR w u s i j Z) (hx : Ext (((w.alloc (.cells #[.bool n, .slice p l c] T)).alloc (.cells #[.bool m, .slice q k d] U)).alloc (.cells #[.bool u, .slice s i j] V)) w') :
    VB w' w.heap.size n p l c X ∧ VB w' (w.heap.size + 1) m q k d Y ∧ VB w' (w.heap.size + 1 + 1) u s i j Z := by
  obtain ⟨h0, h1⟩ := VB.new2 (T := T) (U := U) h h2 (Below.refl _ _)
  have h4 := VB.new (T := V) ((h3.alloc (.cells #[.bool n, .slice p l c] T)).alloc (.cells #[.bool m, .slice q k d] U)) hx
  have e : ((w.alloc (.cells #[.bool n, .slice p l c] T)).alloc (.cells #[.bool m, .slice q k d] U)).heap.size = w.heap.size + 1 + 1 := by simp
  rw [e] at h4
  have hy : Ext ((w.alloc (.cells #[.bool n, .slice p l c] T)).alloc (.cells #[.bool m, .slice q k d] U)) w' := Below.trans ((Below.refl _ _).alloc (Nat.le_refl _) _) (hx.mono (by simp))
  exact ⟨h0.ext hy, h1.ext hy, h4⟩
/-- The same of two numbers. -/
theorem same_yes (a b : Nm) (na nb : Bool) (pa pb : Option Addr) (la ca lb cb : Nat) (w : World) (ha : NR w na pa la ca a) (hb : NR w nb pb lb cb b) (E : a = b) :
    Calls Tryd.prog 15 #[.agg #[.bool na, .slice pa la ca], .agg #[.bool nb, .slice pb lb cb]] w fun e w' => e = .returned (.bool true) ∧ Ext w w' := by
  refine (r01_Same a b na nb pa pb la ca lb cb w ha hb).mono ?_
  rintro e w' ⟨rfl, hx⟩
  rw [sameB_eq E]
  exact ⟨rfl, hx⟩
/-- A call that gives a number of known value. -/
theorem ret_num {P : Program} {f : Nat} {args : Array Value} {w : World} {r s : Nm × Bool} (h : Calls P f args w (RetNum w r)) (E : r = s) : Calls P f args w (RetNum w s) := E ▸ h
/-- A made number. -/
theorem made_z (p : Option Addr) (l c : Nat) (w : World) (hz : Ints w p l c) : Calls Tryd.prog 10 #[.slice p l c] w fun e w' =>
    ∃ (g : Bool) (q : Option Addr) (k d : Nat) (x : Int), e = .returned (.agg #[.bool g, .slice q k d]) ∧ NR w' g q k d (ofZ x) ∧ x.natAbs < M6 ∧ Ext w w' := by
  refine (r01_Made p l c w hz).mono ?_
  rintro e w' ⟨g, q, k, d, X, rfl, h1, h2, h3, h4⟩
  obtain ⟨x, rfl, hx⟩ := mk_z h1 h2 h3
  exact ⟨g, q, k, d, x, rfl, h1, hx, h4⟩
end Go.Proofs.YtdaaknfmodbjcaaDoor

namespace Go.Proofs.YtdaaknfmodbjcaaDoor
open Go.RowKit

theorem lit_str : (bytesT [45, 49, 56, 52, 52, 54, 55, 52, 52, 48, 55, 51, 55, 48, 57, 53, 53, 49, 54, 49, 54]).toList = [45, 49, 56, 52, 52, 54, 55, 52, 52, 48, 55, 51, 55, 48, 57, 53, 53, 49, 54, 49, 54] := by decide +kernel
set_option maxRecDepth 100000 in
set_option maxHeartbeats 16000000 in
theorem law_sanity1 (w : World) (ht : Tab w) : Calls Tryd.prog 9 #[] w fun e w' => e = .returned (.bool true) ∧ Ext w w' := by
  have TB := Lib.hid ht
  clear ht
  go_enter Tryd.func9, Tryd.ntmps9
  have EX : Ext w w := Below.refl _ _
  go_wp2_with fail
  refine ((lit_a ▸ num_Mul ⟨false, [4294967295]⟩ ⟨false, [4294967295]⟩ false false _ _ 1 1 1 1 _ ⟨rfl, rfl, (row_one w 4294967295 w.heap.size _ (by decide) rfl).ext (by (repeat (first | exact Below.refl _ _ | assumption | refine Below.drewN ?_ _ | refine Below.drew ?_ | refine Below.setCell ?_ (by first | exact Nat.le_refl _ | (simp; done) | (simp; omega) | omega) _ | refine Below.alloc ?_ (by first | exact Nat.le_refl _ | (simp; done) | (simp; omega) | omega) _)))⟩ ⟨rfl, rfl, (row_one w 4294967295 w.heap.size _ (by decide) rfl).ext (by (repeat (first | exact Below.refl _ _ | assumption | refine Below.drewN ?_ _ | refine Below.drew ?_ | refine Below.setCell ?_ (by first | exact Nat.le_refl _ | (simp; done) | (simp; omega) | omega) _ | refine Below.alloc ?_ (by first | exact Nat.le_refl _ | (simp; done) | (simp; omega) | omega) _)))⟩ : Calls _ _ _ _ (RetNum _ (⟨false, [1, 4294967294]⟩, true)))).mono ?_
  rintro e w1 ⟨ga, pa, la, ca, rfl, na, _, hx1⟩
  have ex1 : Ext w w1 := Ext.step (by (repeat (first | exact Below.refl _ _ | assumption | refine Below.drewN ?_ _ | refine Below.drew ?_ | refine Below.setCell ?_ (by first | exact Nat.le_refl _ | (simp; done) | (simp; omega) | omega) _ | refine Below.alloc ?_ (by first | exact Nat.le_refl _ | (simp; done) | (simp; omega) | omega) _))) hx1
  replace EX := EX.trans (ex1.mono EX.size)
  clear hx1
  go_wp2_with fail
  refine (of_lit (4294967296) _ _ (by decide) (by decide) lit_big).mono ?_
  rintro e w2 ⟨gb, pb, lb, cb, rfl, nb, _, hx2⟩
  have ex2 : Ext w1 w2 := Ext.step (by (repeat (first | exact Below.refl _ _ | assumption | refine Below.drewN ?_ _ | refine Below.drew ?_ | refine Below.setCell ?_ (by first | exact Nat.le_refl _ | (simp; done) | (simp; omega) | omega) _ | refine Below.alloc ?_ (by first | exact Nat.le_refl _ | (simp; done) | (simp; omega) | omega) _))) hx2
  have vA := VB.new na hx2
  replace EX := EX.trans (ex2.mono EX.size)
  clear hx2
  go_wp2_with fail
  refine (of_lit (1) _ _ (by decide) (by decide) lit_1).mono ?_
  rintro e w3 ⟨gc, pc, lc, cc, rfl, nc, _, hx3⟩
  have ex3 : Ext w2 w3 := Ext.step (by (repeat (first | exact Below.refl _ _ | assumption | refine Below.drewN ?_ _ | refine Below.drew ?_ | refine Below.setCell ?_ (by first | exact Nat.le_refl _ | (simp; done) | (simp; omega) | omega) _ | refine Below.alloc ?_ (by first | exact Nat.le_refl _ | (simp; done) | (simp; omega) | omega) _))) hx3
  replace vA := vA.ext ex3
  replace EX := EX.trans (ex3.mono EX.size)
  clear hx3
  replace nb := nb.ext ex3
  go_wp2_with fail
  refine ((lit_s ▸ num_Sub ⟨false, [0, 1]⟩ ⟨false, [1]⟩ _ _ _ _ _ _ _ _ _ (nb.ext (by (repeat (first | exact Below.refl _ _ | assumption | refine Below.drewN ?_ _ | refine Below.drew ?_ | refine Below.setCell ?_ (by first | exact Nat.le_refl _ | (simp; done) | (simp; omega) | omega) _ | refine Below.alloc ?_ (by first | exact Nat.le_refl _ | (simp; done) | (simp; omega) | omega) _)))) (nc.ext (by (repeat (first | exact Below.refl _ _ | assumption | refine Below.drewN ?_ _ | refine Below.drew ?_ | refine Below.setCell ?_ (by first | exact Nat.le_refl _ | (simp; done) | (simp; omega) | omega) _ | refine Below.alloc ?_ (by first | exact Nat.le_refl _ | (simp; done) | (simp; omega) | omega) _)))) : Calls _ _ _ _ (RetNum _ (⟨false, [4294967295]⟩, true)))).mono ?_
  rintro e w4 ⟨gd, pd, ld, cd, rfl, nd, _, hx4⟩
  have ex4 : Ext w3 w4 := Ext.step (by (repeat (first | exact Below.refl _ _ | assumption | refine Below.drewN ?_ _ | refine Below.drew ?_ | refine Below.setCell ?_ (by first | exact Nat.le_refl _ | (simp; done) | (simp; omega) | omega) _ | refine Below.alloc ?_ (by first | exact Nat.le_refl _ | (simp; done) | (simp; omega) | omega) _))) hx4
  replace vA := vA.ext ex4
  replace EX := EX.trans (ex4.mono EX.size)
  clear hx4
  go_wp2_with fail
  refine (of_lit (4294967296) _ _ (by decide) (by decide) lit_big).mono ?_
  rintro e w5 ⟨ge, pe, le, ce, rfl, ne, _, hx5⟩
  have ex5 : Ext w4 w5 := Ext.step (by (repeat (first | exact Below.refl _ _ | assumption | refine Below.drewN ?_ _ | refine Below.drew ?_ | refine Below.setCell ?_ (by first | exact Nat.le_refl _ | (simp; done) | (simp; omega) | omega) _ | refine Below.alloc ?_ (by first | exact Nat.le_refl _ | (simp; done) | (simp; omega) | omega) _))) hx5
  have vD := VB.new nd hx5
  replace vA := vA.ext ex5
  replace EX := EX.trans (ex5.mono EX.size)
  clear hx5
  go_wp2_with fail
  refine (is_yes ⟨false, [0, 1]⟩ _ false _ _ _ _ 2 2 [0, 1] _ (ne.ext (by (repeat (first | exact Below.refl _ _ | assumption | refine Below.drewN ?_ _ | refine Below.drew ?_ | refine Below.setCell ?_ (by first | exact Nat.le_refl _ | (simp; done) | (simp; omega) | omega) _ | refine Below.alloc ?_ (by first | exact Nat.le_refl _ | (simp; done) | (simp; omega) | omega) _)))) (row_pair _ 0 1 _ (by decide) (by decide)) rfl rfl).mono ?_
  rintro e w6 ⟨rfl, hx6⟩
  have ex6 : Ext w5 w6 := Ext.step (by (repeat (first | exact Below.refl _ _ | assumption | refine Below.drewN ?_ _ | refine Below.drew ?_ | refine Below.setCell ?_ (by first | exact Nat.le_refl _ | (simp; done) | (simp; omega) | omega) _ | refine Below.alloc ?_ (by first | exact Nat.le_refl _ | (simp; done) | (simp; omega) | omega) _))) hx6
  replace vA := vA.ext ex6
  replace vD := vD.ext ex6
  replace EX := EX.trans (ex6.mono EX.size)
  clear hx6
  go_wp2_with fail
  refine (of_lit (-1) _ _ (by decide) (by decide) lit_m1).mono ?_
  rintro e w7 ⟨gf, pf, lf, cf, rfl, nf, _, hx7⟩
  have ex7 : Ext w6 w7 := Ext.step (by (repeat (first | exact Below.refl _ _ | assumption | refine Below.drewN ?_ _ | refine Below.drew ?_ | refine Below.setCell ?_ (by first | exact Nat.le_refl _ | (simp; done) | (simp; omega) | omega) _ | refine Below.alloc ?_ (by first | exact Nat.le_refl _ | (simp; done) | (simp; omega) | omega) _))) hx7
  replace vA := vA.ext ex7
  replace vD := vD.ext ex7
  replace EX := EX.trans (ex7.mono EX.size)
  clear hx7
  go_wp2_with fail
  refine (is_yes ⟨true, [1]⟩ _ true _ _ _ _ 1 1 [1] _ (nf.ext (by (repeat (first | exact Below.refl _ _ | assumption | refine Below.drewN ?_ _ | refine Below.drew ?_ | refine Below.setCell ?_ (by first | exact Nat.le_refl _ | (simp; done) | (simp; omega) | omega) _ | refine Below.alloc ?_ (by first | exact Nat.le_refl _ | (simp; done) | (simp; omega) | omega) _)))) (row_one _ 1 _ _ (by decide) rfl) rfl rfl).mono ?_
  rintro e w8 ⟨rfl, hx8⟩
  have ex8 : Ext w7 w8 := Ext.step (by (repeat (first | exact Below.refl _ _ | assumption | refine Below.drewN ?_ _ | refine Below.drew ?_ | refine Below.setCell ?_ (by first | exact Nat.le_refl _ | (simp; done) | (simp; omega) | omega) _ | refine Below.alloc ?_ (by first | exact Nat.le_refl _ | (simp; done) | (simp; omega) | omega) _))) hx8
  replace vA := vA.ext ex8
  replace vD := vD.ext ex8
  replace EX := EX.trans (ex8.mono EX.size)
  clear hx8
  obtain ⟨qA1, qA2, qA3, qA4⟩ := vA
  go_wp2_with fail
  refine (is_yes ⟨false, [1, 4294967294]⟩ _ false _ _ _ _ 2 2 [1, 4294967294] _ (qA4.ext (by (repeat (first | exact Below.refl _ _ | assumption | refine Below.drewN ?_ _ | refine Below.drew ?_ | refine Below.setCell ?_ (by first | exact Nat.le_refl _ | (simp; done) | (simp; omega) | omega) _ | refine Below.alloc ?_ (by first | exact Nat.le_refl _ | (simp; done) | (simp; omega) | omega) _)))) (row_pair _ 1 4294967294 _ (by decide) (by decide)) rfl rfl).mono ?_
  rintro e w9 ⟨rfl, hx9⟩
  have ex9 : Ext w8 w9 := Ext.step (by (repeat (first | exact Below.refl _ _ | assumption | refine Below.drewN ?_ _ | refine Below.drew ?_ | refine Below.setCell ?_ (by first | exact Nat.le_refl _ | (simp; done) | (simp; omega) | omega) _ | refine Below.alloc ?_ (by first | exact Nat.le_refl _ | (simp; done) | (simp; omega) | omega) _))) hx9
  replace vD := vD.ext ex9
  replace EX := EX.trans (ex9.mono EX.size)
  clear hx9
  obtain ⟨qD1, qD2, qD3, qD4⟩ := vD
  go_wp2_with fail
  refine (is_yes ⟨false, [4294967295]⟩ _ false _ _ _ _ 1 1 [4294967295] _ (qD4.ext (by (repeat (first | exact Below.refl _ _ | assumption | refine Below.drewN ?_ _ | refine Below.drew ?_ | refine Below.setCell ?_ (by first | exact Nat.le_refl _ | (simp; done) | (simp; omega) | omega) _ | refine Below.alloc ?_ (by first | exact Nat.le_refl _ | (simp; done) | (simp; omega) | omega) _)))) (row_one _ 4294967295 _ _ (by decide) rfl) rfl rfl).mono ?_
  rintro e w10 ⟨rfl, hx10⟩
  have ex10 : Ext w9 w10 := Ext.step (by (repeat (first | exact Below.refl _ _ | assumption | refine Below.drewN ?_ _ | refine Below.drew ?_ | refine Below.setCell ?_ (by first | exact Nat.le_refl _ | (simp; done) | (simp; omega) | omega) _ | refine Below.alloc ?_ (by first | exact Nat.le_refl _ | (simp; done) | (simp; omega) | omega) _))) hx10
  replace EX := EX.trans (ex10.mono EX.size)
  clear hx10
  go_wp2_with fail
  refine (of_lit (-7) _ _ (by decide) (by decide) lit_m7).mono ?_
  rintro e w11 ⟨gh, ph, lh, ch, rfl, nh, _, hx11⟩
  have ex11 : Ext w10 w11 := Ext.step (by (repeat (first | exact Below.refl _ _ | assumption | refine Below.drewN ?_ _ | refine Below.drew ?_ | refine Below.setCell ?_ (by first | exact Nat.le_refl _ | (simp; done) | (simp; omega) | omega) _ | refine Below.alloc ?_ (by first | exact Nat.le_refl _ | (simp; done) | (simp; omega) | omega) _))) hx11
  replace EX := EX.trans (ex11.mono EX.size)
  clear hx11
  go_wp2_with fail
  refine (of_lit (2) _ _ (by decide) (by decide) lit_2).mono ?_
  rintro e w12 ⟨gi, pi, li, ci, rfl, ni, _, hx12⟩
  have ex12 : Ext w11 w12 := Ext.step (by (repeat (first | exact Below.refl _ _ | assumption | refine Below.drewN ?_ _ | refine Below.drew ?_ | refine Below.setCell ?_ (by first | exact Nat.le_refl _ | (simp; done) | (simp; omega) | omega) _ | refine Below.alloc ?_ (by first | exact Nat.le_refl _ | (simp; done) | (simp; omega) | omega) _))) hx12
  replace EX := EX.trans (ex12.mono EX.size)
  clear hx12
  replace nh := nh.ext ex12
  go_wp2_with fail
  refine (div_one ⟨true, [7]⟩ ⟨false, [2]⟩ (⟨true, [4]⟩, ⟨false, [1]⟩, true) _ _ _ _ _ _ _ _ _ (nh.ext (by (repeat (first | exact Below.refl _ _ | assumption | refine Below.drewN ?_ _ | refine Below.drew ?_ | refine Below.setCell ?_ (by first | exact Nat.le_refl _ | (simp; done) | (simp; omega) | omega) _ | refine Below.alloc ?_ (by first | exact Nat.le_refl _ | (simp; done) | (simp; omega) | omega) _)))) (ni.ext (by (repeat (first | exact Below.refl _ _ | assumption | refine Below.drewN ?_ _ | refine Below.drew ?_ | refine Below.setCell ?_ (by first | exact Nat.le_refl _ | (simp; done) | (simp; omega) | omega) _ | refine Below.alloc ?_ (by first | exact Nat.le_refl _ | (simp; done) | (simp; omega) | omega) _)))) (by decide) lit_d).mono ?_
  rintro e w13 ⟨gj, pj, lj, cj, gk, pk, lk, ck, rfl, nj, nk, _, _, hx13⟩
  have ex13 : Ext w12 w13 := Ext.step (by (repeat (first | exact Below.refl _ _ | assumption | refine Below.drewN ?_ _ | refine Below.drew ?_ | refine Below.setCell ?_ (by first | exact Nat.le_refl _ | (simp; done) | (simp; omega) | omega) _ | refine Below.alloc ?_ (by first | exact Nat.le_refl _ | (simp; done) | (simp; omega) | omega) _))) hx13
  replace EX := EX.trans (ex13.mono EX.size)
  clear hx13
  go_wp2_with fail
  refine (of_lit (7) _ _ (by decide) (by decide) lit_7).mono ?_
  rintro e w14 ⟨gm, pm, lm, cm, rfl, nm, _, hx14⟩
  have ex14 : Ext w13 w14 := Ext.step (by (repeat (first | exact Below.refl _ _ | assumption | refine Below.drewN ?_ _ | refine Below.drew ?_ | refine Below.setCell ?_ (by first | exact Nat.le_refl _ | (simp; done) | (simp; omega) | omega) _ | refine Below.alloc ?_ (by first | exact Nat.le_refl _ | (simp; done) | (simp; omega) | omega) _))) hx14
  obtain ⟨vJ, vK⟩ := VB.new2 nj nk hx14
  replace EX := EX.trans (ex14.mono EX.size)
  clear hx14
  go_wp2_with fail
  refine (of_lit (0) _ _ (by decide) (by decide) lit_0).mono ?_
  rintro e w15 ⟨go, po, lo, co, rfl, no, _, hx15⟩
  have ex15 : Ext w14 w15 := Ext.step (by (repeat (first | exact Below.refl _ _ | assumption | refine Below.drewN ?_ _ | refine Below.drew ?_ | refine Below.setCell ?_ (by first | exact Nat.le_refl _ | (simp; done) | (simp; omega) | omega) _ | refine Below.alloc ?_ (by first | exact Nat.le_refl _ | (simp; done) | (simp; omega) | omega) _))) hx15
  replace vJ := vJ.ext ex15
  replace vK := vK.ext ex15
  replace EX := EX.trans (ex15.mono EX.size)
  clear hx15
  replace nm := nm.ext ex15
  go_wp2_with fail
  refine (div_one ⟨false, [7]⟩ ⟨false, []⟩ (zero, zero, false) _ _ _ _ _ _ _ _ _ (nm.ext (by (repeat (first | exact Below.refl _ _ | assumption | refine Below.drewN ?_ _ | refine Below.drew ?_ | refine Below.setCell ?_ (by first | exact Nat.le_refl _ | (simp; done) | (simp; omega) | omega) _ | refine Below.alloc ?_ (by first | exact Nat.le_refl _ | (simp; done) | (simp; omega) | omega) _)))) (no.ext (by (repeat (first | exact Below.refl _ _ | assumption | refine Below.drewN ?_ _ | refine Below.drew ?_ | refine Below.setCell ?_ (by first | exact Nat.le_refl _ | (simp; done) | (simp; omega) | omega) _ | refine Below.alloc ?_ (by first | exact Nat.le_refl _ | (simp; done) | (simp; omega) | omega) _)))) (by decide) lit_n).mono ?_
  rintro e w16 ⟨gq, pq, lq, cq, gr, pr, lr, cr, rfl, nq, nr, _, _, hx16⟩
  have ex16 : Ext w15 w16 := Ext.step (by (repeat (first | exact Below.refl _ _ | assumption | refine Below.drewN ?_ _ | refine Below.drew ?_ | refine Below.setCell ?_ (by first | exact Nat.le_refl _ | (simp; done) | (simp; omega) | omega) _ | refine Below.alloc ?_ (by first | exact Nat.le_refl _ | (simp; done) | (simp; omega) | omega) _))) hx16
  replace vJ := vJ.ext ex16
  replace vK := vK.ext ex16
  replace EX := EX.trans (ex16.mono EX.size)
  clear hx16
  go_wp2_with fail
  refine (of_lit (-12) _ _ (by decide) (by decide) lit_m12).mono ?_
  rintro e w17 ⟨gs, ps, ls, cs, rfl, ns, _, hx17⟩
  have ex17 : Ext w16 w17 := Ext.step (by (repeat (first | exact Below.refl _ _ | assumption | refine Below.drewN ?_ _ | refine Below.drew ?_ | refine Below.setCell ?_ (by first | exact Nat.le_refl _ | (simp; done) | (simp; omega) | omega) _ | refine Below.alloc ?_ (by first | exact Nat.le_refl _ | (simp; done) | (simp; omega) | omega) _))) hx17
  replace vJ := vJ.ext ex17
  replace vK := vK.ext ex17
  replace EX := EX.trans (ex17.mono EX.size)
  clear hx17
  go_wp2_with fail
  refine (of_lit (18) _ _ (by decide) (by decide) lit_18).mono ?_
  rintro e w18 ⟨gt, pt, lt, ct, rfl, nt, _, hx18⟩
  have ex18 : Ext w17 w18 := Ext.step (by (repeat (first | exact Below.refl _ _ | assumption | refine Below.drewN ?_ _ | refine Below.drew ?_ | refine Below.setCell ?_ (by first | exact Nat.le_refl _ | (simp; done) | (simp; omega) | omega) _ | refine Below.alloc ?_ (by first | exact Nat.le_refl _ | (simp; done) | (simp; omega) | omega) _))) hx18
  replace vJ := vJ.ext ex18
  replace vK := vK.ext ex18
  replace EX := EX.trans (ex18.mono EX.size)
  clear hx18
  replace ns := ns.ext ex18
  go_wp2_with fail
  refine (gcd_one ⟨true, [12]⟩ ⟨false, [18]⟩ (⟨false, [6]⟩, true) _ _ _ _ _ _ _ _ _ (ns.ext (by (repeat (first | exact Below.refl _ _ | assumption | refine Below.drewN ?_ _ | refine Below.drew ?_ | refine Below.setCell ?_ (by first | exact Nat.le_refl _ | (simp; done) | (simp; omega) | omega) _ | refine Below.alloc ?_ (by first | exact Nat.le_refl _ | (simp; done) | (simp; omega) | omega) _)))) (nt.ext (by (repeat (first | exact Below.refl _ _ | assumption | refine Below.drewN ?_ _ | refine Below.drew ?_ | refine Below.setCell ?_ (by first | exact Nat.le_refl _ | (simp; done) | (simp; omega) | omega) _ | refine Below.alloc ?_ (by first | exact Nat.le_refl _ | (simp; done) | (simp; omega) | omega) _)))) (by decide) lit_g).mono ?_
  rintro e w19 ⟨gu, pu, lu, cu, rfl, nu, _, hx19⟩
  have ex19 : Ext w18 w19 := Ext.step (by (repeat (first | exact Below.refl _ _ | assumption | refine Below.drewN ?_ _ | refine Below.drew ?_ | refine Below.setCell ?_ (by first | exact Nat.le_refl _ | (simp; done) | (simp; omega) | omega) _ | refine Below.alloc ?_ (by first | exact Nat.le_refl _ | (simp; done) | (simp; omega) | omega) _))) hx19
  replace vJ := vJ.ext ex19
  replace vK := vK.ext ex19
  replace EX := EX.trans (ex19.mono EX.size)
  clear hx19
  go_wp2_with fail
  refine (of_lit (0) _ _ (by decide) (by decide) lit_0).mono ?_
  rintro e w20 ⟨gx, px, lx, cx, rfl, nx, _, hx20⟩
  have ex20 : Ext w19 w20 := Ext.step (by (repeat (first | exact Below.refl _ _ | assumption | refine Below.drewN ?_ _ | refine Below.drew ?_ | refine Below.setCell ?_ (by first | exact Nat.le_refl _ | (simp; done) | (simp; omega) | omega) _ | refine Below.alloc ?_ (by first | exact Nat.le_refl _ | (simp; done) | (simp; omega) | omega) _))) hx20
  have vU := VB.new nu hx20
  replace vJ := vJ.ext ex20
  replace vK := vK.ext ex20
  replace EX := EX.trans (ex20.mono EX.size)
  clear hx20
  go_wp2_with fail
  refine (of_lit (0) _ _ (by decide) (by decide) lit_0).mono ?_
  rintro e w21 ⟨gy, py, ly, cy, rfl, ny, _, hx21⟩
  have ex21 : Ext w20 w21 := Ext.step (by (repeat (first | exact Below.refl _ _ | assumption | refine Below.drewN ?_ _ | refine Below.drew ?_ | refine Below.setCell ?_ (by first | exact Nat.le_refl _ | (simp; done) | (simp; omega) | omega) _ | refine Below.alloc ?_ (by first | exact Nat.le_refl _ | (simp; done) | (simp; omega) | omega) _))) hx21
  replace vJ := vJ.ext ex21
  replace vK := vK.ext ex21
  replace vU := vU.ext ex21
  replace EX := EX.trans (ex21.mono EX.size)
  clear hx21
  replace nx := nx.ext ex21
  go_wp2_with fail
  refine (gcd_one ⟨false, []⟩ ⟨false, []⟩ (⟨false, []⟩, true) _ _ _ _ _ _ _ _ _ (nx.ext (by (repeat (first | exact Below.refl _ _ | assumption | refine Below.drewN ?_ _ | refine Below.drew ?_ | refine Below.setCell ?_ (by first | exact Nat.le_refl _ | (simp; done) | (simp; omega) | omega) _ | refine Below.alloc ?_ (by first | exact Nat.le_refl _ | (simp; done) | (simp; omega) | omega) _)))) (ny.ext (by (repeat (first | exact Below.refl _ _ | assumption | refine Below.drewN ?_ _ | refine Below.drew ?_ | refine Below.setCell ?_ (by first | exact Nat.le_refl _ | (simp; done) | (simp; omega) | omega) _ | refine Below.alloc ?_ (by first | exact Nat.le_refl _ | (simp; done) | (simp; omega) | omega) _)))) (by decide) lit_h).mono ?_
  rintro e w22 ⟨gz, pz, lz, cz, rfl, nz, _, hx22⟩
  have ex22 : Ext w21 w22 := Ext.step (by (repeat (first | exact Below.refl _ _ | assumption | refine Below.drewN ?_ _ | refine Below.drew ?_ | refine Below.setCell ?_ (by first | exact Nat.le_refl _ | (simp; done) | (simp; omega) | omega) _ | refine Below.alloc ?_ (by first | exact Nat.le_refl _ | (simp; done) | (simp; omega) | omega) _))) hx22
  replace vJ := vJ.ext ex22
  replace vK := vK.ext ex22
  replace vU := vU.ext ex22
  replace EX := EX.trans (ex22.mono EX.size)
  clear hx22
  obtain ⟨qJ1, qJ2, qJ3, qJ4⟩ := vJ
  go_wp2_with fail
  refine (is_yes ⟨true, [4]⟩ _ true _ _ _ _ 1 1 [4] _ (qJ4.ext (by (repeat (first | exact Below.refl _ _ | assumption | refine Below.drewN ?_ _ | refine Below.drew ?_ | refine Below.setCell ?_ (by first | exact Nat.le_refl _ | (simp; done) | (simp; omega) | omega) _ | refine Below.alloc ?_ (by first | exact Nat.le_refl _ | (simp; done) | (simp; omega) | omega) _)))) (row_one _ 4 _ _ (by decide) (by simp)) rfl rfl).mono ?_
  rintro e w23 ⟨rfl, hx23⟩
  have ex23 : Ext w22 w23 := Ext.step (by (repeat (first | exact Below.refl _ _ | assumption | refine Below.drewN ?_ _ | refine Below.drew ?_ | refine Below.setCell ?_ (by first | exact Nat.le_refl _ | (simp; done) | (simp; omega) | omega) _ | refine Below.alloc ?_ (by first | exact Nat.le_refl _ | (simp; done) | (simp; omega) | omega) _))) hx23
  have vZ := VB.new (T := 26) nz (Ext.step (by (repeat (first | exact Below.refl _ _ | assumption | refine Below.drewN ?_ _ | refine Below.drew ?_ | refine Below.setCell ?_ (by first | exact Nat.le_refl _ | (simp; done) | (simp; omega) | omega) _ | refine Below.alloc ?_ (by first | exact Nat.le_refl _ | (simp; done) | (simp; omega) | omega) _))) hx23)
  replace vK := vK.ext ex23
  replace vU := vU.ext ex23
  replace EX := EX.trans (ex23.mono EX.size)
  clear hx23
  obtain ⟨qK1, qK2, qK3, qK4⟩ := vK
  go_wp2_with fail
  refine (is_yes ⟨false, [1]⟩ _ false _ _ _ _ 1 1 [1] _ (qK4.ext (by (repeat (first | exact Below.refl _ _ | assumption | refine Below.drewN ?_ _ | refine Below.drew ?_ | refine Below.setCell ?_ (by first | exact Nat.le_refl _ | (simp; done) | (simp; omega) | omega) _ | refine Below.alloc ?_ (by first | exact Nat.le_refl _ | (simp; done) | (simp; omega) | omega) _)))) (row_one _ 1 _ _ (by decide) rfl) rfl rfl).mono ?_
  rintro e w24 ⟨rfl, hx24⟩
  have ex24 : Ext w23 w24 := Ext.step (by (repeat (first | exact Below.refl _ _ | assumption | refine Below.drewN ?_ _ | refine Below.drew ?_ | refine Below.setCell ?_ (by first | exact Nat.le_refl _ | (simp; done) | (simp; omega) | omega) _ | refine Below.alloc ?_ (by first | exact Nat.le_refl _ | (simp; done) | (simp; omega) | omega) _))) hx24
  replace vU := vU.ext ex24
  replace vZ := vZ.ext ex24
  replace EX := EX.trans (ex24.mono EX.size)
  clear hx24
  obtain ⟨qU1, qU2, qU3, qU4⟩ := vU
  go_wp2_with fail
  refine (is_yes ⟨false, [6]⟩ _ false _ _ _ _ 1 1 [6] _ (qU4.ext (by (repeat (first | exact Below.refl _ _ | assumption | refine Below.drewN ?_ _ | refine Below.drew ?_ | refine Below.setCell ?_ (by first | exact Nat.le_refl _ | (simp; done) | (simp; omega) | omega) _ | refine Below.alloc ?_ (by first | exact Nat.le_refl _ | (simp; done) | (simp; omega) | omega) _)))) (row_one _ 6 _ _ (by decide) rfl) rfl rfl).mono ?_
  rintro e w25 ⟨rfl, hx25⟩
  have ex25 : Ext w24 w25 := Ext.step (by (repeat (first | exact Below.refl _ _ | assumption | refine Below.drewN ?_ _ | refine Below.drew ?_ | refine Below.setCell ?_ (by first | exact Nat.le_refl _ | (simp; done) | (simp; omega) | omega) _ | refine Below.alloc ?_ (by first | exact Nat.le_refl _ | (simp; done) | (simp; omega) | omega) _))) hx25
  replace vZ := vZ.ext ex25
  replace EX := EX.trans (ex25.mono EX.size)
  clear hx25
  obtain ⟨qZ1, qZ2, qZ3, qZ4⟩ := vZ
  go_wp2_with fail
  refine (is_yes ⟨false, []⟩ _ false _ none _ _ 0 0 [] _ (qZ4.ext (by (repeat (first | exact Below.refl _ _ | assumption | refine Below.drewN ?_ _ | refine Below.drew ?_ | refine Below.setCell ?_ (by first | exact Nat.le_refl _ | (simp; done) | (simp; omega) | omega) _ | refine Below.alloc ?_ (by first | exact Nat.le_refl _ | (simp; done) | (simp; omega) | omega) _)))) (Row.nil _) rfl rfl).mono ?_
  rintro e w26 ⟨rfl, hx26⟩
  have ex26 : Ext w25 w26 := Ext.step (by (repeat (first | exact Below.refl _ _ | assumption | refine Below.drewN ?_ _ | refine Below.drew ?_ | refine Below.setCell ?_ (by first | exact Nat.le_refl _ | (simp; done) | (simp; omega) | omega) _ | refine Below.alloc ?_ (by first | exact Nat.le_refl _ | (simp; done) | (simp; omega) | omega) _))) hx26
  replace EX := EX.trans (ex26.mono EX.size)
  clear hx26
  go_wp2_with fail
  refine (int_lit ⟨false, [0, 2147483648]⟩ (0, false) false _ 2 2 _ ⟨rfl, rfl, row_pair _ 0 2147483648 _ (by decide) (by decide)⟩ lit_i).mono ?_
  rintro e w27 ⟨rfl, hx27⟩
  have ex27 : Ext w26 w27 := Ext.step (by (repeat (first | exact Below.refl _ _ | assumption | refine Below.drewN ?_ _ | refine Below.drew ?_ | refine Below.setCell ?_ (by first | exact Nat.le_refl _ | (simp; done) | (simp; omega) | omega) _ | refine Below.alloc ?_ (by first | exact Nat.le_refl _ | (simp; done) | (simp; omega) | omega) _))) hx27
  replace EX := EX.trans (ex27.mono EX.size)
  clear hx27
  go_wp2_with fail
  refine (int_lit ⟨true, [0, 2147483648]⟩ (-9223372036854775808, true) true _ 2 2 _ ⟨rfl, rfl, row_pair _ 0 2147483648 _ (by decide) (by decide)⟩ lit_k).mono ?_
  rintro e w28 ⟨rfl, hx28⟩
  have ex28 : Ext w27 w28 := Ext.step (by (repeat (first | exact Below.refl _ _ | assumption | refine Below.drewN ?_ _ | refine Below.drew ?_ | refine Below.setCell ?_ (by first | exact Nat.le_refl _ | (simp; done) | (simp; omega) | omega) _ | refine Below.alloc ?_ (by first | exact Nat.le_refl _ | (simp; done) | (simp; omega) | omega) _))) hx28
  replace EX := EX.trans (ex28.mono EX.size)
  clear hx28
  go_wp2_with fail
  refine (num_Text ⟨true, [0, 0, 1]⟩ true _ 3 3 _ ⟨rfl, rfl, row_three _ 0 0 1 _ (by decide) (by decide) (by decide)⟩ (TB.out.ext (by first | exact EX.alloc EX.size _ | (repeat (first | exact Below.refl _ _ | assumption | refine Below.drewN ?_ _ | refine Below.drew ?_ | refine Below.setCell ?_ (by first | exact Nat.le_refl _ | (simp; done) | (simp; omega) | omega) _ | refine Below.alloc ?_ (by first | exact Nat.le_refl _ | (simp; done) | (simp; omega) | omega) _))))).mono ?_
  rintro e w29 ⟨rfl, hx29⟩
  have ex29 : Ext w28 w29 := Ext.step (by (repeat (first | exact Below.refl _ _ | assumption | refine Below.drewN ?_ _ | refine Below.drew ?_ | refine Below.setCell ?_ (by first | exact Nat.le_refl _ | (simp; done) | (simp; omega) | omega) _ | refine Below.alloc ?_ (by first | exact Nat.le_refl _ | (simp; done) | (simp; omega) | omega) _))) hx29
  replace EX := EX.trans (ex29.mono EX.size)
  clear hx29
  rw [lit_t]
  obtain ⟨str, S⟩ : ∃ s, Hid (bytesT [45, 49, 56, 52, 52, 54, 55, 52, 52, 48, 55, 51, 55, 48, 57, 53, 53, 49, 54, 49, 54] = s) := ⟨_, rfl⟩
  have hstr : str.toList = [45, 49, 56, 52, 52, 54, 55, 52, 52, 48, 55, 51, 55, 48, 57, 53, 53, 49, 54, 49, 54] := by rw [← S.out]; exact lit_str
  rw [S.out]
  go_wp2
  go_ret
  exact ⟨rfl, EX⟩
end Go.Proofs.YtdaaknfmodbjcaaDoor
