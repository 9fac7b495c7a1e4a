/- Contracts: etchantref02: zero, times, plus, minus, side, Sign. -/
import Derived.Test.YtighahcllmoajaaGreatJ19
import Derived.Test.YtighahcllmoajaaGreatJ27
import Derived.Deep.DeepCutAuto
set_option linter.unusedVariables false
set_option linter.unusedSimpArgs false

namespace Go.Proofs.YtighahcllmoajaaGreat
open Go.RowKit
attribute [local go_sem] Gives givesU

/-- The sign of a + b √c, as the reference finds it. -/
def sideR (a b c : Int) : Int := if sgn c = 0 ∨ sgn b = 0 then sgn a else if sgn a = 0 ∨ sgn a = sgn b then sgn b else sgn a * cmpZ (a * a) (b * b * c)
theorem sgn_nonneg {c : Int} (h : 0 ≤ c) : sgn c = 0 ∨ sgn c = 1 := by
  unfold sgn cmpZ
  rw [if_neg (by omega)]
  split
  · exact .inl rfl
  · exact .inr rfl
theorem side_eq (a b c : Int) (h : 0 ≤ c) : sideR a b c = sideZ a b c := by
  unfold sideR sideZ
  have ha := sgn_bd a
  have hb := sgn_bd b
  have hc := sgn_nonneg h
  generalize sgn a * cmpZ (a * a) (b * b * c) = r
  generalize sgn a = x at *
  generalize sgn b = y at *
  generalize sgn c = z at *
  obtain rfl | rfl | rfl : x = -1 ∨ x = 0 ∨ x = 1 := by omega
  all_goals obtain rfl | rfl | rfl : y = -1 ∨ y = 0 ∨ y = 1 := by omega
  all_goals rcases hc with rfl | rfl
  all_goals (simp <;> omega)
set_option maxRecDepth 100000 in
set_option maxHeartbeats 1000000 in
theorem r02_zero (w : World) : Calls Tryz.prog 121 #[] w (RetN w zero) := by
  have e0 : Hid (ofZ 0 = zero) := by show ofZ 0 = zero; unfold ofZ zero; simp [digs_zero]
  go_enter Tryz.func121, Tryz.ntmps121
  go_wp2_with fail
  refine (r01_Of 0 _ (by omega) (by omega)).mono ?_
  rintro e w1 ⟨n1, p1, l1, c1, rfl, hnr, hnew, hx⟩
  rw [e0.out] at hnr
  have hx0 : Ext w w1 := Ext.step bxx hx
  have hz_w1 : w.heap.size + 1 ≤ w1.heap.size := Nat.le_trans omm hx.size
  obtain ⟨hl_w1_0, hk_w1_0, hf_w1_0⟩ := extK hx (w.heap.size)
  go_wp2_with fail
  refine bodyPost_ret (v := .agg #[.bool n1, .slice p1 l1 c1]) (by simp [results, Tryz.results121, go_sem, *]) rfl ?_
  exact ⟨n1, p1, l1, c1, rfl, (by repeat (first | assumption | refine NR.set ?_ (by assumption) _ (by first | (simp; done) | (simp; omega) | omega) _ | refine NR.alloc ?_ _)), hnew.mono (by simp), bxx⟩
set_option maxRecDepth 100000 in
set_option maxHeartbeats 1000000 in
theorem r02_times (a b : Nm) (na nb : Bool) (pa pb : Option Addr) (la ca lb cb : Nat) (w : World) (ha : NR w na pa la ca a) (hb : NR w nb pb lb cb b) :
    Calls Tryz.prog 100 #[.agg #[.bool na, .slice pa la ca], .agg #[.bool nb, .slice pb lb cb]] w (RetN w (mulP a b).1) := by
  go_enter Tryz.func100, Tryz.ntmps100
  go_wp2_with fail
  refine (r01_Mul a b _ _ _ _ _ _ _ _ _ (ha.ext bxx) (hb.ext bxx)).mono ?_
  rintro e w1 ⟨n1, p1, l1, c1, rfl, hnr, hnew, hx⟩
  have hx0 : Ext w w1 := Ext.step bxx hx
  have hz_w1 : w.heap.size + 3 ≤ w1.heap.size := Nat.le_trans omm hx.size
  obtain ⟨hl_w1_0, hk_w1_0, hf_w1_0⟩ := extK hx (w.heap.size)
  obtain ⟨hl_w1_1, hk_w1_1, hf_w1_1⟩ := extK hx (w.heap.size + 1)
  obtain ⟨hl_w1_2, hk_w1_2, hf_w1_2⟩ := extK hx (w.heap.size + 2)
  go_wp2_with fail
  refine bodyPost_ret (v := .agg #[.bool n1, .slice p1 l1 c1]) (by simp [results, Tryz.results100, go_sem, *]) rfl ?_
  exact ⟨n1, p1, l1, c1, rfl, (by repeat (first | assumption | refine NR.set ?_ (by assumption) _ (by first | (simp; done) | (simp; omega) | omega) _ | refine NR.alloc ?_ _)), hnew.mono (by simp; omega), bxx⟩
set_option maxRecDepth 100000 in
set_option maxHeartbeats 1000000 in
theorem r02_plus (a b : Nm) (na nb : Bool) (pa pb : Option Addr) (la ca lb cb : Nat) (w : World) (ha : NR w na pa la ca a) (hb : NR w nb pb lb cb b) :
    Calls Tryz.prog 102 #[.agg #[.bool na, .slice pa la ca], .agg #[.bool nb, .slice pb lb cb]] w (RetN w (addP a b).1) := by
  go_enter Tryz.func102, Tryz.ntmps102
  go_wp2_with fail
  refine (r01_Add a b _ _ _ _ _ _ _ _ _ (ha.ext bxx) (hb.ext bxx)).mono ?_
  rintro e w1 ⟨n1, p1, l1, c1, rfl, hnr, hnew, hx⟩
  have hx0 : Ext w w1 := Ext.step bxx hx
  have hz_w1 : w.heap.size + 3 ≤ w1.heap.size := Nat.le_trans omm hx.size
  obtain ⟨hl_w1_0, hk_w1_0, hf_w1_0⟩ := extK hx (w.heap.size)
  obtain ⟨hl_w1_1, hk_w1_1, hf_w1_1⟩ := extK hx (w.heap.size + 1)
  obtain ⟨hl_w1_2, hk_w1_2, hf_w1_2⟩ := extK hx (w.heap.size + 2)
  go_wp2_with fail
  refine bodyPost_ret (v := .agg #[.bool n1, .slice p1 l1 c1]) (by simp [results, Tryz.results102, go_sem, *]) rfl ?_
  exact ⟨n1, p1, l1, c1, rfl, (by repeat (first | assumption | refine NR.set ?_ (by assumption) _ (by first | (simp; done) | (simp; omega) | omega) _ | refine NR.alloc ?_ _)), hnew.mono (by simp; omega), bxx⟩
set_option maxRecDepth 100000 in
set_option maxHeartbeats 1000000 in
theorem r02_minus (a b : Nm) (na nb : Bool) (pa pb : Option Addr) (la ca lb cb : Nat) (w : World) (ha : NR w na pa la ca a) (hb : NR w nb pb lb cb b) :
    Calls Tryz.prog 99 #[.agg #[.bool na, .slice pa la ca], .agg #[.bool nb, .slice pb lb cb]] w (RetN w (subP a b).1) := by
  go_enter Tryz.func99, Tryz.ntmps99
  go_wp2_with fail
  refine (r01_Sub a b _ _ _ _ _ _ _ _ _ (ha.ext bxx) (hb.ext bxx)).mono ?_
  rintro e w1 ⟨n1, p1, l1, c1, rfl, hnr, hnew, hx⟩
  have hx0 : Ext w w1 := Ext.step bxx hx
  have hz_w1 : w.heap.size + 3 ≤ w1.heap.size := Nat.le_trans omm hx.size
  obtain ⟨hl_w1_0, hk_w1_0, hf_w1_0⟩ := extK hx (w.heap.size)
  obtain ⟨hl_w1_1, hk_w1_1, hf_w1_1⟩ := extK hx (w.heap.size + 1)
  obtain ⟨hl_w1_2, hk_w1_2, hf_w1_2⟩ := extK hx (w.heap.size + 2)
  go_wp2_with fail
  refine bodyPost_ret (v := .agg #[.bool n1, .slice p1 l1 c1]) (by simp [results, Tryz.results99, go_sem, *]) rfl ?_
  exact ⟨n1, p1, l1, c1, rfl, (by repeat (first | assumption | refine NR.set ?_ (by assumption) _ (by first | (simp; done) | (simp; omega) | omega) _ | refine NR.alloc ?_ _)), hnew.mono (by simp; omega), bxx⟩
/-- A variable that holds a number. -/
def VB2 (W : World) (B : Nat) (n : Bool) (p : Option Addr) (l c : Nat) (X : Nm) : Prop := B < W.heap.size ∧ W.cell? ⟨B, 0, none⟩ = some (.bool n) ∧ W.cell? ⟨B, 1, none⟩ = some (.slice p l c) ∧ NR W n p l c X
theorem VB2.ext {W W' : World} {B : Nat} {n : Bool} {p : Option Addr} {l c : Nat} {X : Nm} (h : VB2 W B n p l c X) (hx : Ext W W') : VB2 W' B n p l c X :=
  ⟨Nat.lt_of_lt_of_le h.1 hx.size, (hx.cell (p := ⟨B, 0, none⟩) h.1).trans h.2.1, (hx.cell (p := ⟨B, 1, none⟩) h.1).trans h.2.2.1, h.2.2.2.ext hx⟩
theorem VB2.heap {W : World} {g : Nat} {n : Bool} {p : Option Addr} {l c : Nat} {X : Nm} {T : TypeId} (hg : W.heap[g]? = some (.cells #[.bool n, .slice p l c] T)) (h : NR W n p l c X) : VB2 W g n p l c X := by
  obtain ⟨c0, c1, _, hlt⟩ := pt_block hg
  exact ⟨hlt, c0, c1, h⟩
theorem r01_sgn (a : Nm) (na nz : Bool) (pa pz : Option Addr) (la ca lz cz : Nat) (w : World) (ha : NR w na pa la ca a) (hz : NR w nz pz lz cz zero) (ra : a.right = true) (s : Int) (hs : sgn a.z = s) :
    Calls Tryz.prog 120 #[.agg #[.bool na, .slice pa la ca], .agg #[.bool nz, .slice pz lz cz]] w fun e w' => e = .returned (.int .i64 s) ∧ Ext w w' := by
  have := r01_Cmp a zero na nz pa pz la ca lz cz w ha hz
  rw [cmpP_zero ra, hs] at this
  exact this
theorem r01_cmp (x y : Int) (na nz : Bool) (pa pz : Option Addr) (la ca lz cz : Nat) (w : World) (ha : NR w na pa la ca (ofZ x)) (hz : NR w nz pz lz cz (ofZ y)) (hx : small x = true) (hy : small y = true) (s : Int) (hs : cmpZ x y = s) :
    Calls Tryz.prog 120 #[.agg #[.bool na, .slice pa la ca], .agg #[.bool nz, .slice pz lz cz]] w fun e w' => e = .returned (.int .i64 s) ∧ Ext w w' := by
  have := r01_Cmp (ofZ x) (ofZ y) na nz pa pz la ca lz cz w ha hz
  rw [cmpP_side hx hy, hs] at this
  exact this
theorem mul_ofZ {a b : Nm} {z : Int} (ra : a.right = true) (rb : b.right = true) (hz : a.z * b.z = z) (hs : small z = true) : (mulP a b).1 = ofZ z := by rw [mulP_small ra rb hz hs]
theorem r02_mul (a b : Nm) (z : Int) (na nb : Bool) (pa pb : Option Addr) (la ca lb cb : Nat) (w : World) (ha : NR w na pa la ca a) (hb : NR w nb pb lb cb b) (ra : a.right = true) (rb : b.right = true) (hz : a.z * b.z = z) (hs : small z = true) :
    Calls Tryz.prog 100 #[.agg #[.bool na, .slice pa la ca], .agg #[.bool nb, .slice pb lb cb]] w (RetN w (ofZ z)) := mul_ofZ ra rb hz hs ▸ r02_times a b na nb pa pb la ca lb cb w ha hb
set_option maxRecDepth 100000 in
set_option maxHeartbeats 4000000 in
theorem r02_side (a b c : Nm) (na nb nc : Bool) (pa pb pc : Option Addr) (la ca lb cb lc cc : Nat) (w : World) (ha : NR w na pa la ca a) (hb : NR w nb pb lb cb b) (hc : NR w nc pc lc cc c) (ra : a.right = true) (rb : b.right = true) (rc : c.right = true)
    (s1 : small (a.z * a.z) = true) (s2 : small (b.z * b.z) = true) (s3 : small (b.z * b.z * c.z) = true) :
    Calls Tryz.prog 101 #[.agg #[.bool na, .slice pa la ca], .agg #[.bool nb, .slice pb lb cb], .agg #[.bool nc, .slice pc lc cc]] w fun e w' => e = .returned (.int .i64 (sideR a.z b.z c.z)) ∧ Ext w w' := by
  have S1 := Lib.hid s1
  have S2 := Lib.hid s2
  have S3 := Lib.hid s3
  have HA := Lib.hid ha
  have HB := Lib.hid hb
  have HC := Lib.hid hc
  clear s1 s2 s3 ha hb hc
  have ba := sgn_bd a.z
  have bb := sgn_bd b.z
  obtain ⟨x, X⟩ : ∃ x, Hid (sgn a.z = x) := ⟨_, rfl⟩
  obtain ⟨y, Y⟩ : ∃ x, Hid (sgn b.z = x) := ⟨_, rfl⟩
  obtain ⟨z, Z⟩ : ∃ x, Hid (sgn c.z = x) := ⟨_, rfl⟩
  rw [X.out] at ba
  rw [Y.out] at bb
  obtain ⟨r, R⟩ : ∃ r, Hid (cmpZ (a.z * a.z) (b.z * b.z * c.z) = r) := ⟨_, rfl⟩
  have br := cmpZ_bd (a.z * a.z) (b.z * b.z * c.z)
  rw [R.out] at br
  have bq := unit_mul ba br
  have RES : Hid (sideR a.z b.z c.z = if z = 0 ∨ y = 0 then x else if x = 0 ∨ x = y then y else x * r) := by
    show sideR a.z b.z c.z = _
    unfold sideR
    rw [X.out, Y.out, Z.out, R.out]
  go_enter Tryz.func101, Tryz.ntmps101
  go_upto_region 1 with (fail)
  refine wp_know (fun W => Ext w W ∧ w.heap.size + 3 ≤ W.heap.size ∧ (W.cell? ⟨w.heap.size, 0, none⟩ = some (.bool na) ∧ W.cell? ⟨w.heap.size, 1, none⟩ = some (.slice pa la ca) ∧ W.cell? ⟨w.heap.size + 1, 0, none⟩ = some (.bool nb) ∧ W.cell? ⟨w.heap.size + 1, 1, none⟩ = some (.slice pb lb cb) ∧ W.cell? ⟨w.heap.size + 1 + 1, 0, none⟩ = some (.bool nc) ∧ W.cell? ⟨w.heap.size + 1 + 1, 1, none⟩ = some (.slice pc lc cc) )) ⟨bxx, by simp, by go_simp⟩ ?_
  rintro W0 ⟨hx0, hs0, d0, d1, d2, d3, d4, d5⟩
  refine wp_FSc (fun W => cn W w.heap.size 0 na pa la ca ∧ cn W (w.heap.size + 1) 0 nb pb lb cb ∧ cn W (w.heap.size + 1 + 1) 0 nc pc lc cc) ?_
  repeat (first | refine F_s ?_ | refine F_r ?_)
  refine F_n W0 zero (fun W hW => r02_zero _) ?_; intro n1 p1 l1 c1 hn1
  repeat (first | refine F_s ?_ | refine F_r ?_)
  refine F_c (.int .i64 x) (fun W hW => r01_sgn a _ _ _ _ _ _ _ _ _ ((HA.out.ext hx0).ext hW.1.1) hW.2 ra x X.out) ?_
  repeat (first | refine F_s ?_ | refine F_r ?_)
  rintro W1 ⟨⟨hx, hc⟩, _⟩
  have hx1 : Ext w W1 := Ext.step hx0 hx
  have hs1 := hx.size
  clear hx d0 d1 d2 d3 d4 d5
  go_wp2_with fail
  refine wp_FSc (fun W => cn W w.heap.size 0 na pa la ca ∧ cn W (w.heap.size + 1) 0 nb pb lb cb ∧ cn W (w.heap.size + 1 + 1) 0 nc pc lc cc) ?_
  repeat (first | refine F_s ?_ | refine F_r ?_)
  refine F_n W1 zero (fun W hW => r02_zero _) ?_; intro n2 p2 l2 c2 hn2
  repeat (first | refine F_s ?_ | refine F_r ?_)
  refine F_c (.int .i64 y) (fun W hW => r01_sgn b _ _ _ _ _ _ _ _ _ ((HB.out.ext hx1).ext hW.1.1) hW.2 rb y Y.out) ?_
  repeat (first | refine F_s ?_ | refine F_r ?_)
  rintro W2 ⟨⟨hx, hc2⟩, _⟩
  have hx2 : Ext w W2 := Ext.step hx1 hx
  have hs2 := hx.size
  clear hx hc
  go_wp2_with fail
  by_cases z0 : z = 0
  · have zb : (z == 0) = true := by simp [z0]
    have Z0 := Lib.hid z0
    clear z0
    refine wp_FSc (fun W => cn W w.heap.size 0 na pa la ca ∧ cn W (w.heap.size + 1) 0 nb pb lb cb ∧ cn W (w.heap.size + 1 + 1) 0 nc pc lc cc) ?_
    repeat (first | refine F_s ?_ | refine F_r ?_)
    refine F_n W2 zero (fun W hW => r02_zero _) ?_; intro n3 p3 l3 c3 hn3
    repeat (first | refine F_s ?_ | refine F_r ?_)
    refine F_c (.int .i64 z) (fun W hW => r01_sgn c _ _ _ _ _ _ _ _ _ ((HC.out.ext hx2).ext hW.1.1) hW.2 rc z Z.out) ?_
    repeat (first | refine F_s ?_ | refine F_r ?_)
    rintro W3 ⟨⟨hx, _⟩, _⟩
    go_wp2
    go_ret
    exact ⟨by rw [RES.out, if_pos (.inl Z0.out)]; rfl, Ext.step hx2 hx⟩
  have zb : (z == 0) = false := by simp [z0]
  have Z0 := Lib.hid z0
  clear z0
  by_cases y0 : y = 0
  · have yb : (y == 0) = true := by simp [y0]
    have Y0 := Lib.hid y0
    clear y0
    refine wp_FSc (fun W => cn W w.heap.size 0 na pa la ca ∧ cn W (w.heap.size + 1) 0 nb pb lb cb ∧ cn W (w.heap.size + 1 + 1) 0 nc pc lc cc) ?_
    repeat (first | refine F_s ?_ | refine F_r ?_)
    refine F_n W2 zero (fun W hW => r02_zero _) ?_; intro n3 p3 l3 c3 hn3
    repeat (first | refine F_s ?_ | refine F_r ?_)
    refine F_c (.int .i64 z) (fun W hW => r01_sgn c _ _ _ _ _ _ _ _ _ ((HC.out.ext hx2).ext hW.1.1) hW.2 rc z Z.out) ?_
    repeat (first | refine F_s ?_ | refine F_r ?_)
    rintro W3 ⟨⟨hx, _⟩, _⟩
    go_wp2
    go_ret
    exact ⟨by rw [RES.out, if_pos (.inr Y0.out)]; rfl, Ext.step hx2 hx⟩
  have yb : (y == 0) = false := by simp [y0]
  have Y0 := Lib.hid y0
  clear y0
  refine wp_FSc (fun W => cn W w.heap.size 0 na pa la ca ∧ cn W (w.heap.size + 1) 0 nb pb lb cb ∧ cn W (w.heap.size + 1 + 1) 0 nc pc lc cc) ?_
  repeat (first | refine F_s ?_ | refine F_r ?_)
  refine F_n W2 zero (fun W hW => r02_zero _) ?_; intro n3 p3 l3 c3 hn3
  repeat (first | refine F_s ?_ | refine F_r ?_)
  refine F_c (.int .i64 z) (fun W hW => r01_sgn c _ _ _ _ _ _ _ _ _ ((HC.out.ext hx2).ext hW.1.1) hW.2 rc z Z.out) ?_
  repeat (first | refine F_s ?_ | refine F_r ?_)
  rintro W3 ⟨⟨hx, hc⟩, _⟩
  have hx3 : Ext w W3 := Ext.step hx2 hx
  have hs3 := hx.size
  clear hx hc2
  have RS : Hid (sideR a.z b.z c.z = if x = 0 ∨ x = y then y else x * r) := Lib.hid (by rw [RES.out, if_neg (fun h => h.elim Z0.out Y0.out)])
  by_cases x0 : x = 0
  · have xb : (x == 0) = true := by simp [x0]
    have X0 := Lib.hid x0
    clear x0
    go_wp2
    go_ret
    exact ⟨by rw [RS.out, if_pos (.inl X0.out)]; rfl, hx3⟩
  have xb : (x == 0) = false := by simp [x0]
  have X0 := Lib.hid x0
  clear x0
  by_cases xy : x = y
  · have xyb : (x == y) = true := by simp [xy]
    have XY := Lib.hid xy
    clear xy
    go_wp2
    go_ret
    exact ⟨by rw [RS.out, if_pos (.inr XY.out)]; rfl, hx3⟩
  have xyb : (x == y) = false := by simp [xy]
  have XY := Lib.hid xy
  clear xy
  obtain ⟨q, Q⟩ : ∃ q, Hid (x * r = q) := ⟨_, rfl⟩
  rw [Q.out] at bq RS
  have hq := Q.out
  obtain ⟨u, U⟩ : ∃ u, Hid (a.z * a.z = u) := ⟨_, rfl⟩
  obtain ⟨v, V⟩ : ∃ u, Hid (b.z * b.z = u) := ⟨_, rfl⟩
  obtain ⟨t, T⟩ : ∃ u, Hid (v * c.z = u) := ⟨_, rfl⟩
  rw [U.out] at S1
  rw [V.out] at S2
  rw [V.out, T.out] at S3
  rw [U.out, V.out, T.out] at R
  go_wp2_with fail
  refine (r02_mul a a u _ _ _ _ _ _ _ _ _ (HA.out.ext bxx) (HA.out.ext bxx) ra ra U.out S1.out).mono ?_
  rintro e W4 ⟨n4, p4, l4, c4, rfl, nr4, _, hx⟩
  have hx4 : Ext W3 W4 := Ext.step bxx hx
  go_upto_region 8 with (fail)
  refine wp_know (fun W => Ext w W ∧ (W.cell? ⟨w.heap.size, 0, none⟩ = some (.bool na) ∧ W.cell? ⟨w.heap.size, 1, none⟩ = some (.slice pa la ca) ∧ W.cell? ⟨w.heap.size + 1, 0, none⟩ = some (.bool nb) ∧ W.cell? ⟨w.heap.size + 1, 1, none⟩ = some (.slice pb lb cb) ∧ W.cell? ⟨w.heap.size + 1 + 1, 0, none⟩ = some (.bool nc) ∧ W.cell? ⟨w.heap.size + 1 + 1, 1, none⟩ = some (.slice pc lc cc) ) ∧ w.heap.size + 3 ≤ W4.heap.size ∧ W4.heap.size < W.heap.size ∧ W.cell? ⟨W4.heap.size, 0, none⟩ = some (.bool n4) ∧ W.cell? ⟨W4.heap.size, 1, none⟩ = some (.slice p4 l4 c4) ∧ NR W n4 p4 l4 c4 (ofZ u)) ?_ ?_
  · obtain ⟨d0, d1, d2, d3, d4, d5⟩ := hc
    have k0 : W4.cell? ⟨w.heap.size, 0, none⟩ = some (.bool na) := (hx4.cell (p := ⟨w.heap.size, 0, none⟩) (show w.heap.size < _ by omega)).trans d0
    have k1 : W4.cell? ⟨w.heap.size, 1, none⟩ = some (.slice pa la ca) := (hx4.cell (p := ⟨w.heap.size, 1, none⟩) (show w.heap.size < _ by omega)).trans d1
    have k2 : W4.cell? ⟨w.heap.size + 1, 0, none⟩ = some (.bool nb) := (hx4.cell (p := ⟨w.heap.size + 1, 0, none⟩) (show w.heap.size + 1 < _ by omega)).trans d2
    have k3 : W4.cell? ⟨w.heap.size + 1, 1, none⟩ = some (.slice pb lb cb) := (hx4.cell (p := ⟨w.heap.size + 1, 1, none⟩) (show w.heap.size + 1 < _ by omega)).trans d3
    have k4 : W4.cell? ⟨w.heap.size + 1 + 1, 0, none⟩ = some (.bool nc) := (hx4.cell (p := ⟨w.heap.size + 1 + 1, 0, none⟩) (show w.heap.size + 1 + 1 < _ by omega)).trans d4
    have k5 : W4.cell? ⟨w.heap.size + 1 + 1, 1, none⟩ = some (.slice pc lc cc) := (hx4.cell (p := ⟨w.heap.size + 1 + 1, 1, none⟩) (show w.heap.size + 1 + 1 < _ by omega)).trans d5
    have hz := hx4.size
    have hl0 : w.heap.size < W4.heap.size := by omega
    have hl1 : w.heap.size + 1 < W4.heap.size := by omega
    have hl2 : w.heap.size + 1 + 1 < W4.heap.size := by omega
    refine ⟨(Ext.step hx3 hx4).alloc (Ext.step hx3 hx4).size _, ⟨?_, ?_, ?_, ?_, ?_, ?_⟩, by omega, by simp, by go_simp, by go_simp, nr4.alloc _⟩ <;> go_simp
  rintro W5 ⟨hx5, ⟨d0, d1, d2, d3, d4, d5⟩, hz4, hz5, e0, e1, nr5⟩
  obtain ⟨g, G⟩ : ∃ g, Hid (W4.heap.size = g) := ⟨_, rfl⟩
  rw [G.out] at hz4 hz5 e0 e1 ⊢
  have NR5 := Lib.hid nr5
  have HBW := Lib.hid (HB.out.ext hx5)
  have HCW := Lib.hid (HC.out.ext hx5)
  clear hx4 nr4 hx hc nr5
  refine wp_KBc W5 (W5.heap.size) (fun W => cn W w.heap.size 0 na pa la ca ∧ cn W (w.heap.size + 1) 0 nb pb lb cb ∧ cn W (w.heap.size + 1 + 1) 0 nc pc lc cc ∧ cn W g 0 n4 p4 l4 c4) ?_
  intro hKeep
  repeat (first | refine F_s ?_ | refine F_r ?_)
  refine F_n W5 (ofZ v) (fun W hW => r02_mul b b v _ _ _ _ _ _ _ _ _ (HBW.out.ext hW.1) (HBW.out.ext hW.1) rb rb V.out S2.out) ?_; intro n6 p6 l6 c6 hn6
  repeat (first | refine F_s ?_ | refine F_r ?_)
  refine F_n W5 (ofZ t) (fun W hW => r02_mul (ofZ v) c t _ _ _ _ _ _ _ _ _ hW.2 (HCW.out.ext hW.1.1) (ofZ_right S2.out) rc (by rw [ofZ_z]; exact T.out) S3.out) ?_; intro n7 p7 l7 c7 hn7
  repeat (first | refine F_s ?_ | refine F_r ?_)
  refine F_al ?_
  intro g2 hg2
  simp only [List.mem_cons, List.mem_range, not_or, Nat.not_lt] at hg2
  repeat (first | refine F_s ?_ | refine F_r ?_)
  refine F_w (fun W => (_ ∧ NR W n6 p6 l6 c6 (ofZ v)) ∧ NR W n7 p7 l7 c7 (ofZ t)) (fun W hW => hW) ?_
  repeat (first | refine F_s ?_ | refine F_r ?_)
  rintro W6 ⟨⟨⟨⟨hS, _⟩, nr7⟩, hg⟩, _⟩
  have vT := VB2.heap hg nr7
  obtain ⟨f0, f1, f2, f3⟩ := vT
  have hx6 : Ext w W6 := Ext.step hx5 hS.1
  have e0' : W6.cell? ⟨g, 0, none⟩ = some (.bool n4) := (hS.1.cell (p := ⟨g, 0, none⟩) hz5).trans e0
  have e1' : W6.cell? ⟨g, 1, none⟩ = some (.slice p4 l4 c4) := (hS.1.cell (p := ⟨g, 1, none⟩) hz5).trans e1
  have NR6 := NR5.out.ext hS.1
  clear hS hg nr7 d0 d1 d2 d3 d4 d5 e0 e1 hKeep hn6 hn7 hx5 HBW HCW NR5
  go_wp2_with fail
  refine (r01_cmp u t _ _ _ _ _ _ _ _ _ (NR6.ext bxx) (f3.ext bxx) S1.out S3.out r R.out).mono ?_
  rintro e W7 ⟨rfl, hx⟩
  have hx7 : Ext w W7 := Ext.step hx6 (Ext.step bxx hx)
  go_wp2
  go_ret
  refine ⟨?_, hx7⟩
  rw [RS.out, if_neg (fun h => h.elim X0.out XY.out)]
  refine congrArg (fun n => Ending.returned (.int .i64 n)) ?_
  first | rfl | exact Q.out | (show _ = _; rw [← hq]) | exact IntWalk.i64_in _ (by omega)
end Go.Proofs.YtighahcllmoajaaGreat
