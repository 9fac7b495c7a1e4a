/- Contract: the inner function of root.Cmp. | Contracts: root.guarded over the inner function of Cmp; root.Cmp. -/
import Derived.Test.YtighahcllmoajaaGreatJ27
import Derived.Test.YtighahcllmoajaaGreatJ34
import Derived.Test.YtighahcllmoajaaGreatJ33
import Derived.Test.YtighahcllmoajaaGreatJ18
set_option linter.unusedVariables false
set_option linter.unusedSimpArgs false

namespace Go.Proofs.YtighahcllmoajaaGreat
open Go.RowKit
attribute [local go_sem] Gives givesU

/-- Less than 2^(32 k). -/
def Bk (k : Nat) (x : Int) : Prop := x.natAbs < 4294967296 ^ k
theorem Bk.mul {k j : Nat} {x y : Int} (hx : Bk k x) (hy : Bk j y) : Bk (k + j) (x * y) := mul_lt_pow hx hy
theorem Bk.mono {k j : Nat} {x : Int} (hx : Bk k x) (h : k ≤ j) : Bk j x := Nat.lt_of_lt_of_le hx (Nat.pow_le_pow_right (by decide) h)
theorem Bk.small {k : Nat} {x : Int} (hx : Bk k x) (h : k ≤ 64) : small x = true := small_of_lt hx h
theorem Bk.add {k : Nat} {x y : Int} (hx : Bk k x) (hy : Bk k y) : Bk (k + 1) (x + y) := by
  unfold Bk at *
  have : (x + y).natAbs ≤ x.natAbs + y.natAbs := Int.natAbs_add_le x y
  rw [Nat.pow_succ]
  generalize 4294967296 ^ k = P at *
  omega
theorem Bk.neg {k : Nat} {x : Int} (hx : Bk k x) : Bk k (-x) := by unfold Bk at *; rw [Int.natAbs_neg]; exact hx
theorem Bk.one {x : Int} (h : -1 ≤ x ∧ x ≤ 1) : Bk 1 x := by unfold Bk; omega
theorem Bk.two : Bk 1 2 := by unfold Bk; decide
theorem Bk.i64 {x : Int} (h : -9223372036854775808 ≤ x ∧ x ≤ 9223372036854775807) : Bk 2 x := by unfold Bk; omega
theorem Bk.num {a : Nm} {k : Nat} (hd : Dig a.d) (h : a.d.length ≤ k) : Bk k a.z := by
  unfold Bk
  rw [natAbs_val]
  exact Nat.lt_of_lt_of_le (val_lt hd) (Nat.pow_le_pow_right (by decide) h)
theorem small_prod2 {a b : Nm} {m n : Nat} (ha : Bk m a.z) (hb : Bk n b.z) (hk : m + n ≤ 64) : ∀ k, small (prodZ ([a, b].take k)) = true := small_two ha hb hk
theorem small_prod4 {a b c d : Nm} {m n o p : Nat} (ha : Bk m a.z) (hb : Bk n b.z) (hc : Bk o c.z) (hd : Bk p d.z) (hk : m + n + o + p ≤ 64) : ∀ k, small (prodZ ([a, b, c, d].take k)) = true := by
  intro k
  match k with
  | 0 => exact small_one
  | 1 =>
    have e : prodZ ([a, b, c, d].take 1) = a.z := by simp [prodZ]
    rw [e]; exact ha.small (by omega)
  | 2 =>
    have e : prodZ ([a, b, c, d].take 2) = a.z * b.z := by simp [prodZ]
    rw [e]; exact (ha.mul hb).small (by omega)
  | 3 =>
    have e : prodZ ([a, b, c, d].take 3) = a.z * b.z * c.z := by simp [prodZ]
    rw [e]; exact ((ha.mul hb).mul hc).small (by omega)
  | k + 4 =>
    have e : prodZ ([a, b, c, d].take (k + 4)) = a.z * b.z * c.z * d.z := by simp [prodZ]
    rw [e]; exact (((ha.mul hb).mul hc).mul hd).small (by omega)
theorem small_sum2 {a b : Nm} {m : Nat} (ha : Bk m a.z) (hb : Bk m b.z) (hk : m + 1 ≤ 64) : ∀ k, small (sumZ ([a, b].take k)) = true := by
  intro k
  match k with
  | 0 => show small 0 = true; decide +kernel
  | 1 =>
    have e : sumZ ([a, b].take 1) = a.z := by simp [sumZ]
    rw [e]; exact ha.small (by omega)
  | k + 2 =>
    have e : sumZ ([a, b].take (k + 2)) = a.z + b.z := by simp [sumZ]
    rw [e]; exact (ha.add hb).small (by omega)
theorem small_sum3 {a b c : Nm} {m : Nat} (ha : Bk m a.z) (hb : Bk m b.z) (hc : Bk m c.z) (hk : m + 2 ≤ 64) : ∀ k, small (sumZ ([a, b, c].take k)) = true := by
  intro k
  match k with
  | 0 => show small 0 = true; decide +kernel
  | 1 =>
    have e : sumZ ([a, b, c].take 1) = a.z := by simp [sumZ]
    rw [e]; exact ha.small (by omega)
  | 2 =>
    have e : sumZ ([a, b, c].take 2) = a.z + b.z := by simp [sumZ]
    rw [e]; exact (ha.add hb).small (by omega)
  | k + 3 =>
    have e : sumZ ([a, b, c].take (k + 3)) = a.z + b.z + c.z := by simp [sumZ]
    rw [e]; exact ((ha.add hb).add (hc.mono (Nat.le_succ _))).small (by omega)
theorem run_minE {P : Program} {w : World} (ts : Array TypeId) (t : TypeId) (x y : Int) : (Builtin.min_ ts t #[.int .i64 x, .int .i64 y]).run P w = .ok (.int .i64 (min x y)) w := by
  have h : (Builtin.min_ ts t #[.int .i64 x, .int .i64 y]).run P w = .ok (.int .i64 (if y < x then y else x)) w := by
    simp [Builtin.min_, Builtin.min2]
  rw [h]
  congr 2
  split <;> omega
theorem times2E (a b : Nm) (z : Int) (B c : Nat) (w : World) (h : NRs w B [a, b]) (hs : ∀ k, small (prodZ ([a, b].take k)) = true) (hz : a.z * b.z = z) :
    Calls Tryz.prog 65 #[.slice (some ⟨B, 0, none⟩) 2 c] w (RetN w (ofZ z)) := by
  have e : prodZ [a, b] = z := by simp [prodZ]; exact hz
  rw [← e]
  exact root_times [a, b] B 2 c w h rfl (by simp) hs
theorem times4E (a b c' d : Nm) (z : Int) (B c : Nat) (w : World) (h : NRs w B [a, b, c', d]) (hs : ∀ k, small (prodZ ([a, b, c', d].take k)) = true) (hz : a.z * b.z * c'.z * d.z = z) :
    Calls Tryz.prog 65 #[.slice (some ⟨B, 0, none⟩) 4 c] w (RetN w (ofZ z)) := by
  have e : prodZ [a, b, c', d] = z := by simp [prodZ]; exact hz
  rw [← e]
  exact root_times [a, b, c', d] B 4 c w h rfl (by simp) hs
theorem sum2E (a b : Nm) (z : Int) (B c : Nat) (w : World) (h : NRs w B [a, b]) (hs : ∀ k, small (sumZ ([a, b].take k)) = true) (hz : a.z + b.z = z) :
    Calls Tryz.prog 62 #[.slice (some ⟨B, 0, none⟩) 2 c] w (RetN w (ofZ z)) := by
  have e : sumZ [a, b] = z := by simp [sumZ]; exact hz
  rw [← e]
  exact root_sum [a, b] B 2 c w h rfl (by simp) hs
theorem sum3E (a b c' : Nm) (z : Int) (B c : Nat) (w : World) (h : NRs w B [a, b, c']) (hs : ∀ k, small (sumZ ([a, b, c'].take k)) = true) (hz : a.z + b.z + c'.z = z) :
    Calls Tryz.prog 62 #[.slice (some ⟨B, 0, none⟩) 3 c] w (RetN w (ofZ z)) := by
  have e : sumZ [a, b, c'] = z := by simp [sumZ]; exact hz
  rw [← e]
  exact root_sum [a, b, c'] B 3 c w h rfl (by simp) hs
theorem oppE (x : Int) (na : Bool) (pa : Option Addr) (la ca : Nat) (w : World) (ha : NR w na pa la ca (ofZ x)) (hx : small x = true) (z : Int) (hz : -x = z) (hs : small z = true) :
    Calls Tryz.prog 64 #[.agg #[.bool na, .slice pa la ca]] w (RetN w (ofZ z)) := root_opposite (ofZ x) na pa la ca w ha (ofZ_right hx) z (by rw [ofZ_z]; exact hz) hs
theorem bz {x : Int} {k : Nat} (h : Bk k x) : Bk k (ofZ x).z := by rw [ofZ_z]; exact h

theorem sideE (x y z v : Int) (na nb nc : Bool) (pa pb pc : Option Addr) (la ca lb cb lc cc j k i : Nat) (w : World) (ha : NR w na pa la ca (ofZ x)) (hb : NR w nb pb lb cb (ofZ y)) (hc : NR w nc pc lc cc (ofZ z)) (bx : Bk j x) (by' : Bk k y) (bz' : Bk i z) (h1 : j + j ≤ 64) (h2 : k + k + i ≤ 64) (hv : sideZ x y z = v) :
    Calls Tryz.prog 66 #[.agg #[.bool na, .slice pa la ca], .agg #[.bool nb, .slice pb lb cb], .agg #[.bool nc, .slice pc lc cc]] w fun e w' => e = .returned (.int .i64 v) ∧ Ext w w' := by
  have h := root_side (ofZ x) (ofZ y) (ofZ z) na nb nc pa pb pc la ca lb cb lc cc w ha hb hc (ofZ_right (bx.small (by omega))) (ofZ_right (by'.small (by omega))) (ofZ_right (bz'.small (by omega))) (small_two (bz bx) (bz bx) h1) (small_three (bz by') (bz by') (bz bz') h2)
  rw [ofZ_z, ofZ_z, ofZ_z, hv] at h
  exact h
theorem side_bd (a b c : Int) : -1 ≤ sideZ a b c ∧ sideZ a b c ≤ 1 := by
  unfold sideZ
  split
  · omega
  · exact unit_mul (sgn_bd a) (cmpZ_bd _ _)
set_option maxRecDepth 100000 in
set_option maxHeartbeats 8000000 in
theorem root_Cmp1 (add1 s1 add2 s2 : Int) (x1 y1 x2 y2 : Nm) (n1 m1 n2 m2 : Bool) (p1 q1 p2 q2 : Option Addr) (l1 c1 k1 d1 l2 c2 k2 d2 A B : Nat) (w : World)
    (ra : RB w A add1 s1 n1 p1 l1 c1 m1 q1 k1 d1) (rb : RB w B add2 s2 n2 p2 l2 c2 m2 q2 k2 d2) (hx1 : NR w n1 p1 l1 c1 x1) (hy1 : NR w m1 q1 k1 d1 y1) (hx2 : NR w n2 p2 l2 c2 x2) (hy2 : NR w m2 q2 k2 d2 y2)
    (i1 : -9223372036854775808 ≤ add1 ∧ add1 ≤ 9223372036854775807) (i2 : -9223372036854775808 ≤ add2 ∧ add2 ≤ 9223372036854775807) (b1 : -1 ≤ s1 ∧ s1 ≤ 1) (b2 : -1 ≤ s2 ∧ s2 ≤ 1)
    (r1 : x1.right = true) (r2 : y1.right = true) (r3 : x2.right = true) (r4 : y2.right = true) (t1 : Bk 8 x1.z) (t2 : Bk 8 y1.z) (t3 : Bk 8 x2.z) (t4 : Bk 8 y2.z) :
    Calls Tryz.prog 61 #[.pointer (some ⟨A, 0, none⟩), .pointer (some ⟨B, 0, none⟩)] w fun e w' => e = .returned (.int .i64 (cmpR (add1 - add2) s1 x1.z y1.z s2 x2.z y2.z)) ∧ Ext w w' := by
  obtain ⟨ha, a0, a1, ⟨a2, a3⟩, ⟨a4, a5⟩, _⟩ := ra
  obtain ⟨hb, b0, b1', ⟨b2', b3⟩, ⟨b4, b5⟩, _⟩ := rb
  have X1 := Lib.hid hx1
  have Y1 := Lib.hid hy1
  have X2 := Lib.hid hx2
  have Y2 := Lib.hid hy2
  clear hx1 hy1 hx2 hy2
  have T1 := Lib.hid t1
  have T2 := Lib.hid t2
  have T3 := Lib.hid t3
  have T4 := Lib.hid t4
  clear t1 t2 t3 t4
  obtain ⟨z2, Z2⟩ : ∃ z, Hid (-add2 = z) := ⟨_, Lib.hid rfl⟩
  obtain ⟨dA, DA⟩ : ∃ z, Hid (add1 + z2 = z) := ⟨_, Lib.hid rfl⟩
  have e1 : add1 - add2 = dA := by have := Z2.out; have := DA.out; omega
  have BA1 := Lib.hid (Bk.i64 i1)
  have BZ2 : Hid (Bk 2 z2) := Lib.hid (by rw [← Z2.out]; exact (Bk.i64 i2).neg)
  have BA2 := Lib.hid (Bk.i64 i2)
  have BD : Hid (Bk 3 dA) := Lib.hid (by rw [← DA.out]; exact BA1.out.add BZ2.out)
  have BS := Lib.hid (Bk.one b1)
  rw [e1]
  clear e1
  go_enter Tryz.func61, Tryz.ntmps61
  go_upto_region 1 with (fail)
  refine wp_KBc w (w.heap.size) (fun W => W.cell? ⟨A, 0, none⟩ = some (.int .i64 add1) ∧ W.cell? ⟨A, 1, none⟩ = some (.int .i64 s1) ∧ cn W A 2 n1 p1 l1 c1 ∧ cn W A 4 m1 q1 k1 d1 ∧ W.cell? ⟨B, 0, none⟩ = some (.int .i64 add2) ∧ W.cell? ⟨B, 1, none⟩ = some (.int .i64 s2) ∧ cn W B 2 n2 p2 l2 c2 ∧ cn W B 4 m2 q2 k2 d2) ?_
  intro hKeep
  repeat (first | refine F_s ?_ | refine F_r ?_)
  refine F_num w (ofZ add1) (by rfl) (by rfl) (by intro W hW; (try dsimp only at hW); have hwW := (show w.heap.size ≤ W.heap.size by have hzz := hW; (repeat (first | exact hzz.size | exact hzz.1.size | replace hzz := hzz.1))); go_simp; exact (num_Of add1 _ i1.1 i1.2).mono fun _ _ h => RetN.isN hwW h) ?_; intro n11 p11 l11 c11 hn11; refine F_put ?_
  repeat (first | refine F_s ?_ | refine F_r ?_)
  refine F_num w (ofZ add2) (by rfl) (by rfl) (by intro W hW; (try dsimp only at hW); have hwW := (show w.heap.size ≤ W.heap.size by have hzz := hW; (repeat (first | exact hzz.size | exact hzz.1.size | replace hzz := hzz.1))); go_simp; exact (num_Of add2 _ i2.1 i2.2).mono fun _ _ h => RetN.isN hwW h) ?_; intro n12 p12 l12 c12 hn12; refine F_put ?_
  repeat (first | refine F_s ?_ | refine F_r ?_)
  refine F_num w (ofZ z2) (by rfl) (by rfl) (by intro W hW; (try dsimp only at hW); have hwW := (show w.heap.size ≤ W.heap.size by have hzz := hW; (repeat (first | exact hzz.size | exact hzz.1.size | replace hzz := hzz.1))); go_simp; exact (oppE add2 _ _ _ _ W hW.2 (BA2.out.small (by decide)) z2 Z2.out (BZ2.out.small (by decide))).mono fun _ _ h => RetN.isN hwW h) ?_; intro n13 p13 l13 c13 hn13; refine F_put ?_
  repeat (first | refine F_s ?_ | refine F_r ?_)
  refine F_ns2 (ofZ add1) (ofZ z2) _ _ (by rfl) (by rfl) (by rfl) (by rfl) (by rfl) (fun W hW => ⟨hW.1.1.2, hW.2⟩) (ofZ_right (BA1.out.small (by decide))) (ofZ_right (BZ2.out.small (by decide))) ?_
  intro g
  refine F_put ?_
  repeat (first | refine F_s ?_ | refine F_r ?_)
  refine F_num w (ofZ dA) (by rfl) (by rfl) (by intro W hW; (try dsimp only at hW); have hwW := (show w.heap.size ≤ W.heap.size by have hzz := hW; (repeat (first | exact hzz.size | exact hzz.1.size | replace hzz := hzz.1))); go_simp; exact (sum2E (ofZ add1) (ofZ z2) dA g 2 W hW.2 (small_sum2 (bz BA1.out) (bz BZ2.out) (by decide)) (by rw [ofZ_z, ofZ_z]; exact DA.out)).mono fun _ _ h => RetN.isN hwW h) ?_; intro n14 p14 l14 c14 hn14; refine F_put ?_
  repeat (first | refine F_s ?_ | refine F_r ?_)
  refine F_al ?_
  intro g3 hg3
  simp only [List.mem_cons, List.mem_range, not_or, Nat.not_lt] at hg3
  repeat (first | refine F_s ?_ | refine F_r ?_)
  refine F_w (fun W => _ ∧ NR W n14 p14 l14 c14 (ofZ dA)) (fun W hW => ⟨⟨hW.1.1.1.1.1.1, hW.1.2⟩, hW.2⟩) ?_
  repeat (first | refine F_s ?_ | refine F_r ?_)
  rintro W1 ⟨⟨⟨hS, nr14⟩, hb3⟩, _⟩
  obtain ⟨E1, _, a0, a1, a2, a3, a4, a5, b0, b1', b2', b3, b4, b5⟩ := hS
  obtain ⟨g0, g1, _, hl3⟩ := pt_block hb3
  clear hb3 hKeep
  have N14 := Lib.hid nr14
  clear nr14
  obtain ⟨un, UN⟩ : ∃ z, Hid (x1.z * y1.z = z) := ⟨_, Lib.hid rfl⟩
  have BU : Hid (Bk 16 un) := Lib.hid (by rw [← UN.out]; exact T1.out.mul T2.out)
  go_upto_region 2 with (fail)
  refine wp_KBc W1 (W1.heap.size) (fun W => W.cell? ⟨A, 0, none⟩ = some (.int .i64 add1) ∧ W.cell? ⟨A, 1, none⟩ = some (.int .i64 s1) ∧ cn W A 2 n1 p1 l1 c1 ∧ cn W A 4 m1 q1 k1 d1 ∧ W.cell? ⟨B, 0, none⟩ = some (.int .i64 add2) ∧ W.cell? ⟨B, 1, none⟩ = some (.int .i64 s2) ∧ cn W B 2 n2 p2 l2 c2 ∧ cn W B 4 m2 q2 k2 d2 ∧ cn W g3 0 n14 p14 l14 c14) ?_
  intro hKeep
  repeat (first | refine F_s ?_ | refine F_r ?_)
  refine F_n W1 (ofZ s1) (fun W hW => num_Of s1 _ (by omega) (by omega)) ?_; intro n15 p15 l15 c15 hn15
  repeat (first | refine F_s ?_ | refine F_r ?_)
  refine F_ns2 x1 y1 _ _ (by rfl) (by rfl) (by rfl) (by rfl) (by rfl) (fun W hW => ⟨(X1.out.ext E1).ext hW.1.1, (Y1.out.ext E1).ext hW.1.1⟩) r1 r2 ?_
  intro gg
  refine F_put ?_
  repeat (first | refine F_s ?_ | refine F_r ?_)
  refine F_n W1 (ofZ un) (fun W hW => times2E x1 y1 un gg 2 W hW.2 (small_prod2 T1.out T2.out (by decide)) UN.out) ?_; intro n16 p16 l16 c16 hn16
  repeat (first | refine F_s ?_ | refine F_r ?_)
  refine F_al ?_
  intro g4 hg4
  simp only [List.mem_cons, List.mem_range, not_or, Nat.not_lt] at hg4
  refine F_al ?_
  intro g5 hg5
  simp only [List.mem_cons, List.mem_range, not_or, Nat.not_lt] at hg5
  obtain ⟨h45, hg5⟩ := hg5
  have h54 := Ne.symm h45
  repeat (first | refine F_s ?_ | refine F_r ?_)
  refine F_w (fun W => ((_ ∧ NR W n15 p15 l15 c15 (ofZ s1)) ∧ NR W n16 p16 l16 c16 (ofZ un)) ∧ W.heap[g5]? = some (.cells #[.bool false, .slice none 0 0] 36)) (fun W hW => ⟨⟨⟨⟨hW.1.1.1.1.1, hW.1.1.1.1.2⟩, hW.1.1.2⟩, hW.2⟩, hW.1.2⟩) ?_
  refine F_w (fun W => ((_ ∧ NR W n15 p15 l15 c15 (ofZ s1)) ∧ NR W n16 p16 l16 c16 (ofZ un)) ∧ W.heap[g4]? = some (.cells #[.bool n15, .slice p15 l15 c15] 36)) (fun W hW => ⟨⟨hW.1.1.1, hW.1.2⟩, hW.1.1.2⟩) ?_
  repeat (first | refine F_s ?_ | refine F_r ?_)
  rintro W2 ⟨⟨⟨⟨⟨hS, nr15⟩, nr16⟩, hb4⟩, hb5⟩, _⟩
  obtain ⟨E12, _, a0', a1', a2', a3', a4', a5', b0', b1'', b2'', b3', b4', b5', g0', g1'⟩ := hS
  have E2 : Ext w W2 := Ext.step E1 E12
  have N14b := Lib.hid (N14.out.ext E12)
  obtain ⟨s40, s41, _, hl4⟩ := pt_block hb4
  obtain ⟨s50, s51, _, hl5⟩ := pt_block hb5
  have hl3' : g3 < W2.heap.size := Nat.lt_of_lt_of_le hl3 E12.size
  clear hb4 hb5 hKeep a0 a1 a2 a3 a4 a5 b0 b1' b2' b3 b4 b5 g0 g1 N14 hl3 E1 E12
  have N15 := Lib.hid nr15
  have N16 := Lib.hid nr16
  have Y12 := Lib.hid (Y1.out.ext E2)
  have X12 := Lib.hid (X1.out.ext E2)
  have Y22 := Lib.hid (Y2.out.ext E2)
  have X22 := Lib.hid (X2.out.ext E2)
  clear nr15 nr16
  obtain ⟨ad, AD⟩ : ∃ z, Hid (dA * y1.z = z) := ⟨_, Lib.hid rfl⟩
  have BAD : Hid (Bk 11 ad) := Lib.hid (by rw [← AD.out]; exact BD.out.mul T2.out)
  obtain ⟨u, U⟩ : ∃ z, Hid (sideZ ad s1 un = z) := ⟨_, Lib.hid rfl⟩
  have bu := side_bd ad s1 un
  rw [U.out] at bu
  go_upto_region 3 with (fail)
  refine wp_KBc W2 (W2.heap.size) (fun W => W.cell? ⟨A, 0, none⟩ = some (.int .i64 add1) ∧ W.cell? ⟨A, 1, none⟩ = some (.int .i64 s1) ∧ cn W A 2 n1 p1 l1 c1 ∧ cn W A 4 m1 q1 k1 d1 ∧ W.cell? ⟨B, 0, none⟩ = some (.int .i64 add2) ∧ W.cell? ⟨B, 1, none⟩ = some (.int .i64 s2) ∧ cn W B 2 n2 p2 l2 c2 ∧ cn W B 4 m2 q2 k2 d2 ∧ cn W g3 0 n14 p14 l14 c14 ∧ cn W g4 0 n15 p15 l15 c15 ∧ cn W g5 0 n16 p16 l16 c16) ?_
  intro hKeep
  repeat (first | refine F_s ?_ | refine F_r ?_)
  refine F_ns2 (ofZ dA) y1 _ _ (by rfl) (by rfl) (by rfl) (by rfl) (by rfl) (fun W hW => ⟨N14b.out.ext hW.1, Y12.out.ext hW.1⟩) (ofZ_right (BD.out.small (by decide))) r2 ?_
  intro gh
  refine F_put ?_
  repeat (first | refine F_s ?_ | refine F_r ?_)
  refine F_n W2 (ofZ ad) (fun W hW => times2E (ofZ dA) y1 ad gh 2 W hW.2 (small_prod2 (bz BD.out) T2.out (by decide)) (by rw [ofZ_z]; exact AD.out)) ?_; intro n17 p17 l17 c17 hn17
  repeat (first | refine F_s ?_ | refine F_r ?_)
  refine F_c (.int .i64 u) (fun W hW => sideE ad s1 un u _ _ _ _ _ _ _ _ _ _ _ _ 11 1 16 W hW.2 (N15.out.ext hW.1.1.1) (N16.out.ext hW.1.1.1) BAD.out BS.out BU.out (by decide) (by decide) U.out) ?_
  repeat (first | refine F_s ?_ | refine F_r ?_)
  rintro W3 ⟨⟨hS, _⟩, _⟩
  obtain ⟨E23, _, a0, a1, a2, a3, a4, a5, b0, b1', b2', b3, b4, b5, g0, g1, s40', s41', s50', s51'⟩ := hS
  have E3 : Ext w W3 := Ext.step E2 E23
  have hl3'' : g3 < W3.heap.size := Nat.lt_of_lt_of_le hl3' E23.size
  have hl4' : g4 < W3.heap.size := Nat.lt_of_lt_of_le hl4 E23.size
  have hl5' : g5 < W3.heap.size := Nat.lt_of_lt_of_le hl5 E23.size
  have N14c := Lib.hid (N14b.out.ext E23)
  have N15c := Lib.hid (N15.out.ext E23)
  have N16c := Lib.hid (N16.out.ext E23)
  have X13 := Lib.hid (X1.out.ext E3)
  have Y13 := Lib.hid (Y1.out.ext E3)
  have X23 := Lib.hid (X2.out.ext E3)
  have Y23 := Lib.hid (Y2.out.ext E3)
  clear a0' a1' a2' a3' a4' a5' b0' b1'' b2'' b3' b4' b5' g0' g1' s40 s41 s50 s51 hKeep E23 E2 hl3' hl4 hl5 N14b N15 N16 X12 Y12 X22 Y22
  have CUT : Hid (cmpR dA s1 x1.z y1.z s2 x2.z y2.z = if u ≠ s2 then max (min (u - s2) 1) (-1) else u * sideZ (dA * dA * y1.z * y2.z + x1.z * y2.z - x2.z * y1.z) (2 * dA * s1 * y2.z) un) := Lib.hid (by
    unfold cmpR
    rw [AD.out, UN.out, U.out])
  by_cases huv : u = s2
  · have hue : (u == s2) = true := by simpa using huv
    have RS : Hid (cmpR dA s1 x1.z y1.z s2 x2.z y2.z = u * sideZ (dA * dA * y1.z * y2.z + x1.z * y2.z - x2.z * y1.z) (2 * dA * s1 * y2.z) un) := Lib.hid (by rw [CUT.out, if_neg (fun h => h huv)])
    clear CUT huv
    obtain ⟨t1, Q1⟩ : ∃ z, Hid (dA * dA * y1.z * y2.z = z) := ⟨_, Lib.hid rfl⟩
    obtain ⟨t2, Q2⟩ : ∃ z, Hid (x1.z * y2.z = z) := ⟨_, Lib.hid rfl⟩
    obtain ⟨t3, Q3⟩ : ∃ z, Hid (x2.z * y1.z = z) := ⟨_, Lib.hid rfl⟩
    obtain ⟨t4, Q4⟩ : ∃ z, Hid (-t3 = z) := ⟨_, Lib.hid rfl⟩
    obtain ⟨rs, Q5⟩ : ∃ z, Hid (t1 + t2 + t4 = z) := ⟨_, Lib.hid rfl⟩
    obtain ⟨tw, Q6⟩ : ∃ z, Hid (2 * dA * s1 * y2.z = z) := ⟨_, Lib.hid rfl⟩
    obtain ⟨v, V⟩ : ∃ z, Hid (sideZ rs tw un = z) := ⟨_, Lib.hid rfl⟩
    have e5 : t1 + t2 - t3 = rs := by have := Q4.out; have := Q5.out; omega
    have RS2 : Hid (cmpR dA s1 x1.z y1.z s2 x2.z y2.z = u * v) := Lib.hid (by rw [RS.out, Q1.out, Q2.out, Q3.out, Q6.out, e5, V.out])
    have B1 : Hid (Bk 22 t1) := Lib.hid (by rw [← Q1.out]; exact ((BD.out.mul BD.out).mul T2.out).mul T4.out)
    have B2 : Hid (Bk 16 t2) := Lib.hid (by rw [← Q2.out]; exact T1.out.mul T4.out)
    have B3 : Hid (Bk 16 t3) := Lib.hid (by rw [← Q3.out]; exact T3.out.mul T2.out)
    have B4 : Hid (Bk 16 t4) := Lib.hid (by rw [← Q4.out]; exact B3.out.neg)
    have B5 : Hid (Bk 24 rs) := Lib.hid (by rw [← Q5.out]; exact (B1.out.add (B2.out.mono (by decide))).add (B4.out.mono (by decide)))
    have B6 : Hid (Bk 13 tw) := Lib.hid (by rw [← Q6.out]; exact ((Bk.two.mul BD.out).mul BS.out).mul T4.out)
    have bv := side_bd rs tw un
    rw [V.out] at bv
    have buv := unit_mul bu bv
    clear RS e5
    have rD := ofZ_right (BD.out.small (by decide))
    go_upto_region 6 with (fail)
    refine wp_KBc W3 (W3.heap.size) (fun W => W.cell? ⟨A, 0, none⟩ = some (.int .i64 add1) ∧ W.cell? ⟨A, 1, none⟩ = some (.int .i64 s1) ∧ cn W A 2 n1 p1 l1 c1 ∧ cn W A 4 m1 q1 k1 d1 ∧ W.cell? ⟨B, 0, none⟩ = some (.int .i64 add2) ∧ W.cell? ⟨B, 1, none⟩ = some (.int .i64 s2) ∧ cn W B 2 n2 p2 l2 c2 ∧ cn W B 4 m2 q2 k2 d2 ∧ cn W g3 0 n14 p14 l14 c14 ∧ cn W g4 0 n15 p15 l15 c15 ∧ cn W g5 0 n16 p16 l16 c16) ?_
    intro hKeep
    repeat (first | refine F_s ?_ | refine F_r ?_)
    refine F_ns4 (ofZ dA) (ofZ dA) y1 y2 _ _ _ _ (by rfl) (by rfl) (by rfl) (by rfl) (by rfl) (by rfl) (by rfl) (fun W hW => ⟨N14c.out.ext hW.1, N14c.out.ext hW.1, Y13.out.ext hW.1, Y23.out.ext hW.1⟩) rD rD r2 r4 ?_
    intro ga
    refine F_put ?_
    repeat (first | refine F_s ?_ | refine F_r ?_)
    refine F_n W3 (ofZ t1) (fun W hW => times4E (ofZ dA) (ofZ dA) y1 y2 t1 ga 4 W hW.2 (small_prod4 (bz BD.out) (bz BD.out) T2.out T4.out (by decide)) (by rw [ofZ_z]; exact Q1.out)) ?_; intro n21 p21 l21 c21 hn21
    repeat (first | refine F_s ?_ | refine F_r ?_)
    refine F_ns2 x1 y2 _ _ (by rfl) (by rfl) (by rfl) (by rfl) (by rfl) (fun W hW => ⟨X13.out.ext hW.1.1.1, Y23.out.ext hW.1.1.1⟩) r1 r4 ?_
    intro gb
    refine F_put ?_
    repeat (first | refine F_s ?_ | refine F_r ?_)
    refine F_n W3 (ofZ t2) (fun W hW => times2E x1 y2 t2 gb 2 W hW.2 (small_prod2 T1.out T4.out (by decide)) Q2.out) ?_; intro n22 p22 l22 c22 hn22
    repeat (first | refine F_s ?_ | refine F_r ?_)
    refine F_ns2 x2 y1 _ _ (by rfl) (by rfl) (by rfl) (by rfl) (by rfl) (fun W hW => ⟨X23.out.ext hW.1.1.1.1.1, Y13.out.ext hW.1.1.1.1.1⟩) r3 r2 ?_
    intro gc
    refine F_put ?_
    repeat (first | refine F_s ?_ | refine F_r ?_)
    refine F_n W3 (ofZ t3) (fun W hW => times2E x2 y1 t3 gc 2 W hW.2 (small_prod2 T3.out T2.out (by decide)) Q3.out) ?_; intro n23 p23 l23 c23 hn23
    repeat (first | refine F_s ?_ | refine F_r ?_)
    refine F_n W3 (ofZ t4) (fun W hW => oppE t3 _ _ _ _ W hW.2 (B3.out.small (by decide)) t4 Q4.out (B4.out.small (by decide))) ?_; intro n24 p24 l24 c24 hn24
    repeat (first | refine F_s ?_ | refine F_r ?_)
    refine F_ns3 (ofZ t1) (ofZ t2) (ofZ t4) _ _ _ (by rfl) (by rfl) (by rfl) (by rfl) (by rfl) (by rfl) (fun W hW => ⟨hW.1.1.1.1.1.2, hW.1.1.1.2, hW.2⟩) (ofZ_right (B1.out.small (by decide))) (ofZ_right (B2.out.small (by decide))) (ofZ_right (B4.out.small (by decide))) ?_
    intro gd
    refine F_put ?_
    repeat (first | refine F_s ?_ | refine F_r ?_)
    refine F_n W3 (ofZ rs) (fun W hW => sum3E (ofZ t1) (ofZ t2) (ofZ t4) rs gd 3 W hW.2 (small_sum3 (bz B1.out) (bz (B2.out.mono (by decide))) (bz (B4.out.mono (by decide))) (by decide)) (by rw [ofZ_z, ofZ_z, ofZ_z]; exact Q5.out)) ?_; intro n25 p25 l25 c25 hn25
    repeat (first | refine F_s ?_ | refine F_r ?_)
    refine F_al ?_
    intro g6 hg6
    simp only [List.mem_cons, List.mem_range, not_or, Nat.not_lt] at hg6
    repeat (first | refine F_s ?_ | refine F_r ?_)
    refine F_w (fun W => _ ∧ NR W n25 p25 l25 c25 (ofZ rs)) (fun W hW => ⟨⟨hW.1.1.1.1.1.1.1.1.1.1, hW.1.2⟩, hW.2⟩) ?_
    repeat (first | refine F_s ?_ | refine F_r ?_)
    rintro W4 ⟨⟨⟨hS, nr25⟩, hb6⟩, _⟩
    obtain ⟨E34, _, a0', a1', a2', a3', a4', a5', b0', b1'', b2'', b3', b4', b5', g0', g1', s40, s41, s50, s51⟩ := hS
    have E4 : Ext w W4 := Ext.step E3 E34
    obtain ⟨s60, s61, _, hl6⟩ := pt_block hb6
    have hl3 : g3 < W4.heap.size := Nat.lt_of_lt_of_le hl3'' E34.size
    have hl4 : g4 < W4.heap.size := Nat.lt_of_lt_of_le hl4' E34.size
    have hl5 : g5 < W4.heap.size := Nat.lt_of_lt_of_le hl5' E34.size
    have N14d := Lib.hid (N14c.out.ext E34)
    have N15d := Lib.hid (N15c.out.ext E34)
    have N16d := Lib.hid (N16c.out.ext E34)
    have N25 := Lib.hid nr25
    have Y24 := Lib.hid (Y2.out.ext E4)
    clear a0 a1 a2 a3 a4 a5 b0 b1' b2' b3 b4 b5 g0 g1 s40' s41' s50' s51' hKeep E34 hl3'' hl4' hl5' N14c N15c N16c X13 Y13 X23 Y23 nr25 hb6
    have WUV : IntKind.i64.wrap (u * v) = u * v := IntWalk.i64_in _ (by omega)
    go_upto_region 7 with (fail)
    refine wp_KBc W4 (W4.heap.size) (fun W => W.cell? ⟨A, 0, none⟩ = some (.int .i64 add1) ∧ W.cell? ⟨A, 1, none⟩ = some (.int .i64 s1) ∧ cn W A 2 n1 p1 l1 c1 ∧ cn W A 4 m1 q1 k1 d1 ∧ W.cell? ⟨B, 0, none⟩ = some (.int .i64 add2) ∧ W.cell? ⟨B, 1, none⟩ = some (.int .i64 s2) ∧ cn W B 2 n2 p2 l2 c2 ∧ cn W B 4 m2 q2 k2 d2 ∧ cn W g3 0 n14 p14 l14 c14 ∧ cn W g4 0 n15 p15 l15 c15 ∧ cn W g5 0 n16 p16 l16 c16 ∧ cn W g6 0 n25 p25 l25 c25) ?_
    intro hKeep
    repeat (first | refine F_s ?_ | refine F_r ?_)
    refine F_n W4 (ofZ 2) (fun W hW => num_Of 2 _ (by decide) (by decide)) ?_; intro n26 p26 l26 c26 hn26
    repeat (first | refine F_s ?_ | refine F_r ?_)
    refine F_ns4 (ofZ 2) (ofZ dA) (ofZ s1) y2 _ _ _ _ (by rfl) (by rfl) (by rfl) (by rfl) (by rfl) (by rfl) (by rfl) (fun W hW => ⟨hW.2, N14d.out.ext hW.1.1, N15d.out.ext hW.1.1, Y24.out.ext hW.1.1⟩) (ofZ_right (Bk.two.small (by decide))) rD (ofZ_right (BS.out.small (by decide))) r4 ?_
    intro ge
    refine F_put ?_
    repeat (first | refine F_s ?_ | refine F_r ?_)
    refine F_n W4 (ofZ tw) (fun W hW => times4E (ofZ 2) (ofZ dA) (ofZ s1) y2 tw ge 4 W hW.2 (small_prod4 (bz Bk.two) (bz BD.out) (bz BS.out) T4.out (by decide)) (by rw [ofZ_z, ofZ_z, ofZ_z]; exact Q6.out)) ?_; intro n27 p27 l27 c27 hn27
    repeat (first | refine F_s ?_ | refine F_r ?_)
    refine F_c (.int .i64 v) (fun W hW => sideE rs tw un v _ _ _ _ _ _ _ _ _ _ _ _ 24 13 16 W (N25.out.ext hW.1.1.1.1) hW.2 (N16d.out.ext hW.1.1.1.1) B5.out B6.out BU.out (by decide) (by decide) V.out) ?_
    repeat (first | refine F_s ?_ | refine F_r ?_)
    rintro W5 ⟨⟨⟨hS, _⟩, _⟩, _⟩
    have E5 : Ext w W5 := Ext.step E4 hS.1
    clear hS
    go_wp2
    go_ret
    exact ⟨by rw [RS2.out]; rfl, E5⟩
  · have hne : (u == s2) = false := by simpa using huv
    have W1' : IntKind.i64.wrap (u - s2) = u - s2 := IntWalk.i64_in _ (by omega)
    have hmin := @run_minE Tryz.prog
    have hmax := @run_maxD Tryz.prog
    have RS : Hid (cmpR dA s1 x1.z y1.z s2 x2.z y2.z = max (min (u - s2) 1) (-1)) := Lib.hid (by rw [CUT.out, if_pos huv])
    clear CUT
    go_wp2
    go_ret
    exact ⟨by rw [RS.out]; rfl, E3⟩
end Go.Proofs.YtighahcllmoajaaGreat

namespace Go.Proofs.YtighahcllmoajaaGreat
open Go.RowKit
attribute [local go_sem] Gives givesU

set_option maxRecDepth 100000 in
set_option maxHeartbeats 1000000 in
theorem root_guarded_cmp (add1 s1 add2 s2 : Int) (x1 y1 x2 y2 : Nm) (n1 m1 n2 m2 : Bool) (p1 q1 p2 q2 : Option Addr) (l1 c1 k1 d1 l2 c2 k2 d2 A B : Nat) (w : World)
    (ra : RB w A add1 s1 n1 p1 l1 c1 m1 q1 k1 d1) (rb : RB w B add2 s2 n2 p2 l2 c2 m2 q2 k2 d2) (hx1 : NR w n1 p1 l1 c1 x1) (hy1 : NR w m1 q1 k1 d1 y1) (hx2 : NR w n2 p2 l2 c2 x2) (hy2 : NR w m2 q2 k2 d2 y2)
    (i1 : -9223372036854775808 ≤ add1 ∧ add1 ≤ 9223372036854775807) (i2 : -9223372036854775808 ≤ add2 ∧ add2 ≤ 9223372036854775807) (b1 : -1 ≤ s1 ∧ s1 ≤ 1) (b2 : -1 ≤ s2 ∧ s2 ≤ 1)
    (r1 : x1.right = true) (r2 : y1.right = true) (r3 : x2.right = true) (r4 : y2.right = true) (t1 : Bk 8 x1.z) (t2 : Bk 8 y1.z) (t3 : Bk 8 x2.z) (t4 : Bk 8 y2.z) (v : Int) (hv : cmpR (add1 - add2) s1 x1.z y1.z s2 x2.z y2.z = v) :
    Calls Tryz.prog 60 #[.func (.func 61) #[] #[.pointer (some ⟨A, 0, none⟩), .pointer (some ⟨B, 0, none⟩)]] w fun e w' => e = .returned (.int .i64 v) ∧ Ext w w' := by
  subst hv
  have hmf : ∀ (fn : Fn) (first cap : Array Value) (w : World), (Instr.makeFunc fn first cap).run Tryz.prog w = .ok (.func fn first cap) w := fun _ _ _ _ => rfl
  have hx0 : Ext w (w.alloc (.cells #[.int .i64 0] 3)) := bxx
  have CM := Lib.hid (root_Cmp1 add1 s1 add2 s2 x1 y1 x2 y2 n1 m1 n2 m2 p1 q1 p2 q2 l1 c1 k1 d1 l2 c2 k2 d2 A B _ (ra.ext hx0) (rb.ext hx0) (hx1.ext hx0) (hy1.ext hx0) (hx2.ext hx0) (hy2.ext hx0) i1 i2 b1 b2 r1 r2 r3 r4 t1 t2 t3 t4)
  clear ra rb hx1 hy1 hx2 hy2 r1 r2 r3 r4 t1 t2 t3 t4
  obtain ⟨v, V⟩ : ∃ v, Hid (cmpR (add1 - add2) s1 x1.z y1.z s2 x2.z y2.z = v) := ⟨_, Lib.hid rfl⟩
  rw [V.out] at CM ⊢
  go_enter_defers Tryz.func60, Tryz.ntmps60
  go_wp2_with fail
  refine CM.out.mono ?_
  rintro e w1 ⟨rfl, hx⟩
  have hx1 : Ext w w1 := Ext.step hx0 hx
  have hz_w1 : w.heap.size + 1 ≤ w1.heap.size := Nat.le_trans omm hx.size
  obtain ⟨hl_w1_0, hk_w1_0, hf_w1_0⟩ := extK hx (w.heap.size)
  go_wp2_with fail
  refine leaves_cons (f := 105) (args := #[.pointer (some ⟨w.heap.size, 0, none⟩)]) (by simp) (by simp [go_sem]) ?_
  refine (catch_idle ⟨w.heap.size, 0, none⟩ _).mono ?_
  rintro e u' w'' ⟨rfl, rfl, rfl⟩
  simp [Leaves, settle, results, Tryz.results60, go_sem, hk_w1_0]
  exact bxx
theorem Rt.Ok.bk {a : Rt} (h : a.Ok) (hd : Dig a.n.d ∧ Dig a.d.d) : Bk 8 a.n.z ∧ Bk 8 a.d.z := ⟨Bk.num hd.1 h.nl, Bk.num hd.2 h.dl⟩
theorem root_RightB (add s : Int) (x y : Nm) (b : Bool) (n m : Bool) (p q : Option Addr) (l c k d : Nat) (w : World) (hn : NR w n p l c x) (hd : NR w m q k d y) (hb : Rt.right ⟨add, s, x, y⟩ = b) :
    Calls Tryz.prog 24 #[.agg #[.int .i64 add, .int .i64 s, .bool n, .slice p l c, .bool m, .slice q k d]] w fun e w' => e = .returned (.bool b) ∧ Ext w w' := by
  subst hb
  exact root_Right add s x y n m p q l c k d w hn hd
set_option maxRecDepth 100000 in
set_option maxHeartbeats 4000000 in
theorem root_Cmp (add1 s1 add2 s2 : Int) (x1 y1 x2 y2 : Nm) (n1 m1 n2 m2 : Bool) (p1 q1 p2 q2 : Option Addr) (l1 c1 k1 d1 l2 c2 k2 d2 : Nat) (w : World)
    (hx1 : NR w n1 p1 l1 c1 x1) (hy1 : NR w m1 q1 k1 d1 y1) (hx2 : NR w n2 p2 l2 c2 x2) (hy2 : NR w m2 q2 k2 d2 y2)
    (i1 : -9223372036854775808 ≤ add1 ∧ add1 ≤ 9223372036854775807) (i2 : -9223372036854775808 ≤ add2 ∧ add2 ≤ 9223372036854775807) :
    Calls Tryz.prog 20 #[.agg #[.int .i64 add1, .int .i64 s1, .bool n1, .slice p1 l1 c1, .bool m1, .slice q1 k1 d1], .agg #[.int .i64 add2, .int .i64 s2, .bool n2, .slice p2 l2 c2, .bool m2, .slice q2 k2 d2]] w fun e w' => e = .returned (.int .i64 (cmpRt ⟨add1, s1, x1, y1⟩ ⟨add2, s2, x2, y2⟩)) ∧ Ext w w' := by
  have hmf : ∀ (fn : Fn) (first cap : Array Value) (w : World), (Instr.makeFunc fn first cap).run Tryz.prog w = .ok (.func fn first cap) w := fun _ _ _ _ => rfl
  have X1 := Lib.hid hx1
  have Y1 := Lib.hid hy1
  have X2 := Lib.hid hx2
  have Y2 := Lib.hid hy2
  clear hx1 hy1 hx2 hy2
  obtain ⟨b1, B1⟩ : ∃ b, Hid (Rt.right ⟨add1, s1, x1, y1⟩ = b) := ⟨_, Lib.hid rfl⟩
  obtain ⟨b2, B2⟩ : ∃ b, Hid (Rt.right ⟨add2, s2, x2, y2⟩ = b) := ⟨_, Lib.hid rfl⟩
  obtain ⟨v, V⟩ : ∃ v, Hid (cmpR (add1 - add2) s1 x1.z y1.z s2 x2.z y2.z = v) := ⟨_, Lib.hid rfl⟩
  have RES : Hid (cmpRt ⟨add1, s1, x1, y1⟩ ⟨add2, s2, x2, y2⟩ = if b1 && b2 then v else 0) := Lib.hid (by unfold cmpRt; rw [B1.out, B2.out]; simp only; rw [V.out])
  go_enter Tryz.func20, Tryz.ntmps20
  go_upto_region 1 with (fail)
  refine wp_know (fun W => Ext w W ∧ RB W w.heap.size add1 s1 n1 p1 l1 c1 m1 q1 k1 d1 ∧ RB W (w.heap.size + 1) add2 s2 n2 p2 l2 c2 m2 q2 k2 d2) ?_ ?_
  · exact ⟨bxx, RB.heap (heap_old (heap_new rfl)), RB.heap (heap_new (by simp))⟩
  rintro W0 ⟨ex, ra, rb⟩
  obtain ⟨e0, e1, e2, ⟨e3, e4⟩, ⟨e5, e6⟩, ef⟩ := id ra
  obtain ⟨h0, h1, h2, ⟨h3, h4⟩, ⟨h5, h6⟩, hf⟩ := id rb
  clear ef hf
  cases b1 with
  | false =>
    refine wp_FSc (fun W => W.cell? ⟨w.heap.size, 0, none⟩ = some (.int .i64 add1) ∧ W.cell? ⟨w.heap.size, 1, none⟩ = some (.int .i64 s1) ∧ cn W w.heap.size 2 n1 p1 l1 c1 ∧ cn W w.heap.size 4 m1 q1 k1 d1 ∧ W.cell? ⟨w.heap.size + 1, 0, none⟩ = some (.int .i64 add2) ∧ W.cell? ⟨w.heap.size + 1, 1, none⟩ = some (.int .i64 s2) ∧ cn W (w.heap.size + 1) 2 n2 p2 l2 c2 ∧ cn W (w.heap.size + 1) 4 m2 q2 k2 d2) ?_
    repeat (first | refine F_s ?_ | refine F_r ?_)
    refine F_c (.bool false) (fun W hW => root_RightB add1 s1 x1 y1 false _ _ _ _ _ _ _ _ W ((X1.out.ext ex).ext hW.1) ((Y1.out.ext ex).ext hW.1) B1.out) ?_
    repeat (first | refine F_s ?_ | refine F_r ?_)
    rintro W3 ⟨hx, _⟩
    go_wp2
    go_ret
    exact ⟨by rw [RES.out]; rfl, Ext.step ex hx⟩
  | true =>
  cases b2 with
  | false =>
    refine wp_FSc (fun W => W.cell? ⟨w.heap.size, 0, none⟩ = some (.int .i64 add1) ∧ W.cell? ⟨w.heap.size, 1, none⟩ = some (.int .i64 s1) ∧ cn W w.heap.size 2 n1 p1 l1 c1 ∧ cn W w.heap.size 4 m1 q1 k1 d1 ∧ W.cell? ⟨w.heap.size + 1, 0, none⟩ = some (.int .i64 add2) ∧ W.cell? ⟨w.heap.size + 1, 1, none⟩ = some (.int .i64 s2) ∧ cn W (w.heap.size + 1) 2 n2 p2 l2 c2 ∧ cn W (w.heap.size + 1) 4 m2 q2 k2 d2) ?_
    repeat (first | refine F_s ?_ | refine F_r ?_)
    refine F_c (.bool true) (fun W hW => root_RightB add1 s1 x1 y1 true _ _ _ _ _ _ _ _ W ((X1.out.ext ex).ext hW.1) ((Y1.out.ext ex).ext hW.1) B1.out) ?_
    repeat (first | refine F_s ?_ | refine F_r ?_)
    refine F_c (.bool false) (fun W hW => root_RightB add2 s2 x2 y2 false _ _ _ _ _ _ _ _ W ((X2.out.ext ex).ext hW.1) ((Y2.out.ext ex).ext hW.1) B2.out) ?_
    repeat (first | refine F_s ?_ | refine F_r ?_)
    rintro W3 ⟨hx, _⟩
    go_wp2
    go_ret
    exact ⟨by rw [RES.out]; rfl, Ext.step ex hx⟩
  | true =>
    obtain ⟨k1', _⟩ := right_ok (a := ⟨add1, s1, x1, y1⟩) X1.out.2.2.dig Y1.out.2.2.dig B1.out
    obtain ⟨k2', _⟩ := right_ok (a := ⟨add2, s2, x2, y2⟩) X2.out.2.2.dig Y2.out.2.2.dig B2.out
    have GD := Lib.hid (fun W (h : Ext W0 W) => root_guarded_cmp add1 s1 add2 s2 x1 y1 x2 y2 n1 m1 n2 m2 p1 q1 p2 q2 l1 c1 k1 d1 l2 c2 k2 d2 w.heap.size (w.heap.size + 1) W (ra.ext h) (rb.ext h) ((X1.out.ext ex).ext h) ((Y1.out.ext ex).ext h) ((X2.out.ext ex).ext h) ((Y2.out.ext ex).ext h) i1 i2 ⟨k1'.sl, k1'.su⟩ ⟨k2'.sl, k2'.su⟩ k1'.nr k1'.dr k2'.nr k2'.dr (k1'.bk ⟨X1.out.2.2.dig, Y1.out.2.2.dig⟩).1 (k1'.bk ⟨X1.out.2.2.dig, Y1.out.2.2.dig⟩).2 (k2'.bk ⟨X2.out.2.2.dig, Y2.out.2.2.dig⟩).1 (k2'.bk ⟨X2.out.2.2.dig, Y2.out.2.2.dig⟩).2 v V.out)
    clear k1' k2' i1 i2 ra rb
    refine wp_FSc (fun W => W.cell? ⟨w.heap.size, 0, none⟩ = some (.int .i64 add1) ∧ W.cell? ⟨w.heap.size, 1, none⟩ = some (.int .i64 s1) ∧ cn W w.heap.size 2 n1 p1 l1 c1 ∧ cn W w.heap.size 4 m1 q1 k1 d1 ∧ W.cell? ⟨w.heap.size + 1, 0, none⟩ = some (.int .i64 add2) ∧ W.cell? ⟨w.heap.size + 1, 1, none⟩ = some (.int .i64 s2) ∧ cn W (w.heap.size + 1) 2 n2 p2 l2 c2 ∧ cn W (w.heap.size + 1) 4 m2 q2 k2 d2) ?_
    repeat (first | refine F_s ?_ | refine F_r ?_)
    refine F_c (.bool true) (fun W hW => root_RightB add1 s1 x1 y1 true _ _ _ _ _ _ _ _ W ((X1.out.ext ex).ext hW.1) ((Y1.out.ext ex).ext hW.1) B1.out) ?_
    repeat (first | refine F_s ?_ | refine F_r ?_)
    refine F_c (.bool true) (fun W hW => root_RightB add2 s2 x2 y2 true _ _ _ _ _ _ _ _ W ((X2.out.ext ex).ext hW.1) ((Y2.out.ext ex).ext hW.1) B2.out) ?_
    repeat (first | refine F_s ?_ | refine F_r ?_)
    rintro W3 ⟨hx, _⟩
    clear X1 Y1 X2 Y2 e0 e1 e2 e3 e4 e5 e6 h0 h1 h2 h3 h4 h5 h6 V B1 B2
    go_wp2_with fail
    refine (GD.out _ hx).mono ?_
    rintro e W4 ⟨rfl, hx4⟩
    have hx5 : Ext w W4 := Ext.step (Ext.step ex hx) hx4
    go_wp2
    go_ret
    exact ⟨by rw [RES.out]; rfl, hx5⟩
end Go.Proofs.YtighahcllmoajaaGreat
