/- Contracts: etchantref01.Mod, etchantref02.Made. | Plain: the law of order; a number added to both roots. -/
import Derived.Test.YtghgggaimijcaaaGreatDoorJ28
import Derived.Test.YtghgggaimijcaaaGreatDoorJ24
import Derived.Test.YtghgggaimijcaaaGreatDoorJ21
import Derived.Test.YtghgggaimijcaaaGreatDoorJ23
import Derived.Test.YtghgggaimijcaaaGreatDoorJ22
set_option linter.unusedVariables false
set_option linter.unusedSimpArgs false

namespace Go.Proofs.YtghgggaimijcaaaGreatDoor
open Go.RowKit
attribute [local go_sem] Gives givesU

set_option maxRecDepth 100000 in
set_option maxHeartbeats 1000000 in
theorem r01_ModB (n m : Int) (w : World) (h : 0 < m ∧ m ≤ 4611686018427387904) (v : Int) (hv : modB n m = v) :
    Calls Tryz.prog 43 #[.int .i64 n, .int .i64 m] w fun e w' => e = .returned (.int .i64 v) ∧ Ext w w' := by
  subst hv
  obtain ⟨b1, b2⟩ := tmodB_bd n h.1
  obtain ⟨b3, b4⟩ := modB_bd n h.1
  have q1 : IntKind.i64.wrap (n.tmod m) = n.tmod m := wrapI (by omega) (by omega)
  have q2 : IntKind.i64.wrap (n.tmod m + m) = n.tmod m + m := wrapI (by omega) (by omega)
  have q3 : IntKind.i64.wrap ((n.tmod m + m).tmod m) = modB n m := by
    unfold modB at *
    exact wrapI (by omega) (by omega)
  have mb : (m == 0) = false := by rw [beq_eq_false_iff_ne]; omega
  have mn : m ≠ 0 := by omega
  clear b1 b2 b3 b4 h
  go_enter Tryz.func43, Tryz.ntmps43
  go_wp2
  go_ret
  exact ⟨rfl, bxx⟩
/-- What stays known in Made: its argument, and the result's variable. -/
def MkS (w W : World) (q0 q1 q2 q3 : Int) : Prop :=
  Ext w W ∧ (w.heap.size + 2 ≤ W.heap.size ∧ W.cell? ⟨w.heap.size, 0, none⟩ = some (.int .i64 q0) ∧ W.cell? ⟨w.heap.size, 1, none⟩ = some (.int .i64 q1) ∧ W.cell? ⟨w.heap.size, 2, none⟩ = some (.int .i64 q2) ∧ W.cell? ⟨w.heap.size, 3, none⟩ = some (.int .i64 q3)) ∧
  W.heap[w.heap.size + 1]? = some (.cells #[.int .i64 0, .int .i64 0, .bool false, .slice none 0 0, .bool false, .slice none 0 0] 32)
theorem MkS.ext {w W W' : World} {q0 q1 q2 q3 : Int} (h : MkS w W q0 q1 q2 q3) (hx : Ext W W') : MkS w W' q0 q1 q2 q3 := by
  obtain ⟨h0, ⟨h1, h2, h3, h4, h5⟩, h6⟩ := h
  have hl : w.heap.size < W.heap.size := by omega
  have hc : ∀ o, W'.cell? ⟨w.heap.size, o, none⟩ = W.cell? ⟨w.heap.size, o, none⟩ := fun o => hx.cell (p := ⟨w.heap.size, o, none⟩) hl
  exact ⟨Ext.step h0 hx, ⟨Nat.le_trans h1 hx.size, by rw [hc]; exact h2, by rw [hc]; exact h3, by rw [hc]; exact h4, by rw [hc]; exact h5⟩, heap_ext h6 hx⟩
theorem r02_mulG (a b : Nm) (z : Int) (na nb : Bool) (pa pb : Option Addr) (la ca lb cb : Nat) (w : World) (ha : NR w na pa la ca a) (hb : NR w nb pb lb cb b) (h : (mulP a b).1 = ofZ z) :
    Calls Tryz.prog 44 #[.agg #[.bool na, .slice pa la ca], .agg #[.bool nb, .slice pb lb cb]] w (RetN w (ofZ z)) := h ▸ r02_times a b na nb pa pb la ca lb cb w ha hb
set_option maxRecDepth 100000 in
set_option maxHeartbeats 8000000 in
theorem r02_Made (q0 q1 q2 q3 : Int) (w : World) (i0 : -9223372036854775808 ≤ q0 ∧ q0 ≤ 9223372036854775807) (i2 : -9223372036854775808 ≤ q2 ∧ q2 ≤ 9223372036854775807) :
    Calls Tryz.prog 14 #[.agg #[.int .i64 q0, .int .i64 q1, .int .i64 q2, .int .i64 q3]] w (RetRo w (madeR q0 q1 q2 q3)) := by
  have SM := made_small q0 q1 q2 q3
  have BG := made_big q0 q1 q2 q3 i2
  obtain ⟨b, HB⟩ : ∃ b, Hid (rootOf (q0.tmod 30) (modB q1 3 - 1) (madeN q1 q2 q3).toNat (1 + modB q3 12).toNat = b) := ⟨_, rfl⟩
  obtain ⟨c, HC⟩ : ∃ b, Hid (rootOf q0 (modB q1 3 - 1) (q2.natAbs * q2.natAbs) (1 + modB q3 1099511627776).toNat = b) := ⟨_, rfl⟩
  rw [HB.out] at SM
  rw [HC.out] at BG
  have RB0 : Hid (¬ q1.tmod 7 = 6 → madeR q0 q1 q2 q3 = b) := Lib.hid (fun h => by unfold madeR; rw [if_neg h, HB.out])
  have RC0 : Hid (q1.tmod 7 = 6 → madeR q0 q1 q2 q3 = c) := Lib.hid (fun h => by unfold madeR; rw [if_pos h, HC.out])
  obtain ⟨r, R⟩ : ∃ r, Hid (madeR q0 q1 q2 q3 = r) := ⟨_, Lib.hid rfl⟩
  rw [R.out] at RB0 RC0 ⊢
  have bn := madeN_bd q1 q2 q3
  have c1 := modB_bd q2 (m := 100) (by decide)
  have c2 := modB_bd q3 (m := 12) (by decide)
  have c3 := modB_bd q1 (m := 3) (by decide)
  have c4 := modB_bd q3 (m := 1099511627776) (by decide)
  have b30 := tmodB_bd q0 (m := 30) (by decide)
  have b5 := tmodB_bd q1 (m := 5) (by decide)
  have b7 := tmodB_bd q1 (m := 7) (by decide)
  obtain ⟨n0, N0⟩ : ∃ x, Hid (modB q2 100 = x) := ⟨_, Lib.hid rfl⟩
  obtain ⟨d0, D0⟩ : ∃ x, Hid (modB q3 12 = x) := ⟨_, Lib.hid rfl⟩
  obtain ⟨s0, S0⟩ : ∃ x, Hid (modB q1 3 = x) := ⟨_, Lib.hid rfl⟩
  obtain ⟨f0, F0⟩ : ∃ x, Hid (modB q3 1099511627776 = x) := ⟨_, Lib.hid rfl⟩
  rw [N0.out] at c1
  rw [D0.out] at c2 SM
  rw [S0.out] at c3 SM BG
  rw [F0.out] at c4 BG
  have NN : Hid (madeN q1 q2 q3 = if q1.tmod 5 = 4 then n0 * n0 * (1 + d0) else n0) := Lib.hid (by unfold madeN; rw [N0.out, D0.out])
  obtain ⟨nn, HN⟩ : ∃ x, Hid (madeN q1 q2 q3 = x) := ⟨_, Lib.hid rfl⟩
  rw [HN.out] at NN bn SM
  have hd0 : wrap64 (1 + d0) = 1 + d0 := IntWalk.wrap64_in _ ⟨by omega, by omega⟩
  have hs0 : wrap64 (s0 - 1) = s0 - 1 := IntWalk.wrap64_in _ ⟨by omega, by omega⟩
  have hf0 : IntKind.i64.wrap (1 + f0) = 1 + f0 := wrapI (by omega) (by omega)
  obtain ⟨d1, D1⟩ : ∃ x, Hid (1 + d0 = x) := ⟨_, Lib.hid rfl⟩
  obtain ⟨s1, S1⟩ : ∃ x, Hid (s0 - 1 = x) := ⟨_, Lib.hid rfl⟩
  obtain ⟨f1, F1⟩ : ∃ x, Hid (1 + f0 = x) := ⟨_, Lib.hid rfl⟩
  obtain ⟨a30, A30⟩ : ∃ x, Hid (q0.tmod 30 = x) := ⟨_, Lib.hid rfl⟩
  obtain ⟨t5, T5⟩ : ∃ x, Hid (q1.tmod 5 = x) := ⟨_, Lib.hid rfl⟩
  obtain ⟨t7, T7⟩ : ∃ x, Hid (q1.tmod 7 = x) := ⟨_, Lib.hid rfl⟩
  have k1 : 1 ≤ d1 ∧ d1 ≤ 12 := by have := D1.out; omega
  have k2 : 1 ≤ f1 ∧ f1 ≤ 1099511627776 := by have := F1.out; omega
  have hd1 : wrap64 (1 + d0) = d1 := hd0.trans D1.out
  have hs1 : wrap64 (s0 - 1) = s1 := hs0.trans S1.out
  have hf1 : IntKind.i64.wrap (1 + f0) = f1 := hf0.trans F1.out
  have h30 := A30.out
  have h5 := T5.out
  have h7 := T7.out
  clear hd0 hs0 hf0
  rw [D1.out] at SM NN
  rw [S1.out] at SM BG
  rw [F1.out] at BG
  rw [A30.out] at SM
  rw [T5.out] at NN
  rw [T7.out] at RB0 RC0
  have CS := Lib.hid (fun W n p l c m q k d (h1 : NR W n p l c (ofZ nn)) (h2 : NR W m q k d (ofZ d1)) => r02_OfE a30 s1 (ofZ nn) (ofZ d1) (b, true) n m p q l c k d W h1 h2 SM)
  obtain ⟨sq, SQ⟩ : ∃ z, Hid (((q2.natAbs * q2.natAbs : Nat) : Int) = z) := ⟨_, Lib.hid rfl⟩
  rw [SQ.out] at BG
  have CB := Lib.hid (fun W n p l c' m q k d (h1 : NR W n p l c' (ofZ sq)) (h2 : NR W m q k d (ofZ f1)) => r02_OfE q0 s1 (ofZ sq) (ofZ f1) (c, true) n m p q l c' k d W h1 h2 BG)
  have MU : Hid ((mulP ⟨false, (ofZ q2).d⟩ ⟨false, (ofZ q2).d⟩).1 = ofZ sq) := Lib.hid (by
    have e : (⟨false, (ofZ q2).d⟩ : Nm) = ofZ ((q2.natAbs : Nat) : Int) := by
      simp [ofZ]
    have hs : small ((q2.natAbs : Nat) : Int) = true := small_of_lt (k := 3) (by
      have : (9223372036854775809 : Nat) < 4294967296 ^ 3 := by decide +kernel
      omega) (by decide)
    rw [e]
    refine mul_ofZ (ofZ_right hs) (ofZ_right hs) (by rw [ofZ_z, ← SQ.out]; simp) ?_
    rw [← SQ.out]
    refine small_of_lt (k := 8) ?_ (by decide)
    rw [Int.natAbs_natCast]
    have hp : (9223372036854775809 * 9223372036854775809 : Nat) < 4294967296 ^ 8 := by decide +kernel
    have hq : q2.natAbs * q2.natAbs ≤ 9223372036854775809 * 9223372036854775809 := Nat.mul_le_mul (by omega) (by omega)
    omega)
  have I2 := Lib.hid i2
  have BN : Hid (-9223372036854775808 ≤ nn ∧ nn ≤ 9223372036854775807) := Lib.hid (by omega)
  have K1 : Hid (-9223372036854775808 ≤ d1 ∧ d1 ≤ 9223372036854775807) := Lib.hid (by omega)
  have K2 : Hid (-9223372036854775808 ≤ f1 ∧ f1 ≤ 9223372036854775807) := Lib.hid (by omega)
  have hm : t5 = 4 → wrap64 (n0 * n0) = n0 * n0 ∧ wrap64 (n0 * n0 * d1) = nn := by
    intro h
    have g1 : 0 ≤ n0 * n0 := Int.mul_nonneg c1.1 c1.1
    have g2 : n0 * n0 ≤ 99 * 99 := Int.mul_le_mul (by omega) (by omega) c1.1 (by decide)
    have e := NN.out
    rw [if_pos h] at e
    have g3 : 0 ≤ n0 * n0 * d1 := Int.mul_nonneg g1 (by omega)
    have g4 : n0 * n0 * d1 ≤ 99 * 99 * 12 := Int.mul_le_mul g2 (by omega) (by omega) (by decide)
    exact ⟨IntWalk.wrap64_in _ ⟨by omega, by omega⟩, (IntWalk.wrap64_in _ ⟨by omega, by omega⟩).trans e.symm⟩
  have HM := Lib.hid hm
  have hnn : ¬ t5 = 4 → n0 = nn := fun h => by have e := NN.out; rw [if_neg h] at e; exact e.symm
  have HNN := Lib.hid hnn
  clear i0 i2 bn c1 c2 c3 c4 b30 b5 b7 k1 k2 SM BG hm hnn
  go_enter Tryz.func14, Tryz.ntmps14
  go_upto_region 1 with (fail)
  refine wp_know (fun W => MkS w W q0 q1 q2 q3) ?_ ?_
  · exact ⟨bxx, ⟨by simp, by go_simp, by go_simp, by go_simp, by go_simp⟩, heap_new (by simp)⟩
  rintro W0 mk
  obtain ⟨ex, ⟨hs, a0, a1, a2, a3⟩, rr⟩ := id mk
  have hl : w.heap.size < W0.heap.size := by omega
  go_wp2_with fail
  refine (r01_ModB q2 100 W0 (by decide) n0 N0.out).mono ?_
  rintro e W1 ⟨rfl, hx⟩
  replace mk := mk.ext hx
  clear ex hs a0 a1 a2 a3 rr hl hx

  obtain ⟨ex, ⟨hs, a0, a1, a2, a3⟩, rr⟩ := id mk
  have hl : w.heap.size < W1.heap.size := by omega
  go_wp2_with fail
  refine (r01_ModB q3 12 W1 (by decide) d0 D0.out).mono ?_
  rintro e W2 ⟨rfl, hx⟩
  replace mk := mk.ext hx
  clear ex hs a0 a1 a2 a3 rr hl hx

  obtain ⟨ex, ⟨hs, a0, a1, a2, a3⟩, rr⟩ := id mk
  have hl : w.heap.size < W2.heap.size := by omega
  by_cases h4 : t5 = 4
  case' pos =>
    have hb4 : (t5 == 4) = true := by simpa using h4
    obtain ⟨hm1, hm2⟩ := HM.out h4
    clear h4 HM
    go_wp2_with fail
    refine (r01_ModB q1 3 W2 (by decide) s0 S0.out).mono ?_
    simp only [hd1, hm2]
    clear hm1 hm2
  case' neg =>
    have hb4 : (t5 == 4) = false := by simpa using h4
    obtain rfl : nn = n0 := (HNN.out h4).symm
    clear h4 HNN
    go_wp2_with fail
    refine (r01_ModB q1 3 W2 (by decide) s0 S0.out).mono ?_
    simp only [hd1]
  all_goals
    rintro e W3 ⟨rfl, hx⟩
    replace mk := mk.ext hx
    clear ex hs a0 a1 a2 a3 rr hl hx hb4

    obtain ⟨ex, ⟨hs, a0, a1, a2, a3⟩, rr⟩ := id mk
    have hl : w.heap.size < W3.heap.size := by omega
    go_upto_region 6 with (fail)
    simp only [hs1]
    refine wp_KB (W3.heap.size) (fun W => Ext W3 W ∧ W3.heap.size ≤ W.heap.size ∧ W.cell? ⟨w.heap.size, 0, none⟩ = some (.int .i64 q0) ∧ W.cell? ⟨w.heap.size, 1, none⟩ = some (.int .i64 q1) ∧ W.cell? ⟨w.heap.size, 2, none⟩ = some (.int .i64 q2) ∧ W.cell? ⟨w.heap.size, 3, none⟩ = some (.int .i64 q3)) ?_
    intro hKeep
    repeat (first | refine F_s ?_ | refine F_r ?_)
    refine F_num W3 (ofZ nn) (by rfl) (by rfl) (by intro W hW; (try dsimp only at hW); have hwW : W3.heap.size ≤ W.heap.size := (by have hzz := hW; (repeat (first | exact hzz.size | exact hzz.1.size | replace hzz := hzz.1))); go_simp; exact (r01_Of nn _ BN.out.1 BN.out.2).mono fun _ _ h => RetN.isN hwW h) ?_; intro n1 p1 l1 c1 hn1; refine F_put ?_
    repeat (first | refine F_s ?_ | refine F_r ?_)
    refine F_num W3 (ofZ d1) (by rfl) (by rfl) (by intro W hW; (try dsimp only at hW); have hwW : W3.heap.size ≤ W.heap.size := (by have hzz := hW; (repeat (first | exact hzz.size | exact hzz.1.size | replace hzz := hzz.1))); go_simp; exact (r01_Of d1 _ K1.out.1 K1.out.2).mono fun _ _ h => RetN.isN hwW h) ?_; intro n2 p2 l2 c2 hn2; refine F_put ?_
    repeat (first | refine F_s ?_ | refine F_r ?_)
    refine F_rootB (b, true) (by rfl) (by rfl) (by intro W hW; (try dsimp only at hW); go_simp; exact (CS.out W _ _ _ _ _ _ _ _ hW.1.2 hW.2).mono fun _ _ h => RetRt.isRb h) ?_; intro n3 p3 l3 c3 m3 q3' k3 d3; refine F_put ?_
    repeat (first | refine F_s ?_ | refine F_r ?_)
    refine F_al ?_
    intro g hg
    simp only [List.mem_cons, List.mem_range, not_or, Nat.not_lt] at hg
    repeat (first | refine F_s ?_ | refine F_r ?_)
    refine F_w (fun W => (_ ∧ NR W n3 p3 l3 c3 b.n) ∧ NR W m3 q3' k3 d3 b.d) (fun W hW => ⟨⟨⟨hW.1.1.1.1.1, hW.1.1.2⟩, hW.1.2⟩, hW.2⟩) ?_
    repeat (first | refine F_s ?_ | refine F_r ?_)
    rintro W4 ⟨⟨⟨⟨hS, nr1⟩, nr2⟩, hb⟩, _⟩
    have mk3 := mk
    replace mk := mk.ext hS.1
    have rv : RV W4 g b n3 p3 l3 c3 m3 q3' k3 d3 := ⟨RB.heap hb, nr1, nr2⟩
    have hgw : w.heap.size + 2 ≤ g := by omega
    have ex4 := hS.1
    clear hS nr1 nr2 hKeep ex hs a0 a1 a2 a3 rr hl hn1 hn2
    obtain ⟨ex, ⟨hs, a0, a1, a2, a3⟩, rr⟩ := id mk
    have hl : w.heap.size < W4.heap.size := by omega
    have hgl : g < W4.heap.size := rv.1.1
    rcases Decidable.em (t7 = 6) with h6 | h6
    · have hb6 : (t7 == 6) = true := by simpa using h6
      have E : Hid (r = c) := Lib.hid (RC0.out h6)
      clear h6 hs1 hd1 h30 h5
      go_wp2_with fail
      refine (r01_Of q2 _ I2.out.1 I2.out.2).mono ?_
      rintro e W5 ⟨n5, p5, l5, c5, rfl, nr5, _, hx⟩
      replace mk := mk.ext hx
      replace rv := rv.ext hx
      replace ex4 := Ext.step ex4 hx
      have hh := heap_ext hb hx
      have nrv : NR W5 false p5 l5 c5 ⟨false, (ofZ q2).d⟩ := ⟨rfl, nr5.2.1, nr5.2.2⟩
      clear nr5 hb hx ex hs a0 a1 a2 a3 rr hl hgl h7 hb6
      go_upto_region 10 with (fail)
      have xe : Ext W5 (W5.alloc (.cells #[.bool false, .slice p5 l5 c5] 25)) := bxx
      refine wp_know (fun W => Ext W3 W ∧ (W.heap[g]? = some (.cells #[.int .i64 b.add, .int .i64 b.s, .bool n3, .slice p3 l3 c3, .bool m3, .slice q3' k3 d3] 32) ∧ g < W5.heap.size) ∧ VB2 W W5.heap.size false p5 l5 c5 ⟨false, (ofZ q2).d⟩) ⟨Ext.step ex4 xe, ⟨heap_ext hh xe, rv.1.1⟩, VB2.heap (heap_new rfl) (nrv.alloc _)⟩ ?_
      clear rv ex4 hh nrv xe mk
      obtain ⟨V, HV⟩ : ∃ x, Hid (W5.heap.size = x) := ⟨_, Lib.hid rfl⟩
      rw [HV.out]
      rintro W6 ⟨ex6, ⟨hh, hgV⟩, vv0, vv1, vv2, vv3⟩
      have mk := mk3.ext ex6
      obtain ⟨ex, ⟨hs, a0, a1, a2, a3⟩, rr⟩ := id mk
      clear ex a1 a2 rr mk
      refine wp_GN (g) (.cells #[.int .i64 b.add, .int .i64 b.s, .bool n3, .slice p3 l3 c3, .bool m3, .slice q3' k3 d3] 32) (fun W => Ext W3 W ∧ W6.heap.size ≤ W.heap.size ∧ W.cell? ⟨w.heap.size, 0, none⟩ = some (.int .i64 q0) ∧ W.cell? ⟨w.heap.size, 3, none⟩ = some (.int .i64 q3) ∧ W.cell? ⟨V, 0, none⟩ = some (.bool false) ∧ W.cell? ⟨V, 1, none⟩ = some (.slice p5 l5 c5)) (fun W => NR W false p5 l5 c5 (⟨false, (ofZ q2).d⟩ : Nm)) ?_
      intro hSM hRKS
      repeat (first | refine F_s ?_ | refine F_r ?_)
      refine F_num { w with heap := #[] } (ofZ sq) (by rfl) (by rfl) (by intro W hW; (try dsimp only at hW); go_simp; exact (r02_mulG _ _ sq _ _ _ _ _ _ _ _ W hW.1.2 hW.1.2 MU.out).mono fun _ _ h => RetN.isN (Nat.zero_le _) h) ?_; intro n7 p7 l7 c7 _; refine F_put ?_
      repeat (first | refine F_s ?_ | refine F_r ?_)
      (refine F_call (v := .int .i64 f0) (by rfl) (by rfl) ?_ ?_; (· (intro W hW; (try dsimp only at hW); go_simp; refine (r01_ModB q3 1099511627776 W (by decide) f0 F0.out).mono ?_; rintro e w' ⟨rfl, hx⟩; exact ⟨_, rfl, rfl, hx⟩))); refine F_put ?_
      repeat (first | refine F_s ?_ | refine F_r ?_)
      refine F_num { w with heap := #[] } (ofZ f1) (by rfl) (by rfl) (by intro W hW; (try dsimp only at hW); go_simp; exact (r01_Of f1 _ K2.out.1 K2.out.2).mono fun _ _ h => RetN.isN (Nat.zero_le _) h) ?_; intro n8 p8 l8 c8 _; refine F_put ?_
      repeat (first | refine F_s ?_ | refine F_r ?_)
      refine F_rootB (c, true) (by rfl) (by rfl) (by intro W hW; (try dsimp only at hW); go_simp; exact (CB.out W _ _ _ _ _ _ _ _ hW.1.2 hW.2).mono fun _ _ h => RetRt.isRb h) ?_; intro n9 p9 l9 c9 m9 q9 k9 d9; refine F_put ?_
      repeat (first | refine F_s ?_ | refine F_r ?_)
      refine F_w (fun W => (_ ∧ NR W n9 p9 l9 c9 c.n) ∧ NR W m9 q9 k9 d9 c.d) (fun W hW => ⟨⟨⟨hW.1.1.1.1.1, hW.1.2⟩, hW.2⟩, hW.1.1.1.1.2⟩) ?_
      repeat (first | refine F_s ?_ | refine F_r ?_)
      rintro W7 ⟨⟨⟨⟨hS, nr1⟩, nr2⟩, hb⟩, _⟩
      have mk := mk3.ext hS.1.1
      obtain rfl : r = c := E.out
      have rv : RV W7 g r n9 p9 l9 c9 m9 q9 k9 d9 := ⟨RB.heap hb, nr1, nr2⟩
      clear hS nr1 nr2 hb hh vv0 vv1 vv2 vv3 a0 a3 hs ex6
      go_upto_region 11 with (fail)
      obtain ⟨⟨x0, x1, x2, ⟨x3, x4⟩, ⟨x5, x6⟩, xf⟩, nr1, nr2⟩ := rv
      obtain ⟨ex, _, rr⟩ := mk
      clear xf
      refine wp_GN (w.heap.size + 1) (.cells #[.int .i64 0, .int .i64 0, .bool false, .slice none 0 0, .bool false, .slice none 0 0] 32) (fun W => Ext w W ∧ W7.heap.size ≤ W.heap.size ∧ W.cell? ⟨g, 0, none⟩ = some (.int .i64 r.add) ∧ W.cell? ⟨g, 1, none⟩ = some (.int .i64 r.s) ∧ W.cell? ⟨g, 2, none⟩ = some (.bool n9) ∧ W.cell? ⟨g, 3, none⟩ = some (.slice p9 l9 c9) ∧ W.cell? ⟨g, 4, none⟩ = some (.bool m9) ∧ W.cell? ⟨g, 5, none⟩ = some (.slice q9 k9 d9)) (fun W => NR W n9 p9 l9 c9 r.n ∧ NR W m9 q9 k9 d9 r.d) ?_
      intro hSM hRKS
      repeat (first | refine F_s ?_ | refine F_r ?_)
      refine F_w (fun W => _) (fun W hW => hW) ?_
      repeat (first | refine F_s ?_ | refine F_r ?_)
      rintro Wb ⟨⟨⟨⟨hx, hz, hc⟩, k1', k2'⟩, hb⟩, _⟩
      obtain ⟨⟨c0, c1', c2, c3', c4, c5⟩, _, hl⟩ := cells6 hb
      clear hc hb nr1 nr2 x0 x1 x2 x3 x4 x5 x6
      go_wp2
      refine bodyPost_ret (v := .agg #[.int .i64 r.add, .int .i64 r.s, .bool n9, .slice p9 l9 c9, .bool m9, .slice q9 k9 d9]) (by simp only [results, Tryz.results14]; go_simp) rfl ?_
      exact ⟨n9, p9, l9, c9, m9, q9, k9, d9, rfl, k1', k2', hx⟩
    · have hb6 : (t7 == 6) = false := by simpa using h6
      obtain rfl : r = b := RB0.out h6
      clear h6 ex hs a0 a2 a3 rr hb
      go_upto_region 11 with (fail)
      obtain ⟨⟨x0, x1, x2, ⟨x3, x4⟩, ⟨x5, x6⟩, xf⟩, nr1, nr2⟩ := rv
      obtain ⟨ex, _, rr⟩ := mk
      clear xf
      refine wp_GN (w.heap.size + 1) (.cells #[.int .i64 0, .int .i64 0, .bool false, .slice none 0 0, .bool false, .slice none 0 0] 32) (fun W => Ext w W ∧ W4.heap.size ≤ W.heap.size ∧ W.cell? ⟨g, 0, none⟩ = some (.int .i64 r.add) ∧ W.cell? ⟨g, 1, none⟩ = some (.int .i64 r.s) ∧ W.cell? ⟨g, 2, none⟩ = some (.bool n3) ∧ W.cell? ⟨g, 3, none⟩ = some (.slice p3 l3 c3) ∧ W.cell? ⟨g, 4, none⟩ = some (.bool m3) ∧ W.cell? ⟨g, 5, none⟩ = some (.slice q3' k3 d3)) (fun W => NR W n3 p3 l3 c3 r.n ∧ NR W m3 q3' k3 d3 r.d) ?_
      intro hSM hRKS
      repeat (first | refine F_s ?_ | refine F_r ?_)
      refine F_w (fun W => _) (fun W hW => hW) ?_
      repeat (first | refine F_s ?_ | refine F_r ?_)
      rintro Wb ⟨⟨⟨⟨hx, hz, hc⟩, k1', k2'⟩, hb⟩, _⟩
      obtain ⟨⟨c0, c1', c2, c3', c4, c5⟩, _, hl⟩ := cells6 hb
      clear hc hb nr1 nr2 x0 x1 x2 x3 x4 x5 x6
      go_wp2
      refine bodyPost_ret (v := .agg #[.int .i64 r.add, .int .i64 r.s, .bool n3, .slice p3 l3 c3, .bool m3, .slice q3' k3 d3]) (by simp only [results, Tryz.results14]; go_simp) rfl ?_
      exact ⟨n3, p3, l3, c3, m3, q3', k3, d3, rfl, k1', k2', hx⟩
end Go.Proofs.YtghgggaimijcaaaGreatDoor

namespace Go.Proofs.YtghgggaimijcaaaGreatDoor
open Go.RowKit

/-- A right root, and all that is known of it. -/
def Rt.Gd (a : Rt) : Prop := a.Ok ∧ a.right = true ∧ Dig a.n.d ∧ Dig a.d.d
theorem made_gd (q0 q1 q2 q3 : Int) (h : -9223372036854775808 ≤ q2 ∧ q2 ≤ 9223372036854775807) : (madeR q0 q1 q2 q3).Gd := made_ok q0 q1 q2 q3 h
theorem cmpRt_gd {A B : Rt} (ha : A.Gd) (hb : B.Gd) : cmpRt A B = cmpR (A.add - B.add) A.s A.n.z A.d.z B.s B.n.z B.d.z := by
  unfold cmpRt
  rw [ha.2.1, hb.2.1]
  rfl
theorem order_law {A B C : Rt} (hA : A.Gd) (hB : B.Gd) (hC : C.Gd) {a b c : Int} (ha : cmpRt A B = a) (hb : cmpRt B C = b) (hc : cmpRt A C = c) :
    cmpRt B A = -a ∧ cmpRt A A = 0 ∧ (a = 1 ∨ a = 0 ∨ a = -1) ∧ (b = 1 ∨ b = 0 ∨ b = -1) ∧ (c = 1 ∨ c = 0 ∨ c = -1) ∧
    (a ≤ 0 → b ≤ 0 → c ≤ 0 ∧ (c = 0 → a = 0 ∧ b = 0)) ∧ (0 ≤ a → 0 ≤ b → 0 ≤ c ∧ (c = 0 → a = 0 ∧ b = 0)) := by
  rw [cmpRt_gd hA hB] at ha
  rw [cmpRt_gd hB hC] at hb
  rw [cmpRt_gd hA hC] at hc
  have t := cmp_trans hA.1 hB.1 hC.1 (cmpRt_sg hA.1 hB.1) (cmpRt_sg hB.1 hC.1) (cmpRt_sg hA.1 hC.1)
  rw [ha, hb, hc] at t
  refine ⟨by rw [cmpRt_gd hB hA, cmp_anti hA.1 hB.1, ha], by rw [cmpRt_gd hA hA, cmp_same hA.1], ?_, ?_, ?_, t⟩
  · rw [← ha]; exact cmp_bd hA.1 hB.1
  · rw [← hb]; exact cmp_bd hB.1 hC.1
  · rw [← hc]; exact cmp_bd hA.1 hC.1
theorem plus_gd {A : Rt} (h : A.Gd) (z : Int) : (Rt.mk z A.s A.n A.d).Gd := by
  obtain ⟨h1, h2, h3, h4⟩ := h
  have hp := ofP_plus (right_ok h3 h4 h2).2 z
  obtain ⟨k1, k2, _⟩ := ofP_ok h3 h4 hp
  exact ⟨k1, right_of k2 k1.nr k1.dr, h3, h4⟩
theorem plus_cmp {A B : Rt} (hA : A.Gd) (hB : B.Gd) (n : Int) : cmpRt ⟨A.add + n, A.s, A.n, A.d⟩ ⟨B.add + n, B.s, B.n, B.d⟩ = cmpRt A B := by
  rw [cmpRt_gd (plus_gd hA _) (plus_gd hB _), cmpRt_gd hA hB]
  show cmpR (A.add + n - (B.add + n)) _ _ _ _ _ _ = _
  rw [show A.add + n - (B.add + n) = A.add - B.add by omega]
theorem plus_sign {A : Rt} (hA : A.Gd) (n : Int) : cmpRt A ⟨A.add + n, A.s, A.n, A.d⟩ = sgn (-n) := by
  rw [cmpRt_gd hA (plus_gd hA _)]
  exact cmp_plus hA.1 (plus_gd hA (A.add + n)).1 n rfl rfl rfl rfl
theorem plus_back {A : Rt} (hA : A.Gd) (n : Int) (hi : inI A.add = true) : plusR ⟨A.add + n, A.s, A.n, A.d⟩ (-n) = (A, true) := by
  unfold plusR
  rw [(plus_gd hA _).2.1]
  show (if (true && inI (A.add + n + -n)) = true then ((⟨A.add + n + -n, A.s, A.n, A.d⟩ : Rt), true) else _) = _
  rw [show A.add + n + -n = A.add by omega, hi]
  rfl
theorem plus_ok {A : Rt} (hA : A.Gd) (n : Int) : plusR A n = if inI (A.add + n) then (⟨A.add + n, A.s, A.n, A.d⟩, true) else (Rt.no, false) := by
  unfold plusR
  rw [hA.2.1, Bool.true_and]
end Go.Proofs.YtghgggaimijcaaaGreatDoor
