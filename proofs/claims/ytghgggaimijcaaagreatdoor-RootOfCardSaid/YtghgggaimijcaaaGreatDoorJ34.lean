/- The walk of the law RootOf. -/
import Derived.Test.YtghgggaimijcaaaGreatDoorJ28
import Derived.Test.YtghgggaimijcaaaGreatDoorJ29
import Derived.Test.YtghgggaimijcaaaGreatDoorJ33
import Derived.Laws.BitsLemmas
set_option linter.unusedVariables false
set_option linter.unusedSimpArgs false

namespace Go.Proofs.YtghgggaimijcaaaGreatDoor
open Go.RowKit
attribute [local go_sem] Gives givesU

theorem i64_and255 (n : Int) : bits .and .i64 n 255 = n % 256 := by
  have h : (BitVec.ofInt 64 255).toNat = 2 ^ 8 - 1 := by decide
  have key : (BitVec.ofInt 64 n &&& BitVec.ofInt 64 255).toNat = (n % ((2 ^ 64 : Nat) : Int)).toNat % 2 ^ 8 := by
    rw [BitVec.toNat_and, BitVec.toNat_ofInt, h, Nat.and_two_pow_sub_one_eq_mod]
  show IntKind.i64.wrap ((BitVec.ofInt 64 n &&& BitVec.ofInt 64 255).toNat : Nat) = n % 256
  rw [key, IntKind.wrap_i64]
  omega
theorem i64_and63 (n : Int) : bits .and .i64 n 63 = n % 64 := by
  have h : (BitVec.ofInt 64 63).toNat = 2 ^ 6 - 1 := by decide
  have key : (BitVec.ofInt 64 n &&& BitVec.ofInt 64 63).toNat = (n % ((2 ^ 64 : Nat) : Int)).toNat % 2 ^ 6 := by
    rw [BitVec.toNat_and, BitVec.toNat_ofInt, h, Nat.and_two_pow_sub_one_eq_mod]
  show IntKind.i64.wrap ((BitVec.ofInt 64 n &&& BitVec.ofInt 64 63).toNat : Nat) = n % 64
  rw [key, IntKind.wrap_i64]
  omega
theorem cells4 {W : World} {g : Nat} {a0 a1 a2 a3 : Value} {T : TypeId} (h : W.heap[g]? = some (.cells #[a0, a1, a2, a3] T)) :
    (W.cell? ⟨g, 0, none⟩ = some a0 ∧ W.cell? ⟨g, 1, none⟩ = some a1 ∧ W.cell? ⟨g, 2, none⟩ = some a2 ∧ W.cell? ⟨g, 3, none⟩ = some a3) ∧ (∀ o, W.frozen? ⟨g, o, none⟩ = false) ∧ g < W.heap.size := by
  refine ⟨⟨?_, ?_, ?_, ?_⟩, fun o => ?_, (Array.getElem?_eq_some_iff.1 h).1⟩
  all_goals first | (rw [cell_of_row _ _ _ _ _ _ h]; rfl) | simp [World.frozen?, h]
set_option maxRecDepth 100000 in
set_option maxHeartbeats 16000000 in
theorem Of_core (q0 q1 : Int) (n1 n2 : Bool) (p1 p2 : Option Addr) (l1 c1 l2 c2 : Nat) (X1 X2 : Nm) (b0 b1 b2 b3 : Int) (w : World) (hq : ∀ z ∈ [q0, q1], In64 z) (hi : ∀ z ∈ [b0, b1, b2, b3], In64 z)
    (h1 : NR w n1 p1 l1 c1 X1) (h2 : NR w n2 p2 l2 c2 X2) (ht : Tab w) :
    Calls Tryz.prog 3 #[.agg #[.int .i64 q0, .int .i64 q1], .agg #[.bool n1, .slice p1 l1 c1, .bool n2, .slice p2 l2 c2], .agg #[.int .i64 b0, .int .i64 b1, .int .i64 b2, .int .i64 b3]] w fun e w' => e = .returned (.bool true) ∧ Ext w w' := by
  have TB := Lib.hid ht
  have H1 := Lib.hid (h1.short 12)
  have H2 := Lib.hid (h2.short 12)
  have S1 := Lib.hid (fun W => l02_short n1 p1 l1 c1 12 W (by have := h1.2.1; have := h1.2.2.le; omega))
  have S2 := Lib.hid (fun W => l02_short n2 p2 l2 c2 12 W (by have := h2.2.1; have := h2.2.2.le; omega))
  obtain ⟨m1, M1⟩ : ∃ m, Hid (min l1 12 = m) := ⟨_, Lib.hid rfl⟩
  obtain ⟨m2, M2⟩ : ∃ m, Hid (min l2 12 = m) := ⟨_, Lib.hid rfl⟩
  rw [M1.out] at H1 S1
  rw [M2.out] at H2 S2
  obtain ⟨N, HN⟩ : ∃ x, Hid ((⟨X1.neg, X1.d.take 12⟩ : Nm) = x) := ⟨_, Lib.hid rfl⟩
  obtain ⟨D, HD⟩ : ∃ x, Hid ((⟨X2.neg, X2.d.take 12⟩ : Nm) = x) := ⟨_, Lib.hid rfl⟩
  rw [HN.out] at H1
  rw [HD.out] at H2
  have J0 : Hid (In64 q0) := Lib.hid (hq q0 (by simp))
  have an0 := i64_and255 b2
  have an1 := i64_and63 b3
  obtain ⟨r0, R0⟩ : ∃ r, Hid (b2 % 256 = r) := ⟨_, Lib.hid rfl⟩
  obtain ⟨r1, R1⟩ : ∃ r, Hid (b3 % 64 = r) := ⟨_, Lib.hid rfl⟩
  have K0 : Hid (-9223372036854775808 ≤ r0 ∧ r0 ≤ 9223372036854775807) := Lib.hid (by have := R0.out; omega)
  have K1 : Hid (-9223372036854775808 ≤ r1 ∧ r1 ≤ 9223372036854775807) := Lib.hid (by have := R1.out; omega)
  rw [R0.out] at an0
  rw [R1.out] at an1
  have MK := Lib.hid (fun W => r02_Made b0 b1 b2 b3 W (hi b0 (by simp)) (hi b2 (by simp)))
  have MG := Lib.hid (made_gd b0 b1 b2 b3 (hi b2 (by simp)))
  have MI := Lib.hid (made_add b0 b1 b2 b3 (hi b0 (by simp)))
  obtain ⟨A, HA⟩ : ∃ A, Hid (madeR b0 b1 b2 b3 = A) := ⟨_, Lib.hid rfl⟩
  rw [HA.out] at MK MG MI
  have MR : Hid (Rt.right ⟨A.add, A.s, A.n, A.d⟩ = true) := Lib.hid MG.out.2.1
  clear ht hq hi h1 h2 HA MG
  go_enter Tryz.func3, Tryz.ntmps3
  go_wp2_with fail
  refine (law_sanity2 _ (TB.out.ext bxx)).mono ?_
  rintro e w1 ⟨rfl, hx⟩
  have ex1 : Ext w w1 := Ext.step bxx hx
  have hA := heap_ext (heap_old (heap_old (heap_new (W := w) rfl))) hx
  have hB := heap_ext (heap_old (heap_new (r := w.heap.size + 1) (by simp))) hx
  have hC := heap_ext (heap_new (r := w.heap.size + 1 + 1) (by simp)) hx
  clear hx
  go_upto_region 2 with (fail)
  refine wp_know (fun W => Ext w W ∧ IRow W w.heap.size [q0, q1] ∧ (W.cell? ⟨w.heap.size + 1, 0, none⟩ = some (.bool n1) ∧ W.cell? ⟨w.heap.size + 1, 1, none⟩ = some (.slice p1 l1 c1) ∧ W.cell? ⟨w.heap.size + 1, 2, none⟩ = some (.bool n2) ∧ W.cell? ⟨w.heap.size + 1, 3, none⟩ = some (.slice p2 l2 c2) ) ∧ IRow W (w.heap.size + 1 + 1) [b0, b1, b2, b3] ∧ w.heap.size + 2 < W.heap.size) ⟨ex1, IRow.heap hA rfl, ?_, IRow.heap hC rfl, (Array.getElem?_eq_some_iff.1 hC).1⟩ ?_
  · refine ⟨?_, ?_, ?_, ?_⟩ <;> (rw [cell_of_row _ _ _ _ _ _ hB]; rfl)
  clear hA hB hC ex1
  rintro W0 ⟨ex, iq, ⟨x0, x1, x2, x3⟩, im, hl⟩
  have hl1 : w.heap.size + 1 < W0.heap.size := by omega
  refine wp_KB (W0.heap.size) (fun W => Ext W0 W ∧ W0.heap.size ≤ W.heap.size ∧ W.cell? ⟨w.heap.size + 1, 0, none⟩ = some (.bool n1) ∧ W.cell? ⟨w.heap.size + 1, 1, none⟩ = some (.slice p1 l1 c1)) ?_
  intro hKeep
  repeat (first | refine F_s ?_ | refine F_r ?_)
  (refine F_call (v := .agg #[.bool n1, .slice p1 m1 c1]) (by rfl) (by rfl) ?_ ?_; (· (intro W hW; (try dsimp only at hW); go_simp; refine (S1.out W).mono ?_; rintro e w' ⟨rfl, hx⟩; exact ⟨_, rfl, rfl, hx⟩))); refine F_put ?_
  repeat (first | refine F_s ?_ | refine F_r ?_)
  refine F_al ?_
  intro gn hgn
  simp only [List.mem_cons, List.mem_range, not_or, Nat.not_lt] at hgn
  repeat (first | refine F_s ?_ | refine F_r ?_)
  refine F_w (fun W => _) (fun W hW => hW) ?_
  repeat (first | refine F_s ?_ | refine F_r ?_)
  rintro W2 ⟨⟨hS, hb⟩, _⟩
  have hx := hS.1
  replace ex := Ext.step ex hx
  replace iq := iq.ext hx
  replace im := im.ext hx
  replace x2 := (hx.cell (p := ⟨w.heap.size + 1, 2, none⟩) hl1).trans x2
  replace x3 := (hx.cell (p := ⟨w.heap.size + 1, 3, none⟩) hl1).trans x3
  have vn := VB2.heap hb (H1.out.ext ex)
  clear hS hb hKeep hgn x0 x1 S1
  replace hl1 := Nat.lt_of_lt_of_le hl1 hx.size
  clear hx hl
  go_upto_region 3 with (fail)
  refine wp_KB (W2.heap.size) (fun W => Ext W2 W ∧ W2.heap.size ≤ W.heap.size ∧ W.cell? ⟨w.heap.size + 1, 2, none⟩ = some (.bool n2) ∧ W.cell? ⟨w.heap.size + 1, 3, none⟩ = some (.slice p2 l2 c2)) ?_
  intro hKeep
  repeat (first | refine F_s ?_ | refine F_r ?_)
  (refine F_call (v := .agg #[.bool n2, .slice p2 m2 c2]) (by rfl) (by rfl) ?_ ?_; (· (intro W hW; (try dsimp only at hW); go_simp; refine (S2.out W).mono ?_; rintro e w' ⟨rfl, hx⟩; exact ⟨_, rfl, rfl, hx⟩))); refine F_put ?_
  repeat (first | refine F_s ?_ | refine F_r ?_)
  refine F_al ?_
  intro gd hgd
  simp only [List.mem_cons, List.mem_range, not_or, Nat.not_lt] at hgd
  repeat (first | refine F_s ?_ | refine F_r ?_)
  refine F_w (fun W => _) (fun W hW => hW) ?_
  repeat (first | refine F_s ?_ | refine F_r ?_)
  rintro W3 ⟨⟨hS, hb⟩, _⟩
  have hx := hS.1
  replace ex := Ext.step ex hx
  replace iq := iq.ext hx
  replace im := im.ext hx
  replace vn := vn.ext hx
  have vd := VB2.heap hb (H2.out.ext ex)
  clear hS hb hKeep hgd x2 x3 S2 hx hl1 H1 H2
  have y2 := im.2 2 _ rfl
  have y3 := im.2 3 _ rfl
  have iml := im.1
  go_upto_region 4 with (fail)
  refine wp_KB (W3.heap.size) (fun W => Ext W3 W ∧ W3.heap.size ≤ W.heap.size ∧ W.cell? ⟨w.heap.size + 1 + 1, 2, none⟩ = some (.int .i64 b2) ∧ W.cell? ⟨w.heap.size + 1 + 1, 3, none⟩ = some (.int .i64 b3)) ?_
  intro hKeep
  repeat (first | refine F_s ?_ | refine F_r ?_)
  refine F_num W3 (ofZ r0) (by rfl) (by rfl) (by intro W hW; (try dsimp only at hW); have hwW : W3.heap.size ≤ W.heap.size := (by have hzz := hW; (repeat (first | exact hzz.size | exact hzz.1.size | replace hzz := hzz.1))); go_simp; exact (l02_of r0 _ K0.out.1 K0.out.2).mono fun _ _ h => RetN.isN hwW h) ?_; intro n3 p3 l3 c3 hn3; refine F_put ?_
  repeat (first | refine F_s ?_ | refine F_r ?_)
  refine F_num W3 (ofZ r1) (by rfl) (by rfl) (by intro W hW; (try dsimp only at hW); have hwW : W3.heap.size ≤ W.heap.size := (by have hzz := hW; (repeat (first | exact hzz.size | exact hzz.1.size | replace hzz := hzz.1))); go_simp; exact (l02_of r1 _ K1.out.1 K1.out.2).mono fun _ _ h => RetN.isN hwW h) ?_; intro n4 p4 l4 c4 hn4; refine F_put ?_
  repeat (first | refine F_s ?_ | refine F_r ?_)
  refine F_al ?_
  intro gs hgs
  simp only [List.mem_cons, List.mem_range, not_or, Nat.not_lt] at hgs
  repeat (first | refine F_s ?_ | refine F_r ?_)
  refine F_w (fun W => (_ ∧ NR W n3 p3 l3 c3 (ofZ r0)) ∧ NR W n4 p4 l4 c4 (ofZ r1)) (fun W hW => hW) ?_
  repeat (first | refine F_s ?_ | refine F_r ?_)
  rintro V ⟨⟨⟨⟨hS, a3⟩, a4⟩, hb⟩, _⟩
  have hx := hS.1
  replace ex := Ext.step ex hx
  replace iq := iq.ext hx
  replace im := im.ext hx
  replace vn := vn.ext hx
  replace vd := vd.ext hx
  clear hS hKeep hgs hx y2 y3 iml hn3 hn4 an0 an1
  have HB := Lib.hid hb
  have A3 := Lib.hid a3
  have A4 := Lib.hid a4
  have IM := Lib.hid im
  have VN := Lib.hid vn
  have VD := Lib.hid vd
  have IQ := Lib.hid iq
  clear hb a3 a4 im vn vd iq
  go_wp2_with fail
  go_loopw [11] (fun t wr => ∃ s : Int, -2 ≤ s ∧ s ≤ 3 ∧ t = .int .i64 s ∧ Ext V wr) (fun t _ => (3 - intOf t).toNat)
  case atStart => exact ⟨-2, by omega, by omega, rfl, Below.refl _ _⟩
  case round =>
    obtain ⟨s, hs1, hs2, rfl, hv⟩ := hrel
    by_cases hlt : s ≤ 2
    · have dlt : decide (s ≤ 2) = true := by simpa using hlt
      have hw1 : wrap64 (s + 1) = s + 1 := IntWalk.wrap64_in _ ⟨by omega, by omega⟩
      obtain ⟨⟨E, e⟩, PE⟩ : ∃ r, Hid (ofP q0 s N D = r) := ⟨_, Lib.hid rfl⟩
      obtain ⟨⟨G, g⟩, PG⟩ : ∃ r, Hid (ofP q0 s (ofZ r0) (ofZ r1) = r) := ⟨_, Lib.hid rfl⟩
      have he : (e != e) = false := by simp
      have hg : (g != g) = false := by simp
      obtain ⟨nl, n5, n6, nn⟩ := VN.out.ext hv
      obtain ⟨dl, d5, d6, dd⟩ := VD.out.ext hv
      have q5 := (IQ.out.ext hv).2 0 _ rfl
      have ql := (IQ.out.ext hv).1
      have NN := Lib.hid nn
      have DD := Lib.hid dd
      clear nn dd
      go_upto_region 8 with (fail)
      refine wp_KB (wr.heap.size) (fun W => Ext wr W ∧ wr.heap.size ≤ W.heap.size ∧ W.cell? ⟨w.heap.size, 0, none⟩ = some (.int .i64 q0) ∧ W.cell? ⟨gn, 0, none⟩ = some (.bool n1) ∧ W.cell? ⟨gn, 1, none⟩ = some (.slice p1 m1 c1) ∧ W.cell? ⟨gd, 0, none⟩ = some (.bool n2) ∧ W.cell? ⟨gd, 1, none⟩ = some (.slice p2 m2 c2)) ?_
      intro hKeep
      repeat (first | refine F_s ?_ | refine F_r ?_)
      refine F_rootB (E, e) (by rfl) (by rfl) (by intro W hW; (try dsimp only at hW); go_simp; exact (root_OfE q0 s N D (E, e) _ _ _ _ _ _ _ _ W (NN.out.ext hW.1) (DD.out.ext hW.1) PE.out).mono fun _ _ h => RetRt.isRb h) ?_; intro n7 p7 l7 c7 m7 q7 k7 d7; refine F_put ?_
      repeat (first | refine F_s ?_ | refine F_r ?_)
      refine F_al ?_
      intro ga hga
      simp only [List.mem_cons, List.mem_range, not_or, Nat.not_lt] at hga
      repeat (first | refine F_s ?_ | refine F_r ?_)
      refine F_w (fun W => (_ ∧ NR W n7 p7 l7 c7 E.n) ∧ NR W m7 q7 k7 d7 E.d) (fun W hW => hW) ?_
      repeat (first | refine F_s ?_ | refine F_r ?_)
      rintro W8 ⟨⟨⟨⟨hS, nr1⟩, nr2⟩, hb⟩, _⟩
      have ra : RV W8 ga E n7 p7 l7 c7 m7 q7 k7 d7 := ⟨RB.heap hb, nr1, nr2⟩
      replace hv := Ext.step hv hS.1
      clear hS hb hKeep hga nr1 nr2 n5 n6 d5 d6 q5 nl dl ql NN DD
      obtain ⟨nl, n5, n6, nn⟩ := VN.out.ext hv
      obtain ⟨dl, d5, d6, dd⟩ := VD.out.ext hv
      have q5 := (IQ.out.ext hv).2 0 _ rfl
      have ql := (IQ.out.ext hv).1
      have NN := Lib.hid nn
      have DD := Lib.hid dd
      clear nn dd
      go_upto_region 9 with (fail)
      refine wp_KB (W8.heap.size) (fun W => Ext W8 W ∧ W8.heap.size ≤ W.heap.size ∧ W.cell? ⟨w.heap.size, 0, none⟩ = some (.int .i64 q0) ∧ W.cell? ⟨gn, 0, none⟩ = some (.bool n1) ∧ W.cell? ⟨gn, 1, none⟩ = some (.slice p1 m1 c1) ∧ W.cell? ⟨gd, 0, none⟩ = some (.bool n2) ∧ W.cell? ⟨gd, 1, none⟩ = some (.slice p2 m2 c2)) ?_
      intro hKeep
      repeat (first | refine F_s ?_ | refine F_r ?_)
      refine F_rootB (E, e) (by rfl) (by rfl) (by intro W hW; (try dsimp only at hW); go_simp; exact (r02_OfE q0 s N D (E, e) _ _ _ _ _ _ _ _ W (NN.out.ext hW.1) (DD.out.ext hW.1) PE.out).mono fun _ _ h => RetRt.isRb h) ?_; intro n8 p8 l8 c8 m8 q8 k8 d8; refine F_put ?_
      repeat (first | refine F_s ?_ | refine F_r ?_)
      refine F_al ?_
      intro gb hgb
      simp only [List.mem_cons, List.mem_range, not_or, Nat.not_lt] at hgb
      repeat (first | refine F_s ?_ | refine F_r ?_)
      refine F_w (fun W => (_ ∧ NR W n8 p8 l8 c8 E.n) ∧ NR W m8 q8 k8 d8 E.d) (fun W hW => hW) ?_
      repeat (first | refine F_s ?_ | refine F_r ?_)
      rintro W9 ⟨⟨⟨⟨hS, nr1⟩, nr2⟩, hb⟩, _⟩
      have rb : RV W9 gb E n8 p8 l8 c8 m8 q8 k8 d8 := ⟨RB.heap hb, nr1, nr2⟩
      replace hv := Ext.step hv hS.1
      replace ra := ra.ext hS.1
      clear hS hb hKeep hgb nr1 nr2 n5 n6 d5 d6 q5 nl dl ql NN DD
      obtain ⟨⟨s0, s1, s2, s3⟩, _, hgl⟩ := cells4 (heap_ext HB.out hv)
      have q5 := (IQ.out.ext hv).2 0 _ rfl
      have ql := (IQ.out.ext hv).1
      have NN := Lib.hid (A3.out.ext hv)
      have DD := Lib.hid (A4.out.ext hv)
      go_upto_region 10 with (fail)
      refine wp_KB (W9.heap.size) (fun W => Ext W9 W ∧ W9.heap.size ≤ W.heap.size ∧ W.cell? ⟨w.heap.size, 0, none⟩ = some (.int .i64 q0) ∧ W.cell? ⟨gs, 0, none⟩ = some (.bool n3) ∧ W.cell? ⟨gs, 1, none⟩ = some (.slice p3 l3 c3) ∧ W.cell? ⟨gs, 2, none⟩ = some (.bool n4) ∧ W.cell? ⟨gs, 3, none⟩ = some (.slice p4 l4 c4)) ?_
      intro hKeep
      repeat (first | refine F_s ?_ | refine F_r ?_)
      refine F_rootB (G, g) (by rfl) (by rfl) (by intro W hW; (try dsimp only at hW); go_simp; exact (root_OfE q0 s (ofZ r0) (ofZ r1) (G, g) _ _ _ _ _ _ _ _ W (NN.out.ext hW.1) (DD.out.ext hW.1) PG.out).mono fun _ _ h => RetRt.isRb h) ?_; intro n9 p9 l9 c9 m9 q9 k9 d9; refine F_put ?_
      repeat (first | refine F_s ?_ | refine F_r ?_)
      refine F_al ?_
      intro gx hgx
      simp only [List.mem_cons, List.mem_range, not_or, Nat.not_lt] at hgx
      repeat (first | refine F_s ?_ | refine F_r ?_)
      refine F_w (fun W => (_ ∧ NR W n9 p9 l9 c9 G.n) ∧ NR W m9 q9 k9 d9 G.d) (fun W hW => hW) ?_
      repeat (first | refine F_s ?_ | refine F_r ?_)
      rintro W10 ⟨⟨⟨⟨hS, nr1⟩, nr2⟩, hb⟩, _⟩
      have rx : RV W10 gx G n9 p9 l9 c9 m9 q9 k9 d9 := ⟨RB.heap hb, nr1, nr2⟩
      replace hv := Ext.step hv hS.1
      replace ra := ra.ext hS.1
      replace rb := rb.ext hS.1
      clear hS hb hKeep hgx nr1 nr2 s0 s1 s2 s3 q5 ql hgl NN DD
      obtain ⟨⟨s0, s1, s2, s3⟩, _, hgl⟩ := cells4 (heap_ext HB.out hv)
      have q5 := (IQ.out.ext hv).2 0 _ rfl
      have ql := (IQ.out.ext hv).1
      have NN := Lib.hid (A3.out.ext hv)
      have DD := Lib.hid (A4.out.ext hv)
      go_upto_region 11 with (fail)
      refine wp_KB (W10.heap.size) (fun W => Ext W10 W ∧ W10.heap.size ≤ W.heap.size ∧ W.cell? ⟨w.heap.size, 0, none⟩ = some (.int .i64 q0) ∧ W.cell? ⟨gs, 0, none⟩ = some (.bool n3) ∧ W.cell? ⟨gs, 1, none⟩ = some (.slice p3 l3 c3) ∧ W.cell? ⟨gs, 2, none⟩ = some (.bool n4) ∧ W.cell? ⟨gs, 3, none⟩ = some (.slice p4 l4 c4)) ?_
      intro hKeep
      repeat (first | refine F_s ?_ | refine F_r ?_)
      refine F_rootB (G, g) (by rfl) (by rfl) (by intro W hW; (try dsimp only at hW); go_simp; exact (r02_OfE q0 s (ofZ r0) (ofZ r1) (G, g) _ _ _ _ _ _ _ _ W (NN.out.ext hW.1) (DD.out.ext hW.1) PG.out).mono fun _ _ h => RetRt.isRb h) ?_; intro n0 p0 l0 c0 m0 q6 k0 d0; refine F_put ?_
      repeat (first | refine F_s ?_ | refine F_r ?_)
      refine F_al ?_
      intro gy hgy
      simp only [List.mem_cons, List.mem_range, not_or, Nat.not_lt] at hgy
      repeat (first | refine F_s ?_ | refine F_r ?_)
      refine F_w (fun W => (_ ∧ NR W n0 p0 l0 c0 G.n) ∧ NR W m0 q6 k0 d0 G.d) (fun W hW => hW) ?_
      repeat (first | refine F_s ?_ | refine F_r ?_)
      rintro W11 ⟨⟨⟨⟨hS, nr1⟩, nr2⟩, hb⟩, _⟩
      have ry : RV W11 gy G n0 p0 l0 c0 m0 q6 k0 d0 := ⟨RB.heap hb, nr1, nr2⟩
      replace hv := Ext.step hv hS.1
      replace ra := ra.ext hS.1
      replace rb := rb.ext hS.1
      replace rx := rx.ext hS.1
      clear hS hb hKeep hgy nr1 nr2 s0 s1 s2 s3 q5 ql hgl NN DD PE PG
      obtain ⟨⟨a0, a1, a2, ⟨a3, a4⟩, ⟨a5, a6⟩, af⟩, an, ad⟩ := ra
      have Han := Lib.hid an
      have Had := Lib.hid ad
      clear af an ad
      obtain ⟨⟨b0, b1, b2, ⟨b3, b4⟩, ⟨b5, b6⟩, bf⟩, bn, bd⟩ := rb
      have Hbn := Lib.hid bn
      have Hbd := Lib.hid bd
      clear bf bn bd
      obtain ⟨⟨x0, x1, x2, ⟨x3, x4⟩, ⟨x5, x6⟩, xf⟩, xn, xd⟩ := rx
      have Hxn := Lib.hid xn
      have Hxd := Lib.hid xd
      clear xf xn xd
      obtain ⟨⟨y0, y1, y2, ⟨y3, y4⟩, ⟨y5, y6⟩, yf⟩, yn, yd⟩ := ry
      have Hyn := Lib.hid yn
      have Hyd := Lib.hid yd
      clear yf yn yd
      go_upto_region 12 with (fail)
      refine wp_FS (fun W => W.cell? ⟨ga, 0, none⟩ = some (.int .i64 E.add) ∧ W.cell? ⟨ga, 1, none⟩ = some (.int .i64 E.s) ∧ W.cell? ⟨ga, 2, none⟩ = some (.bool n7) ∧ W.cell? ⟨ga, 3, none⟩ = some (.slice p7 l7 c7) ∧ W.cell? ⟨ga, 4, none⟩ = some (.bool m7) ∧ W.cell? ⟨ga, 5, none⟩ = some (.slice q7 k7 d7) ∧ W.cell? ⟨gb, 0, none⟩ = some (.int .i64 E.add) ∧ W.cell? ⟨gb, 1, none⟩ = some (.int .i64 E.s) ∧ W.cell? ⟨gb, 2, none⟩ = some (.bool n8) ∧ W.cell? ⟨gb, 3, none⟩ = some (.slice p8 l8 c8) ∧ W.cell? ⟨gb, 4, none⟩ = some (.bool m8) ∧ W.cell? ⟨gb, 5, none⟩ = some (.slice q8 k8 d8) ∧ W.cell? ⟨gx, 0, none⟩ = some (.int .i64 G.add) ∧ W.cell? ⟨gx, 1, none⟩ = some (.int .i64 G.s) ∧ W.cell? ⟨gx, 2, none⟩ = some (.bool n9) ∧ W.cell? ⟨gx, 3, none⟩ = some (.slice p9 l9 c9) ∧ W.cell? ⟨gx, 4, none⟩ = some (.bool m9) ∧ W.cell? ⟨gx, 5, none⟩ = some (.slice q9 k9 d9) ∧ W.cell? ⟨gy, 0, none⟩ = some (.int .i64 G.add) ∧ W.cell? ⟨gy, 1, none⟩ = some (.int .i64 G.s) ∧ W.cell? ⟨gy, 2, none⟩ = some (.bool n0) ∧ W.cell? ⟨gy, 3, none⟩ = some (.slice p0 l0 c0) ∧ W.cell? ⟨gy, 4, none⟩ = some (.bool m0) ∧ W.cell? ⟨gy, 5, none⟩ = some (.slice q6 k0 d0)) ?_
      repeat (first | refine F_s ?_ | refine F_r ?_)
      (refine F_call (v := .bool true) (by rfl) (by rfl) ?_ ?_; (· (intro W hW; (try dsimp only at hW); go_simp; refine (r02_SameT E.add E.s E.n E.d E.add E.s E.n E.d true _ _ _ _ _ _ _ _ _ _ _ _ _ _ _ _ W (Han.out.ext hW.1) (Had.out.ext hW.1) (Hbn.out.ext hW.1) (Hbd.out.ext hW.1) (sameR_self _)).mono ?_; rintro e w' ⟨rfl, hx⟩; exact ⟨_, rfl, rfl, hx⟩))); refine F_put ?_
      repeat (first | refine F_s ?_ | refine F_r ?_)
      (refine F_call (v := .bool true) (by rfl) (by rfl) ?_ ?_; (· (intro W hW; (try dsimp only at hW); go_simp; refine (r02_SameT G.add G.s G.n G.d G.add G.s G.n G.d true _ _ _ _ _ _ _ _ _ _ _ _ _ _ _ _ W (Hxn.out.ext hW.1) (Hxd.out.ext hW.1) (Hyn.out.ext hW.1) (Hyd.out.ext hW.1) (sameR_self _)).mono ?_; rintro e w' ⟨rfl, hx⟩; exact ⟨_, rfl, rfl, hx⟩))); refine F_put ?_
      repeat (first | refine F_s ?_ | refine F_r ?_)
      rintro W12 ⟨hx, _⟩
      replace hv := Ext.step hv hx
      clear a0 a1 a2 a3 a4 a5 a6 Han Had
      clear b0 b1 b2 b3 b4 b5 b6 Hbn Hbd
      clear x0 x1 x2 x3 x4 x5 x6 Hxn Hxd
      clear y0 y1 y2 y3 y4 y5 y6 Hyn Hyd
      clear hx
      go_wp2_with fail
      exact ⟨⟨s + 1, by omega, by omega, rfl, hv⟩, by simp [intOf]; omega⟩
    · obtain rfl : s = 3 := by omega
      obtain ⟨nl, n5, n6, nn⟩ := VN.out.ext hv
      obtain ⟨dl, d5, d6, dd⟩ := VD.out.ext hv
      have q5 := (IQ.out.ext hv).2 0 _ rfl
      have q6 := (IQ.out.ext hv).2 1 _ rfl
      have ql := (IQ.out.ext hv).1
      have NN := Lib.hid nn
      have DD := Lib.hid dd
      clear nn dd hlt hs1 hs2
      go_upto_region 14 with (fail)
      refine wp_KB (wr.heap.size) (fun W => Ext wr W ∧ wr.heap.size ≤ W.heap.size ∧ W.cell? ⟨w.heap.size, 0, none⟩ = some (.int .i64 q0) ∧ W.cell? ⟨gn, 0, none⟩ = some (.bool n1) ∧ W.cell? ⟨gn, 1, none⟩ = some (.slice p1 m1 c1) ∧ W.cell? ⟨gd, 0, none⟩ = some (.bool n2) ∧ W.cell? ⟨gd, 1, none⟩ = some (.slice p2 m2 c2) ∧ W.cell? ⟨w.heap.size, 1, none⟩ = some (.int .i64 q1)) ?_
      intro hKeep
      repeat (first | refine F_s ?_ | refine F_r ?_)
      refine F_al ?_
      intro ga hga
      simp only [List.mem_cons, List.mem_range, not_or, Nat.not_lt] at hga
      repeat (first | refine F_s ?_ | refine F_r ?_)
      refine F_w (fun W => _) (fun W hW => hW) ?_
      repeat (first | refine F_s ?_ | refine F_r ?_)
      rintro W14 ⟨⟨hS, hb⟩, _⟩
      have ra : RV W14 ga ⟨q0, q1, N, D⟩ n1 p1 m1 c1 n2 p2 m2 c2 := ⟨RB.heap hb, NN.out.ext hS.1, DD.out.ext hS.1⟩
      replace hv := Ext.step hv hS.1
      clear hS hb hKeep hga n5 n6 d5 d6 q5 q6 nl dl ql NN DD
      have im := IM.out.ext hv
      have y0 := im.2 0 _ rfl
      have y1 := im.2 1 _ rfl
      have y2 := im.2 2 _ rfl
      have y3 := im.2 3 _ rfl
      have iml := im.1
      clear im
      go_upto_region 15 with (fail)
      refine wp_KB (W14.heap.size) (fun W => Ext W14 W ∧ W14.heap.size ≤ W.heap.size ∧ W.cell? ⟨w.heap.size + 1 + 1, 0, none⟩ = some (.int .i64 b0) ∧ W.cell? ⟨w.heap.size + 1 + 1, 1, none⟩ = some (.int .i64 b1) ∧ W.cell? ⟨w.heap.size + 1 + 1, 2, none⟩ = some (.int .i64 b2) ∧ W.cell? ⟨w.heap.size + 1 + 1, 3, none⟩ = some (.int .i64 b3)) ?_
      intro hKeep
      repeat (first | refine F_s ?_ | refine F_r ?_)
      refine F_root A (by rfl) (by rfl) (by intro W hW; (try dsimp only at hW); go_simp; exact (MK.out W).mono fun _ _ h => RetRo.isRo h) ?_; intro n9 p9 l9 c9 m9 q9 k9 d9; refine F_put ?_
      repeat (first | refine F_s ?_ | refine F_r ?_)
      refine F_al ?_
      intro gx hgx
      simp only [List.mem_cons, List.mem_range, not_or, Nat.not_lt] at hgx
      repeat (first | refine F_s ?_ | refine F_r ?_)
      refine F_w (fun W => (_ ∧ NR W n9 p9 l9 c9 A.n) ∧ NR W m9 q9 k9 d9 A.d) (fun W hW => hW) ?_
      repeat (first | refine F_s ?_ | refine F_r ?_)
      rintro W15 ⟨⟨⟨⟨hS, nr1⟩, nr2⟩, hb⟩, _⟩
      have rx : RV W15 gx A n9 p9 l9 c9 m9 q9 k9 d9 := ⟨RB.heap hb, nr1, nr2⟩
      replace hv := Ext.step hv hS.1
      replace ra := ra.ext hS.1
      clear hS hb hKeep hgx nr1 nr2 y0 y1 y2 y3 iml
      obtain ⟨⟨a0, a1, a2, ⟨a3, a4⟩, ⟨a5, a6⟩, af⟩, an, ad⟩ := ra
      have Han := Lib.hid an
      have Had := Lib.hid ad
      clear af an ad
      obtain ⟨⟨x0, x1, x2, ⟨x3, x4⟩, ⟨x5, x6⟩, xf⟩, xn, xd⟩ := rx
      have Hxn := Lib.hid xn
      have Hxd := Lib.hid xd
      clear xf xn xd
      obtain ⟨b, B⟩ : ∃ b, Hid (Rt.right ⟨q0, q1, N, D⟩ = b) := ⟨_, Lib.hid rfl⟩
      obtain ⟨t, T⟩ : ∃ t, Hid (bytesT (textR ⟨q0, q1, N, D⟩) = t) := ⟨_, Lib.hid rfl⟩
      obtain ⟨u, U⟩ : ∃ t, Hid (bytesT (textR ⟨A.add, A.s, A.n, A.d⟩) = t) := ⟨_, Lib.hid rfl⟩
      have hbb : (b == b) = true := by simp
      have exv : Ext w W15 := Ext.step ex hv
      go_upto_region 16 with (fail)
      refine wp_FS (fun W => W.cell? ⟨ga, 0, none⟩ = some (.int .i64 q0) ∧ W.cell? ⟨ga, 1, none⟩ = some (.int .i64 q1) ∧ W.cell? ⟨ga, 2, none⟩ = some (.bool n1) ∧ W.cell? ⟨ga, 3, none⟩ = some (.slice p1 m1 c1) ∧ W.cell? ⟨ga, 4, none⟩ = some (.bool n2) ∧ W.cell? ⟨ga, 5, none⟩ = some (.slice p2 m2 c2) ∧ W.cell? ⟨gx, 0, none⟩ = some (.int .i64 A.add) ∧ W.cell? ⟨gx, 1, none⟩ = some (.int .i64 A.s) ∧ W.cell? ⟨gx, 2, none⟩ = some (.bool n9) ∧ W.cell? ⟨gx, 3, none⟩ = some (.slice p9 l9 c9) ∧ W.cell? ⟨gx, 4, none⟩ = some (.bool m9) ∧ W.cell? ⟨gx, 5, none⟩ = some (.slice q9 k9 d9)) ?_
      repeat (first | refine F_s ?_ | refine F_r ?_)
      (refine F_call (v := .bool b) (by rfl) (by rfl) ?_ ?_; (· (intro W hW; (try dsimp only at hW); go_simp; refine (root_RightB q0 q1 N D b _ _ _ _ _ _ _ _ W (Han.out.ext hW.1) (Had.out.ext hW.1) B.out).mono ?_; rintro e w' ⟨rfl, hx⟩; exact ⟨_, rfl, rfl, hx⟩))); refine F_put ?_
      repeat (first | refine F_s ?_ | refine F_r ?_)
      (refine F_call (v := .bool b) (by rfl) (by rfl) ?_ ?_; (· (intro W hW; (try dsimp only at hW); go_simp; refine (r02_RightB q0 q1 N D b _ _ _ _ _ _ _ _ W (Han.out.ext hW.1) (Had.out.ext hW.1) B.out).mono ?_; rintro e w' ⟨rfl, hx⟩; exact ⟨_, rfl, rfl, hx⟩))); refine F_put ?_
      repeat (first | refine F_s ?_ | refine F_r ?_)
      (refine F_call (v := .string t) (by rfl) (by rfl) ?_ ?_; (· (intro W hW; (try dsimp only at hW); go_simp; refine (root_TextE q0 q1 N D t _ _ _ _ _ _ _ _ W (Han.out.ext hW.1) (Had.out.ext hW.1) (TB.out.ext (Ext.step exv hW.1)) J0.out T.out).mono ?_; rintro e w' ⟨rfl, hx⟩; exact ⟨_, rfl, rfl, hx⟩))); refine F_put ?_
      repeat (first | refine F_s ?_ | refine F_r ?_)
      (refine F_call (v := .string t) (by rfl) (by rfl) ?_ ?_; (· (intro W hW; (try dsimp only at hW); go_simp; refine (r02_TextE q0 q1 N D t _ _ _ _ _ _ _ _ W (Han.out.ext hW.1) (Had.out.ext hW.1) J0.out T.out).mono ?_; rintro e w' ⟨rfl, hx⟩; exact ⟨_, rfl, rfl, hx⟩))); refine F_put ?_
      repeat (first | refine F_s ?_ | refine F_r ?_)
      (refine F_call (v := .bool true) (by rfl) (by rfl) ?_ ?_; (· (intro W hW; (try dsimp only at hW); go_simp; refine (root_RightB A.add A.s A.n A.d true _ _ _ _ _ _ _ _ W (Hxn.out.ext hW.1) (Hxd.out.ext hW.1) MR.out).mono ?_; rintro e w' ⟨rfl, hx⟩; exact ⟨_, rfl, rfl, hx⟩))); refine F_put ?_
      repeat (first | refine F_s ?_ | refine F_r ?_)
      (refine F_call (v := .string u) (by rfl) (by rfl) ?_ ?_; (· (intro W hW; (try dsimp only at hW); go_simp; refine (root_TextE A.add A.s A.n A.d u _ _ _ _ _ _ _ _ W (Hxn.out.ext hW.1) (Hxd.out.ext hW.1) (TB.out.ext (Ext.step exv hW.1)) MI.out U.out).mono ?_; rintro e w' ⟨rfl, hx⟩; exact ⟨_, rfl, rfl, hx⟩))); refine F_put ?_
      repeat (first | refine F_s ?_ | refine F_r ?_)
      (refine F_call (v := .string u) (by rfl) (by rfl) ?_ ?_; (· (intro W hW; (try dsimp only at hW); go_simp; refine (r02_TextE A.add A.s A.n A.d u _ _ _ _ _ _ _ _ W (Hxn.out.ext hW.1) (Hxd.out.ext hW.1) MI.out U.out).mono ?_; rintro e w' ⟨rfl, hx⟩; exact ⟨_, rfl, rfl, hx⟩))); refine F_put ?_
      repeat (first | refine F_s ?_ | refine F_r ?_)
      rintro W16 ⟨hx, _⟩
      have exw := Ext.step exv hx
      clear hx hv ex exv
      go_wp2
      go_ret
      exact ⟨rfl, exw⟩
end Go.Proofs.YtghgggaimijcaaaGreatDoor
