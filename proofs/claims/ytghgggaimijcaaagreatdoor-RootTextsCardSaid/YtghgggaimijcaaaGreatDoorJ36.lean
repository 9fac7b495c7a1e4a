/- The walk of the law RootCmps. -/
import Derived.Test.YtghgggaimijcaaaGreatDoorJ28
import Derived.Test.YtghgggaimijcaaaGreatDoorJ29
import Derived.Test.YtghgggaimijcaaaGreatDoorJ33
set_option linter.unusedVariables false
set_option linter.unusedSimpArgs false

namespace Go.Proofs.YtghgggaimijcaaaGreatDoor
open Go.RowKit
attribute [local go_sem] Gives givesU

theorem NR.dig {w : World} {n : Bool} {p : Option Addr} {l c : Nat} {x : Nm} (h : NR w n p l c x) : Dig x.d := h.2.2.dig
/-- Three roots. -/
def threeF (A B C : Rt) (j : Nat) : Rt := if j = 0 then A else if j = 1 then B else C
theorem RLs.three {W : World} {g : Nat} {T : TypeId} {A B C : Rt} {n1 m1 n2 m2 n3 m3 : Bool} {p1 q1 p2 q2 p3 q3 : Option Addr} {l1 c1 k1 d1 l2 c2 k2 d2 l3 c3 k3 d3 : Nat}
    (h : W.heap[g]? = some (.cells #[.int .i64 A.add, .int .i64 A.s, .bool n1, .slice p1 l1 c1, .bool m1, .slice q1 k1 d1, .int .i64 B.add, .int .i64 B.s, .bool n2, .slice p2 l2 c2, .bool m2, .slice q2 k2 d2, .int .i64 C.add, .int .i64 C.s, .bool n3, .slice p3 l3 c3, .bool m3, .slice q3 k3 d3] T))
    (h1 : NR W n1 p1 l1 c1 A.n) (h2 : NR W m1 q1 k1 d1 A.d) (h3 : NR W n2 p2 l2 c2 B.n) (h4 : NR W m2 q2 k2 d2 B.d) (h5 : NR W n3 p3 l3 c3 C.n) (h6 : NR W m3 q3 k3 d3 C.d) :
    ∃ cs, RLs W g T 3 3 (threeF A B C) cs := by
  refine ⟨_, h, rfl, by intro v hv z e; subst e; simp at hv, fun j hj => ?_⟩
  rcases (show j = 0 ∨ j = 1 ∨ j = 2 by omega) with rfl | rfl | rfl
  · exact ⟨n1, p1, l1, c1, m1, q1, k1, d1, ⟨rfl, rfl, ⟨rfl, rfl⟩, rfl, rfl⟩, h1, h2⟩
  · exact ⟨n2, p2, l2, c2, m2, q2, k2, d2, ⟨rfl, rfl, ⟨rfl, rfl⟩, rfl, rfl⟩, h3, h4⟩
  · exact ⟨n3, p3, l3, c3, m3, q3, k3, d3, ⟨rfl, rfl, ⟨rfl, rfl⟩, rfl, rfl⟩, h5, h6⟩
set_option maxRecDepth 100000 in
set_option maxHeartbeats 16000000 in
theorem Cmps_core (a0 a1 a2 a3 b0 b1 b2 b3 add s z : Int) (n m : Bool) (p q : Option Addr) (l c k d : Nat) (X Y : Nm) (w : World) (hi : ∀ z ∈ [a0, a1, a2, a3, b0, b1, b2, b3], In64 z) (ia : In64 add) (iz : In64 z)
    (hX : NR w n p l c X) (hY : NR w m q k d Y) (ht : Tab w) :
    Calls Tryz.prog 5 #[.agg #[.int .i64 a0, .int .i64 a1, .int .i64 a2, .int .i64 a3, .int .i64 b0, .int .i64 b1, .int .i64 b2, .int .i64 b3], .agg #[.int .i64 add, .int .i64 s, .bool n, .slice p l c, .bool m, .slice q k d], .int .i64 z] w fun e w' => e = .returned (.bool true) ∧ Ext w w' := by
  have TB := Lib.hid ht
  have HX := Lib.hid (hX.short 10)
  have HY := Lib.hid (hY.short 10)
  have CU := Lib.hid (fun W => l02_cut add s n m p q l c k d W (by have := hX.2.1; have := hX.2.2.le; omega) (by have := hY.2.1; have := hY.2.2.le; omega))
  have MA := Lib.hid (fun W => r02_Made a0 a1 a2 a3 W (hi a0 (by simp)) (hi a2 (by simp)))
  have MB := Lib.hid (fun W => r02_Made b0 b1 b2 b3 W (hi b0 (by simp)) (hi b2 (by simp)))
  have RA0 := made_add a0 a1 a2 a3 (hi a0 (by simp))
  have RB0 := made_add b0 b1 b2 b3 (hi b0 (by simp))
  have IZ := Lib.hid iz
  have bz := tmodB_bd z (m := 40) (by decide)
  obtain ⟨z4, HZ4⟩ : ∃ x, Hid (z.tmod 40 = x) := ⟨_, Lib.hid rfl⟩
  rw [HZ4.out] at bz
  have IZ4 : Hid (-9223372036854775808 ≤ z4 ∧ z4 ≤ 9223372036854775807) := Lib.hid (by omega)
  obtain ⟨A, HA⟩ : ∃ A, Hid (madeR a0 a1 a2 a3 = A) := ⟨_, Lib.hid rfl⟩
  obtain ⟨B, HB⟩ : ∃ A, Hid (madeR b0 b1 b2 b3 = A) := ⟨_, Lib.hid rfl⟩
  obtain ⟨C, HC⟩ : ∃ A, Hid ((⟨add, s, ⟨X.neg, X.d.take 10⟩, ⟨Y.neg, Y.d.take 10⟩⟩ : Rt) = A) := ⟨_, Lib.hid rfl⟩
  rw [HA.out] at MA RA0
  rw [HB.out] at MB RB0
  have HXC : Hid (NR w n p (min l 10) c C.n) := Lib.hid (by rw [← HC.out]; exact HX.out)
  have HYC : Hid (NR w m q (min k 10) d C.d) := Lib.hid (by rw [← HC.out]; exact HY.out)
  have CA : Hid (C.add = add ∧ C.s = s) := Lib.hid (by rw [← HC.out]; exact ⟨rfl, rfl⟩)
  have RNG : Hid (∀ j, In64 (threeF A B C j).add) := Lib.hid (by
    intro j
    unfold threeF
    split
    · exact RA0
    · split
      · exact RB0
      · rw [CA.out.1]; exact ia)
  obtain ⟨l', L1⟩ : ∃ m, Hid (min l 10 = m) := ⟨_, Lib.hid rfl⟩
  obtain ⟨k', L2⟩ : ∃ m, Hid (min k 10 = m) := ⟨_, Lib.hid rfl⟩
  rw [L1.out] at CU HXC
  rw [L2.out] at CU HYC
  clear ht hi ia iz hX hY HX HY RA0 RB0 bz HA HB HC
  go_enter Tryz.func5, Tryz.ntmps5
  go_wp2_with fail
  refine (law_sanity2 _ (TB.out.ext bxx)).mono ?_
  rintro e w1 ⟨rfl, hx⟩
  have ex1 : Ext w w1 := Ext.step bxx hx
  have hq := heap_ext (heap_old (heap_new (W := w) rfl)) hx
  have hr := heap_ext (heap_new (r := w.heap.size + 1) (by simp)) hx
  clear hx
  go_upto_region 2 with (fail)
  refine wp_know (fun W => Ext w W ∧ (W.cell? ⟨w.heap.size, 0, none⟩ = some (.int .i64 a0) ∧ W.cell? ⟨w.heap.size, 1, none⟩ = some (.int .i64 a1) ∧ W.cell? ⟨w.heap.size, 2, none⟩ = some (.int .i64 a2) ∧ W.cell? ⟨w.heap.size, 3, none⟩ = some (.int .i64 a3) ∧ W.cell? ⟨w.heap.size, 4, none⟩ = some (.int .i64 b0) ∧ W.cell? ⟨w.heap.size, 5, none⟩ = some (.int .i64 b1) ∧ W.cell? ⟨w.heap.size, 6, none⟩ = some (.int .i64 b2) ∧ W.cell? ⟨w.heap.size, 7, none⟩ = some (.int .i64 b3) ) ∧ RB W (w.heap.size + 1) add s n p l c m q k d ∧ w.heap.size < W.heap.size) ⟨ex1, ?_, RB.heap hr, (Array.getElem?_eq_some_iff.1 hq).1⟩ ?_
  · refine ⟨?_, ?_, ?_, ?_, ?_, ?_, ?_, ?_⟩ <;> (rw [cell_of_row _ _ _ _ _ _ hq]; rfl)
  clear hq hr ex1
  rintro W0 ⟨ex, ⟨a0', a1', a2', a3', b0', b1', b2', b3'⟩, ⟨e0, e1, e2, ⟨e3, e4⟩, ⟨e5, e6⟩, ef⟩, hl0⟩
  clear ef
  refine wp_KB (W0.heap.size) (fun W => Ext W0 W ∧ W0.heap.size ≤ W.heap.size ∧ W.cell? ⟨w.heap.size, 0, none⟩ = some (.int .i64 a0) ∧ W.cell? ⟨w.heap.size, 1, none⟩ = some (.int .i64 a1) ∧ W.cell? ⟨w.heap.size, 2, none⟩ = some (.int .i64 a2) ∧ W.cell? ⟨w.heap.size, 3, none⟩ = some (.int .i64 a3) ∧ W.cell? ⟨w.heap.size, 4, none⟩ = some (.int .i64 b0) ∧ W.cell? ⟨w.heap.size, 5, none⟩ = some (.int .i64 b1) ∧ W.cell? ⟨w.heap.size, 6, none⟩ = some (.int .i64 b2) ∧ W.cell? ⟨w.heap.size, 7, none⟩ = some (.int .i64 b3) ∧ W.cell? ⟨w.heap.size + 1, 0, none⟩ = some (.int .i64 add) ∧ W.cell? ⟨w.heap.size + 1, 1, none⟩ = some (.int .i64 s) ∧ W.cell? ⟨w.heap.size + 1, 2, none⟩ = some (.bool n) ∧ W.cell? ⟨w.heap.size + 1, 3, none⟩ = some (.slice p l c) ∧ W.cell? ⟨w.heap.size + 1, 4, none⟩ = some (.bool m) ∧ W.cell? ⟨w.heap.size + 1, 5, none⟩ = some (.slice q k d)) ?_
  intro hKeep
  repeat (first | refine F_s ?_ | refine F_r ?_)
  refine F_root A (by rfl) (by rfl) (by intro W hW; (try dsimp only at hW); go_simp; exact (MA.out W).mono fun _ _ h => RetRo.isRo h) ?_; intro n1 p1 l1 c1 m1 q1 k1 d1; refine F_put ?_
  repeat (first | refine F_s ?_ | refine F_r ?_)
  refine F_root B (by rfl) (by rfl) (by intro W hW; (try dsimp only at hW); go_simp; exact (MB.out W).mono fun _ _ h => RetRo.isRo h) ?_; intro n2 p2 l2 c2 m2 q2 k2 d2; refine F_put ?_
  repeat (first | refine F_s ?_ | refine F_r ?_)
  (refine F_call (v := .agg #[.int .i64 add, .int .i64 s, .bool n, .slice p l' c, .bool m, .slice q k' d]) (by rfl) (by rfl) ?_ ?_; (· (intro W hW; (try dsimp only at hW); go_simp; refine (CU.out W).mono ?_; rintro e w' ⟨rfl, hx⟩; exact ⟨_, rfl, rfl, hx⟩))); refine F_put ?_
  repeat (first | refine F_s ?_ | refine F_r ?_)
  refine F_al ?_
  intro g hg
  simp only [List.mem_cons, List.mem_range, not_or, Nat.not_lt] at hg
  repeat (first | refine F_s ?_ | refine F_r ?_)
  refine F_w (fun W => (((_ ∧ NR W n1 p1 l1 c1 A.n) ∧ NR W m1 q1 k1 d1 A.d) ∧ NR W n2 p2 l2 c2 B.n) ∧ NR W m2 q2 k2 d2 B.d) (fun W hW => hW) ?_
  repeat (first | refine F_s ?_ | refine F_r ?_)
  rintro W1 ⟨⟨⟨⟨⟨⟨hS, nA⟩, dA⟩, nB⟩, dB⟩, hb⟩, _⟩
  replace ex := Ext.step ex hS.1
  rw [← CA.out.1, ← CA.out.2] at hb
  obtain ⟨cs, rl⟩ := RLs.three hb nA dA nB dB (HXC.out.ext ex) (HYC.out.ext ex)
  obtain ⟨f, F⟩ : ∃ f, Hid (threeF A B C = f) := ⟨_, Lib.hid rfl⟩
  rw [F.out] at rl RNG
  clear hS hb nA dA nB dB hKeep hg a0' a1' a2' a3' b0' b1' b2' b3' e0 e1 e2 e3 e4 e5 e6 hl0 CU MA MB
  go_wp2_with fail
  go_loopw [9] (fun t wr => ∃ i : Nat, i ≤ 3 ∧ t = .int .i64 (i : Int) ∧ Ext w wr ∧ RLs wr g 47 3 3 f cs) (fun t _ => 3 - (intOf t).toNat)
  case atStart => exact ⟨0, by omega, rfl, ex, rl⟩
  case round =>
    clear ex rl
    obtain ⟨i, hi, rfl, ex, rl⟩ := hrel
    by_cases hlt : i < 3
    · have hi3 : (i : Int) < 3 := by omega
      have hi0 : ¬ (i : Int) < 0 := by omega
      go_wp2_with fail
      go_loopw [10] (fun t wr => ∃ j : Nat, j ≤ 3 ∧ t = .int .i64 (j : Int) ∧ Ext w wr ∧ RLs wr g 47 3 3 f cs) (fun t _ => 3 - (intOf t).toNat)
      case atStart => exact ⟨0, by omega, rfl, ex, rl⟩
      case round =>
        clear ex rl
        obtain ⟨j, hj, rfl, ex, rl⟩ := hrel
        obtain ⟨n1, p1, l1, c1, m1, q1, k1, d1, rI⟩ := rl.at i hlt
        by_cases hjt : j < 3
        · have hj3 : (j : Int) < 3 := by omega
          have hj0 : ¬ (j : Int) < 0 := by omega
          obtain ⟨n2, p2, l2, c2, m2, q2, k2, d2, rJ⟩ := rl.at j hjt
          obtain ⟨⟨x0, x1, x2, x3, x4, x5⟩, _, xn, xd⟩ := rI
          obtain ⟨⟨y0, y1, y2, y3, y4, y5⟩, _, yn, yd⟩ := rJ
          have Hxn := Lib.hid xn
          have Hxd := Lib.hid xd
          have Hyn := Lib.hid yn
          have Hyd := Lib.hid yd
          obtain ⟨v, V⟩ : ∃ v, Hid (cmpRt (f i) (f j) = v) := ⟨_, Lib.hid rfl⟩
          have hvv : (v != v) = false := by simp
          clear xn xd yn yd
          go_upto_region 9 with (fail)
          refine wp_FS (fun W => W.cell? ⟨g, i * 6, none⟩ = some (.int .i64 (f i).add) ∧ W.cell? ⟨g, i * 6 + 1, none⟩ = some (.int .i64 (f i).s) ∧ W.cell? ⟨g, i * 6 + 2, none⟩ = some (.bool n1) ∧ W.cell? ⟨g, i * 6 + 3, none⟩ = some (.slice p1 l1 c1) ∧ W.cell? ⟨g, i * 6 + 4, none⟩ = some (.bool m1) ∧ W.cell? ⟨g, i * 6 + 5, none⟩ = some (.slice q1 k1 d1) ∧ W.cell? ⟨g, j * 6, none⟩ = some (.int .i64 (f j).add) ∧ W.cell? ⟨g, j * 6 + 1, none⟩ = some (.int .i64 (f j).s) ∧ W.cell? ⟨g, j * 6 + 2, none⟩ = some (.bool n2) ∧ W.cell? ⟨g, j * 6 + 3, none⟩ = some (.slice p2 l2 c2) ∧ W.cell? ⟨g, j * 6 + 4, none⟩ = some (.bool m2) ∧ W.cell? ⟨g, j * 6 + 5, none⟩ = some (.slice q2 k2 d2)) ?_
          repeat (first | refine F_s ?_ | refine F_r ?_)
          (refine F_call (v := .int .i64 v) (by rfl) (by rfl) ?_ ?_; (· (intro W hW; (try dsimp only at hW); go_simp; refine (root_CmpE (f i).add (f i).s (f j).add (f j).s (f i).n (f i).d (f j).n (f j).d v _ _ _ _ _ _ _ _ _ _ _ _ _ _ _ _ W (Hxn.out.ext hW.1) (Hxd.out.ext hW.1) (Hyn.out.ext hW.1) (Hyd.out.ext hW.1) (RNG.out i) (RNG.out j) V.out).mono ?_; rintro e w' ⟨rfl, hx⟩; exact ⟨_, rfl, rfl, hx⟩))); refine F_put ?_
          repeat (first | refine F_s ?_ | refine F_r ?_)
          (refine F_call (v := .int .i64 v) (by rfl) (by rfl) ?_ ?_; (· (intro W hW; (try dsimp only at hW); go_simp; refine (r02_CmpE (f i).add (f i).s (f j).add (f j).s (f i).n (f i).d (f j).n (f j).d v _ _ _ _ _ _ _ _ _ _ _ _ _ _ _ _ W (Hxn.out.ext hW.1) (Hxd.out.ext hW.1) (Hyn.out.ext hW.1) (Hyd.out.ext hW.1) (RNG.out i) (RNG.out j) V.out).mono ?_; rintro e w' ⟨rfl, hx⟩; exact ⟨_, rfl, rfl, hx⟩))); refine F_put ?_
          repeat (first | refine F_s ?_ | refine F_r ?_)
          rintro W9 ⟨hx, _⟩
          replace ex := Ext.step ex hx
          replace rl := rl.ext hx
          clear hx x0 x1 x2 x3 x4 x5 y0 y1 y2 y3 y4 y5 Hxn Hxd Hyn Hyd V
          go_wp2_with fail
          exact ⟨⟨j + 1, by omega, rfl, ex, rl⟩, by simp [intOf]; omega⟩
        · obtain rfl : j = 3 := by omega
          obtain ⟨⟨x0, x1, x2, x3, x4, x5⟩, _, xn, xd⟩ := rI
          have Hxn := Lib.hid xn
          have Hxd := Lib.hid xd
          obtain ⟨v, V⟩ : ∃ v, Hid (cmpRt (f i) ⟨z, 0, zero, ofZ 1⟩ = v) := ⟨_, Lib.hid rfl⟩
          obtain ⟨u, U⟩ : ∃ v, Hid (cmpRt (f i) ⟨z4, 0, zero, ofZ 1⟩ = v) := ⟨_, Lib.hid rfl⟩
          have hvv : (v != v) = false := by simp
          have huu : (u != u) = false := by simp
          have hz4 := HZ4.out
          clear xn xd hjt hj
          go_upto_region 11 with (fail)
          refine wp_FS (fun W => W.cell? ⟨g, i * 6, none⟩ = some (.int .i64 (f i).add) ∧ W.cell? ⟨g, i * 6 + 1, none⟩ = some (.int .i64 (f i).s) ∧ W.cell? ⟨g, i * 6 + 2, none⟩ = some (.bool n1) ∧ W.cell? ⟨g, i * 6 + 3, none⟩ = some (.slice p1 l1 c1) ∧ W.cell? ⟨g, i * 6 + 4, none⟩ = some (.bool m1) ∧ W.cell? ⟨g, i * 6 + 5, none⟩ = some (.slice q1 k1 d1)) ?_
          repeat (first | refine F_s ?_ | refine F_r ?_)
          (refine F_call (v := .int .i64 v) (by rfl) (by rfl) ?_ ?_; (· (intro W hW; (try dsimp only at hW); go_simp; refine (root_CmpIntE (f i).add (f i).s z (f i).n (f i).d v _ _ _ _ _ _ _ _ W (Hxn.out.ext hW.1) (Hxd.out.ext hW.1) (RNG.out i) IZ.out V.out).mono ?_; rintro e w' ⟨rfl, hx⟩; exact ⟨_, rfl, rfl, hx⟩))); refine F_put ?_
          repeat (first | refine F_s ?_ | refine F_r ?_)
          (refine F_call (v := .int .i64 v) (by rfl) (by rfl) ?_ ?_; (· (intro W hW; (try dsimp only at hW); go_simp; refine (r02_CmpIntE (f i).add (f i).s z (f i).n (f i).d v _ _ _ _ _ _ _ _ W (Hxn.out.ext hW.1) (Hxd.out.ext hW.1) (RNG.out i) IZ.out V.out).mono ?_; rintro e w' ⟨rfl, hx⟩; exact ⟨_, rfl, rfl, hx⟩))); refine F_put ?_
          repeat (first | refine F_s ?_ | refine F_r ?_)
          (refine F_call (v := .int .i64 u) (by rfl) (by rfl) ?_ ?_; (· (intro W hW; (try dsimp only at hW); go_simp; refine (root_CmpIntE (f i).add (f i).s z4 (f i).n (f i).d u _ _ _ _ _ _ _ _ W (Hxn.out.ext hW.1) (Hxd.out.ext hW.1) (RNG.out i) IZ4.out U.out).mono ?_; rintro e w' ⟨rfl, hx⟩; exact ⟨_, rfl, rfl, hx⟩))); refine F_put ?_
          repeat (first | refine F_s ?_ | refine F_r ?_)
          (refine F_call (v := .int .i64 u) (by rfl) (by rfl) ?_ ?_; (· (intro W hW; (try dsimp only at hW); go_simp; refine (r02_CmpIntE (f i).add (f i).s z4 (f i).n (f i).d u _ _ _ _ _ _ _ _ W (Hxn.out.ext hW.1) (Hxd.out.ext hW.1) (RNG.out i) IZ4.out U.out).mono ?_; rintro e w' ⟨rfl, hx⟩; exact ⟨_, rfl, rfl, hx⟩))); refine F_put ?_
          repeat (first | refine F_s ?_ | refine F_r ?_)
          rintro W9 ⟨hx, _⟩
          replace ex := Ext.step ex hx
          replace rl := rl.ext hx
          clear hx x0 x1 x2 x3 x4 x5 Hxn Hxd V U hz4
          go_wp2_with fail
          exact ⟨⟨i + 1, by omega, rfl, ex, rl⟩, by simp [intOf]; omega⟩
    · obtain rfl : i = 3 := by omega
      go_wp2
      go_ret
      exact ⟨rfl, ex⟩
end Go.Proofs.YtghgggaimijcaaaGreatDoor
