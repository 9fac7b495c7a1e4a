/- The walk of the law RootSigns. -/
import Derived.Test.YtghgggaimijcaaaGreatDoorJ28
import Derived.Test.YtghgggaimijcaaaGreatDoorJ33
set_option linter.unusedVariables false
set_option linter.unusedSimpArgs false

namespace Go.Proofs.YtghgggaimijcaaaGreatDoor
open Go.RowKit
attribute [local go_sem] Gives givesU

/-- Three rows of three numbers, as they are read. -/
def N33 (W : World) (g : Nat) (f : Nat → Nat → Nm) : Prop := g < W.heap.size ∧ ∀ i, i < 3 → ∃ n1 p1 l1 c1 n2 p2 l2 c2 n3 p3 l3 c3,
  (W.cell? ⟨g, i * 6, none⟩ = some (.bool n1) ∧ W.cell? ⟨g, i * 6 + 1, none⟩ = some (.slice p1 l1 c1) ∧ W.cell? ⟨g, i * 6 + 2, none⟩ = some (.bool n2) ∧ W.cell? ⟨g, i * 6 + 3, none⟩ = some (.slice p2 l2 c2) ∧ W.cell? ⟨g, i * 6 + 4, none⟩ = some (.bool n3) ∧ W.cell? ⟨g, i * 6 + 5, none⟩ = some (.slice p3 l3 c3)) ∧
  NR W n1 p1 l1 c1 (f i 0) ∧ NR W n2 p2 l2 c2 (f i 1) ∧ NR W n3 p3 l3 c3 (f i 2)
theorem N33.ext {W W' : World} {g : Nat} {f : Nat → Nat → Nm} (h : N33 W g f) (hx : Ext W W') : N33 W' g f := by
  refine ⟨Nat.lt_of_lt_of_le h.1 hx.size, fun i hi => ?_⟩
  obtain ⟨n1, p1, l1, c1, n2, p2, l2, c2, n3, p3, l3, c3, ⟨h0, h1, h2, h3, h4, h5⟩, k1, k2, k3⟩ := h.2 i hi
  have hc : ∀ o, W'.cell? ⟨g, o, none⟩ = W.cell? ⟨g, o, none⟩ := fun o => hx.cell (p := ⟨g, o, none⟩) h.1
  exact ⟨n1, p1, l1, c1, n2, p2, l2, c2, n3, p3, l3, c3, ⟨by rw [hc]; exact h0, by rw [hc]; exact h1, by rw [hc]; exact h2, by rw [hc]; exact h3, by rw [hc]; exact h4, by rw [hc]; exact h5⟩, k1.ext hx, k2.ext hx, k3.ext hx⟩
def rowF (A B C : Nat → Nm) (i : Nat) : Nat → Nm := if i = 0 then A else if i = 1 then B else C
theorem N33.heap {W : World} {g : Nat} {T : TypeId} {A B C : Nat → Nm} {n0 n1 n2 n3 n4 n5 n6 n7 n8 : Bool} {p0 p1 p2 p3 p4 p5 p6 p7 p8 : Option Addr} {l0 l1 l2 l3 l4 l5 l6 l7 l8 c0 c1 c2 c3 c4 c5 c6 c7 c8 : Nat}
    (h : W.heap[g]? = some (.cells #[.bool n0, .slice p0 l0 c0, .bool n1, .slice p1 l1 c1, .bool n2, .slice p2 l2 c2, .bool n3, .slice p3 l3 c3, .bool n4, .slice p4 l4 c4, .bool n5, .slice p5 l5 c5, .bool n6, .slice p6 l6 c6, .bool n7, .slice p7 l7 c7, .bool n8, .slice p8 l8 c8] T))
    (h0 : NR W n0 p0 l0 c0 (A 0)) (h1 : NR W n1 p1 l1 c1 (A 1)) (h2 : NR W n2 p2 l2 c2 (A 2)) (h3 : NR W n3 p3 l3 c3 (B 0)) (h4 : NR W n4 p4 l4 c4 (B 1)) (h5 : NR W n5 p5 l5 c5 (B 2)) (h6 : NR W n6 p6 l6 c6 (C 0)) (h7 : NR W n7 p7 l7 c7 (C 1)) (h8 : NR W n8 p8 l8 c8 (C 2)) : N33 W g (rowF A B C) := by
  refine ⟨(Array.getElem?_eq_some_iff.1 h).1, fun i hi => ?_⟩
  have hc : ∀ o, W.cell? ⟨g, o, none⟩ = _ := fun o => cell_of_row W g o _ _ _ h
  rcases (show i = 0 ∨ i = 1 ∨ i = 2 by omega) with rfl | rfl | rfl
  · exact ⟨n0, p0, l0, c0, n1, p1, l1, c1, n2, p2, l2, c2, ⟨hc 0, hc 1, hc 2, hc 3, hc 4, hc 5⟩, h0, h1, h2⟩
  · exact ⟨n3, p3, l3, c3, n4, p4, l4, c4, n5, p5, l5, c5, ⟨hc 6, hc 7, hc 8, hc 9, hc 10, hc 11⟩, h3, h4, h5⟩
  · exact ⟨n6, p6, l6, c6, n7, p7, l7, c7, n8, p8, l8, c8, ⟨hc 12, hc 13, hc 14, hc 15, hc 16, hc 17⟩, h6, h7, h8⟩
def triF (a b c : Nm) (j : Nat) : Nm := if j = 0 then a else if j = 1 then b else c
set_option maxRecDepth 100000 in
set_option maxHeartbeats 16000000 in
theorem Signs_core (q0 q1 q2 : Int) (n1 n2 n3 : Bool) (p1 p2 p3 : Option Addr) (l1 c1 l2 c2 l3 c3 : Nat) (X1 X2 X3 : Nm) (w : World) (hi : ∀ z ∈ [q0, q1, q2], In64 z)
    (h1 : NR w n1 p1 l1 c1 X1) (h2 : NR w n2 p2 l2 c2 X2) (h3 : NR w n3 p3 l3 c3 X3) (ht : Tab w) :
    Calls Tryz.prog 4 #[.agg #[.bool n1, .slice p1 l1 c1, .bool n2, .slice p2 l2 c2, .bool n3, .slice p3 l3 c3], .agg #[.int .i64 q0, .int .i64 q1, .int .i64 q2]] w fun e w' => e = .returned (.bool true) ∧ Ext w w' := by
  have TB := Lib.hid ht
  have H1 := Lib.hid (h1.short 22)
  have H2 := Lib.hid (h2.short 22)
  have H3 := Lib.hid (h3.short 22)
  have S1 := Lib.hid (fun W => l02_short n1 p1 l1 c1 22 W (by have := h1.2.1; have := h1.2.2.le; omega))
  have S2 := Lib.hid (fun W => l02_short n2 p2 l2 c2 22 W (by have := h2.2.1; have := h2.2.2.le; omega))
  have S3 := Lib.hid (fun W => l02_short n3 p3 l3 c3 22 W (by have := h3.2.1; have := h3.2.2.le; omega))
  obtain ⟨m1, M1⟩ : ∃ m, Hid (min l1 22 = m) := ⟨_, Lib.hid rfl⟩
  obtain ⟨m2, M2⟩ : ∃ m, Hid (min l2 22 = m) := ⟨_, Lib.hid rfl⟩
  obtain ⟨m3, M3⟩ : ∃ m, Hid (min l3 22 = m) := ⟨_, Lib.hid rfl⟩
  rw [M1.out] at H1 S1
  rw [M2.out] at H2 S2
  rw [M3.out] at H3 S3
  have J0 : Hid (-9223372036854775808 ≤ q0 ∧ q0 ≤ 9223372036854775807) := Lib.hid (hi q0 (by simp))
  have bq0 := tmodB_bd q0 (m := 50) (by decide)
  obtain ⟨r0, R0⟩ : ∃ r, Hid (q0.tmod 50 = r) := ⟨_, Lib.hid rfl⟩
  rw [R0.out] at bq0
  have K0 : Hid (-9223372036854775808 ≤ r0 ∧ r0 ≤ 9223372036854775807) := Lib.hid (by omega)
  have J1 : Hid (-9223372036854775808 ≤ q1 ∧ q1 ≤ 9223372036854775807) := Lib.hid (hi q1 (by simp))
  have bq1 := tmodB_bd q1 (m := 50) (by decide)
  obtain ⟨r1, R1⟩ : ∃ r, Hid (q1.tmod 50 = r) := ⟨_, Lib.hid rfl⟩
  rw [R1.out] at bq1
  have K1 : Hid (-9223372036854775808 ≤ r1 ∧ r1 ≤ 9223372036854775807) := Lib.hid (by omega)
  have J2 : Hid (-9223372036854775808 ≤ q2 ∧ q2 ≤ 9223372036854775807) := Lib.hid (hi q2 (by simp))
  have bq2 := tmodB_bd q2 (m := 50) (by decide)
  obtain ⟨r2, R2⟩ : ∃ r, Hid (q2.tmod 50 = r) := ⟨_, Lib.hid rfl⟩
  rw [R2.out] at bq2
  have K2 : Hid (-9223372036854775808 ≤ r2 ∧ r2 ≤ 9223372036854775807) := Lib.hid (by omega)
  clear ht hi h1 h2 h3 bq0 bq1 bq2
  go_enter Tryz.func4, Tryz.ntmps4
  go_wp2_with fail
  refine (law_sanity2 _ (TB.out.ext bxx)).mono ?_
  rintro e w1 ⟨rfl, hx⟩
  have ex : Ext w w1 := Ext.step bxx hx
  have hl := heap_ext (heap_old (heap_new (W := w) rfl)) hx
  have hq := heap_ext (heap_new (r := w.heap.size + 1) (by simp)) hx
  have iq : IRow w1 (w.heap.size + 1) [q0, q1, q2] := IRow.heap hq rfl
  clear hx hq
  go_wp2_with fail
  go_loopw [6] (fun t wr => ∃ k : Nat, k ≤ 3 ∧ t = .int .i64 (k : Int) ∧ Ext w wr ∧ IRow wr (w.heap.size + 1) [q0, q1, q2] ∧ wr.heap[w.heap.size]? = some (.cells #[.bool n1, .slice p1 (if 0 < k then m1 else l1) c1, .bool n2, .slice p2 (if 1 < k then m2 else l2) c2, .bool n3, .slice p3 (if 2 < k then m3 else l3) c3] 40)) (fun t _ => 3 - (intOf t).toNat)
  case atStart => exact ⟨0, by omega, rfl, ex, iq, hl⟩
  case round =>
    clear ex iq hl
    obtain ⟨k, hk, rfl, ex, iq, hl⟩ := hrel
    have hbl := (Array.getElem?_eq_some_iff.1 hl).1
    by_cases hlt : k < 3
    · rcases (show k = 0 ∨ k = 1 ∨ k = 2 by omega) with rfl | rfl | rfl
      · obtain ⟨⟨d0, d1, d2, d3, d4, d5⟩, df, _⟩ := cells6 hl
        simp only [Nat.lt_irrefl, if_false, Nat.not_lt_zero] at d1 d3 d5
        go_wp2_with fail
        refine (S1.out wr).mono ?_
        rintro e w2 ⟨rfl, hx⟩
        have hl2 := heap_ext hl hx
        obtain ⟨⟨f0, f1, f2, f3, f4, f5⟩, ff, _⟩ := cells6 hl2
        have ex2 := Ext.step ex hx
        have iq2 := iq.ext hx
        obtain ⟨o1, g1⟩ := store1c (j := 0) (v := .bool n1) hl2
        obtain ⟨o2, g2⟩ := store1c (j := 1) (v := .slice p1 m1 c1) g1
        clear d0 d1 d2 d3 d4 d5 df hx hl
        go_wp2_with fail
        exact ⟨⟨1, by omega, rfl, bxx, iq2.only (o1.next o2) (by omega), g2⟩, by simp [intOf]⟩
      · obtain ⟨⟨d0, d1, d2, d3, d4, d5⟩, df, _⟩ := cells6 hl
        simp only [show ¬ 2 < 1 by decide, show 0 < 1 by decide, show ¬ 1 < 1 by decide, if_false, if_true] at d1 d3 d5
        go_wp2_with fail
        refine (S2.out wr).mono ?_
        rintro e w2 ⟨rfl, hx⟩
        have hl2 := heap_ext hl hx
        obtain ⟨⟨f0, f1, f2, f3, f4, f5⟩, ff, _⟩ := cells6 hl2
        have ex2 := Ext.step ex hx
        have iq2 := iq.ext hx
        obtain ⟨o1, g1⟩ := store1c (j := 2) (v := .bool n2) hl2
        obtain ⟨o2, g2⟩ := store1c (j := 3) (v := .slice p2 m2 c2) g1
        clear d0 d1 d2 d3 d4 d5 df hx hl
        go_wp2_with fail
        exact ⟨⟨2, by omega, rfl, bxx, iq2.only (o1.next o2) (by omega), g2⟩, by simp [intOf]⟩
      · obtain ⟨⟨d0, d1, d2, d3, d4, d5⟩, df, _⟩ := cells6 hl
        simp only [show ¬ 2 < 2 by decide, show 0 < 2 by decide, show 1 < 2 by decide, if_false, if_true] at d1 d3 d5
        go_wp2_with fail
        refine (S3.out wr).mono ?_
        rintro e w2 ⟨rfl, hx⟩
        have hl2 := heap_ext hl hx
        obtain ⟨⟨f0, f1, f2, f3, f4, f5⟩, ff, _⟩ := cells6 hl2
        have ex2 := Ext.step ex hx
        have iq2 := iq.ext hx
        obtain ⟨o1, g1⟩ := store1c (j := 4) (v := .bool n3) hl2
        obtain ⟨o2, g2⟩ := store1c (j := 5) (v := .slice p3 m3 c3) g1
        clear d0 d1 d2 d3 d4 d5 df hx hl
        go_wp2_with fail
        exact ⟨⟨3, by omega, rfl, bxx, iq2.only (o1.next o2) (by omega), g2⟩, by simp [intOf]⟩
    · obtain rfl : k = 3 := by omega
      simp only [show 0 < 3 by decide, show 1 < 3 by decide, show 2 < 3 by decide, if_true] at hl
      have z0 := iq.2 0 _ rfl
      have z1 := iq.2 1 _ rfl
      have z2 := iq.2 2 _ rfl
      have iql := iq.1
      clear hk hlt iq
      go_upto_region 6 with (fail)
      have rr0 := R0.out
      have rr1 := R1.out
      have rr2 := R2.out
      refine wp_KB (wr.heap.size) (fun W => Ext wr W ∧ wr.heap.size ≤ W.heap.size ∧ W.cell? ⟨w.heap.size + 1, 0, none⟩ = some (.int .i64 q0) ∧ W.cell? ⟨w.heap.size + 1, 1, none⟩ = some (.int .i64 q1) ∧ W.cell? ⟨w.heap.size + 1, 2, none⟩ = some (.int .i64 q2)) ?_
      intro hKeep
      repeat (first | refine F_s ?_ | refine F_r ?_)
      refine F_num wr (ofZ r0) (by rfl) (by rfl) (by intro W hW; (try dsimp only at hW); have hwW : wr.heap.size ≤ W.heap.size := (by have hzz := hW; (repeat (first | exact hzz.size | exact hzz.1.size | replace hzz := hzz.1))); go_simp; exact (l02_of r0 _ K0.out.1 K0.out.2).mono fun _ _ h => RetN.isN hwW h) ?_; intro n4 p4 l4 c4 hn4; refine F_put ?_
      repeat (first | refine F_s ?_ | refine F_r ?_)
      refine F_num wr (ofZ r1) (by rfl) (by rfl) (by intro W hW; (try dsimp only at hW); have hwW : wr.heap.size ≤ W.heap.size := (by have hzz := hW; (repeat (first | exact hzz.size | exact hzz.1.size | replace hzz := hzz.1))); go_simp; exact (l02_of r1 _ K1.out.1 K1.out.2).mono fun _ _ h => RetN.isN hwW h) ?_; intro n5 p5 l5 c5 hn5; refine F_put ?_
      repeat (first | refine F_s ?_ | refine F_r ?_)
      refine F_num wr (ofZ r2) (by rfl) (by rfl) (by intro W hW; (try dsimp only at hW); have hwW : wr.heap.size ≤ W.heap.size := (by have hzz := hW; (repeat (first | exact hzz.size | exact hzz.1.size | replace hzz := hzz.1))); go_simp; exact (l02_of r2 _ K2.out.1 K2.out.2).mono fun _ _ h => RetN.isN hwW h) ?_; intro n6 p6 l6 c6 hn6; refine F_put ?_
      repeat (first | refine F_s ?_ | refine F_r ?_)
      refine F_al ?_
      intro g hg
      simp only [List.mem_cons, List.mem_range, not_or, Nat.not_lt] at hg
      repeat (first | refine F_s ?_ | refine F_r ?_)
      refine F_w (fun W => ((_ ∧ NR W n4 p4 l4 c4 (ofZ r0)) ∧ NR W n5 p5 l5 c5 (ofZ r1)) ∧ NR W n6 p6 l6 c6 (ofZ r2)) (fun W hW => hW) ?_
      repeat (first | refine F_s ?_ | refine F_r ?_)
      rintro W6 ⟨⟨⟨⟨⟨hS, a4⟩, a5⟩, a6⟩, hb⟩, _⟩
      have hx := hS.1
      replace ex := Ext.step ex hx
      replace hl := heap_ext hl hx
      replace z0 := (hx.cell (p := ⟨w.heap.size + 1, 0, none⟩) iql).trans z0
      replace z1 := (hx.cell (p := ⟨w.heap.size + 1, 1, none⟩) iql).trans z1
      replace z2 := (hx.cell (p := ⟨w.heap.size + 1, 2, none⟩) iql).trans z2
      replace iql := Nat.lt_of_lt_of_le iql hx.size
      have hgw : w.heap.size < g := by omega
      clear hS hKeep hx hg hn4 hn5 hn6 rr0 rr1 rr2 hbl
      go_upto_region 7 with (fail)
      refine wp_KB (W6.heap.size) (fun W => Ext W6 W ∧ W6.heap.size ≤ W.heap.size ∧ W.cell? ⟨w.heap.size + 1, 0, none⟩ = some (.int .i64 q0) ∧ W.cell? ⟨w.heap.size + 1, 1, none⟩ = some (.int .i64 q1) ∧ W.cell? ⟨w.heap.size + 1, 2, none⟩ = some (.int .i64 q2)) ?_
      intro hKeep
      repeat (first | refine F_s ?_ | refine F_r ?_)
      refine F_num W6 (ofZ q0) (by rfl) (by rfl) (by intro W hW; (try dsimp only at hW); have hwW : W6.heap.size ≤ W.heap.size := (by have hzz := hW; (repeat (first | exact hzz.size | exact hzz.1.size | replace hzz := hzz.1))); go_simp; exact (l02_of q0 _ J0.out.1 J0.out.2).mono fun _ _ h => RetN.isN hwW h) ?_; intro n7 p7 l7 c7 hn7; refine F_put ?_
      repeat (first | refine F_s ?_ | refine F_r ?_)
      refine F_num W6 (ofZ q1) (by rfl) (by rfl) (by intro W hW; (try dsimp only at hW); have hwW : W6.heap.size ≤ W.heap.size := (by have hzz := hW; (repeat (first | exact hzz.size | exact hzz.1.size | replace hzz := hzz.1))); go_simp; exact (l02_of q1 _ J1.out.1 J1.out.2).mono fun _ _ h => RetN.isN hwW h) ?_; intro n8 p8 l8 c8 hn8; refine F_put ?_
      repeat (first | refine F_s ?_ | refine F_r ?_)
      refine F_num W6 (ofZ q2) (by rfl) (by rfl) (by intro W hW; (try dsimp only at hW); have hwW : W6.heap.size ≤ W.heap.size := (by have hzz := hW; (repeat (first | exact hzz.size | exact hzz.1.size | replace hzz := hzz.1))); go_simp; exact (l02_of q2 _ J2.out.1 J2.out.2).mono fun _ _ h => RetN.isN hwW h) ?_; intro n9 p9 l9 c9 hn9; refine F_put ?_
      repeat (first | refine F_s ?_ | refine F_r ?_)
      refine F_al ?_
      intro h hh
      simp only [List.mem_cons, List.mem_range, not_or, Nat.not_lt] at hh
      repeat (first | refine F_s ?_ | refine F_r ?_)
      refine F_w (fun W => ((_ ∧ NR W n7 p7 l7 c7 (ofZ q0)) ∧ NR W n8 p8 l8 c8 (ofZ q1)) ∧ NR W n9 p9 l9 c9 (ofZ q2)) (fun W hW => hW) ?_
      repeat (first | refine F_s ?_ | refine F_r ?_)
      rintro W7 ⟨⟨⟨⟨⟨hS, a7⟩, a8⟩, a9⟩, hc⟩, _⟩
      have hx := hS.1
      replace ex := Ext.step ex hx
      replace hl := heap_ext hl hx
      replace hb := heap_ext hb hx
      replace a4 := a4.ext hx
      replace a5 := a5.ext hx
      replace a6 := a6.ext hx
      clear hS hKeep hx hh hn7 hn8 hn9 z0 z1 z2 iql
      obtain ⟨⟨d0, d1, d2, d3, d4, d5⟩, _, _⟩ := cells6 hl
      obtain ⟨⟨e0, e1, e2, e3, e4, e5⟩, _, hgl⟩ := cells6 hb
      obtain ⟨⟨f0, f1, f2, f3, f4, f5⟩, _, hhl⟩ := cells6 hc
      have A1 := Lib.hid (H1.out.ext ex)
      have A2 := Lib.hid (H2.out.ext ex)
      have A3 := Lib.hid (H3.out.ext ex)
      have A4 := Lib.hid a4
      have A5 := Lib.hid a5
      have A6 := Lib.hid a6
      have A7 := Lib.hid a7
      have A8 := Lib.hid a8
      have A9 := Lib.hid a9
      clear hl hb hc a4 a5 a6 a7 a8 a9
      go_upto_region 8 with (fail)
      refine wp_KB (W7.heap.size) (fun W => Ext W7 W ∧ W7.heap.size ≤ W.heap.size ∧ W.cell? ⟨w.heap.size, 0, none⟩ = some (.bool n1) ∧ W.cell? ⟨w.heap.size, 1, none⟩ = some (.slice p1 m1 c1) ∧ W.cell? ⟨w.heap.size, 2, none⟩ = some (.bool n2) ∧ W.cell? ⟨w.heap.size, 3, none⟩ = some (.slice p2 m2 c2) ∧ W.cell? ⟨w.heap.size, 4, none⟩ = some (.bool n3) ∧ W.cell? ⟨w.heap.size, 5, none⟩ = some (.slice p3 m3 c3) ∧ W.cell? ⟨g, 0, none⟩ = some (.bool n4) ∧ W.cell? ⟨g, 1, none⟩ = some (.slice p4 l4 c4) ∧ W.cell? ⟨g, 2, none⟩ = some (.bool n5) ∧ W.cell? ⟨g, 3, none⟩ = some (.slice p5 l5 c5) ∧ W.cell? ⟨g, 4, none⟩ = some (.bool n6) ∧ W.cell? ⟨g, 5, none⟩ = some (.slice p6 l6 c6) ∧ W.cell? ⟨h, 0, none⟩ = some (.bool n7) ∧ W.cell? ⟨h, 1, none⟩ = some (.slice p7 l7 c7) ∧ W.cell? ⟨h, 2, none⟩ = some (.bool n8) ∧ W.cell? ⟨h, 3, none⟩ = some (.slice p8 l8 c8) ∧ W.cell? ⟨h, 4, none⟩ = some (.bool n9) ∧ W.cell? ⟨h, 5, none⟩ = some (.slice p9 l9 c9)) ?_
      intro hKeep
      repeat (first | refine F_s ?_ | refine F_r ?_)
      refine F_al ?_
      intro u hu
      simp only [List.mem_cons, List.mem_range, not_or, Nat.not_lt] at hu
      repeat (first | refine F_s ?_ | refine F_r ?_)
      refine F_w (fun W => _) (fun W hW => hW) ?_
      repeat (first | refine F_s ?_ | refine F_r ?_)
      rintro W8 ⟨⟨hS, hb⟩, _⟩
      have hx := hS.1
      replace ex := Ext.step ex hx
      have nn := N33.heap (A := triF _ _ _) (B := triF _ _ _) (C := triF _ _ _) hb (A1.out.ext hx) (A2.out.ext hx) (A3.out.ext hx) (A4.out.ext hx) (A5.out.ext hx) (A6.out.ext hx) (A7.out.ext hx) (A8.out.ext hx) (A9.out.ext hx)
      generalize rowF _ _ _ = f at nn
      clear hS hb hx hKeep hu d0 d1 d2 d3 d4 d5 e0 e1 e2 e3 e4 e5 f0 f1 f2 f3 f4 f5 A1 A2 A3 A4 A5 A6 A7 A8 A9 hgl hhl hgw
      go_wp2_with fail
      go_loopw [10] (fun t wr => ∃ i : Nat, i ≤ 3 ∧ t = .int .i64 (i : Int) ∧ Ext w wr ∧ N33 wr u f) (fun t _ => 3 - (intOf t).toNat)
      case atStart => exact ⟨0, by omega, rfl, ex, nn⟩
      case round =>
        clear ex nn
        obtain ⟨i, hi, rfl, ex, nn⟩ := hrel
        by_cases hlt : i < 3
        · have hi3 : (i : Int) < 3 := by omega
          have hi0 : ¬ (i : Int) < 0 := by omega
          obtain ⟨n1, p1, l1, c1, n2, p2, l2, c2, n3, p3, l3, c3, ⟨h0, h1, h2, h3, h4, h5⟩, k1, k2, k3⟩ := nn.2 i hlt
          have hul := nn.1
          go_upto_region 12 with (fail)
          refine wp_KB (wr.heap.size) (fun W => Ext wr W ∧ wr.heap.size ≤ W.heap.size ∧ W.cell? ⟨u, i * 6, none⟩ = some (.bool n1) ∧ W.cell? ⟨u, i * 6 + 1, none⟩ = some (.slice p1 l1 c1) ∧ W.cell? ⟨u, i * 6 + 2, none⟩ = some (.bool n2) ∧ W.cell? ⟨u, i * 6 + 3, none⟩ = some (.slice p2 l2 c2) ∧ W.cell? ⟨u, i * 6 + 4, none⟩ = some (.bool n3) ∧ W.cell? ⟨u, i * 6 + 5, none⟩ = some (.slice p3 l3 c3)) ?_
          intro hKeep
          repeat (first | refine F_s ?_ | refine F_r ?_)
          refine F_al ?_
          intro v hv
          simp only [List.mem_cons, List.mem_range, not_or, Nat.not_lt] at hv
          repeat (first | refine F_s ?_ | refine F_r ?_)
          refine F_w (fun W => _) (fun W hW => hW) ?_
          repeat (first | refine F_s ?_ | refine F_r ?_)
          rintro W12 ⟨⟨hS, hb⟩, _⟩
          have hx := hS.1
          have K1 := Lib.hid (k1.ext hx)
          have K2 := Lib.hid (k2.ext hx)
          have K3 := Lib.hid (k3.ext hx)
          replace ex := Ext.step ex hx
          replace nn := nn.ext hx
          obtain ⟨⟨d0, d1, d2, d3, d4, d5⟩, _, hvl⟩ := cells6 hb
          obtain ⟨z, Z⟩ : ∃ z, Hid (signP (f i 0) (f i 1) (f i 2) = z) := ⟨_, Lib.hid rfl⟩
          have hzz : (z != z) = false := by simp
          clear hS hx hb hKeep hv k1 k2 k3 h0 h1 h2 h3 h4 h5 hul
          go_upto_region 13 with (fail)
          refine wp_FS (fun W => W.cell? ⟨v, 0, none⟩ = some (.bool n1) ∧ W.cell? ⟨v, 1, none⟩ = some (.slice p1 l1 c1) ∧ W.cell? ⟨v, 2, none⟩ = some (.bool n2) ∧ W.cell? ⟨v, 3, none⟩ = some (.slice p2 l2 c2) ∧ W.cell? ⟨v, 4, none⟩ = some (.bool n3) ∧ W.cell? ⟨v, 5, none⟩ = some (.slice p3 l3 c3)) ?_
          repeat (first | refine F_s ?_ | refine F_r ?_)
          (refine F_call (v := .int .i64 z) (by rfl) (by rfl) ?_ ?_; (· (intro W hW; (try dsimp only at hW); go_simp; refine (root_SignE (f i 0) (f i 1) (f i 2) z _ _ _ _ _ _ _ _ _ _ _ _ W (K1.out.ext hW.1) (K2.out.ext hW.1) (K3.out.ext hW.1) Z.out).mono ?_; rintro e w' ⟨rfl, hx⟩; exact ⟨_, rfl, rfl, hx⟩))); refine F_put ?_
          repeat (first | refine F_s ?_ | refine F_r ?_)
          (refine F_call (v := .int .i64 z) (by rfl) (by rfl) ?_ ?_; (· (intro W hW; (try dsimp only at hW); go_simp; refine (r02_SignE (f i 0) (f i 1) (f i 2) z _ _ _ _ _ _ _ _ _ _ _ _ W (K1.out.ext hW.1) (K2.out.ext hW.1) (K3.out.ext hW.1) Z.out).mono ?_; rintro e w' ⟨rfl, hx⟩; exact ⟨_, rfl, rfl, hx⟩))); refine F_put ?_
          repeat (first | refine F_s ?_ | refine F_r ?_)
          rintro W13 ⟨hx, _⟩
          replace ex := Ext.step ex hx
          replace nn := nn.ext hx
          clear hx d0 d1 d2 d3 d4 d5 K1 K2 K3 Z
          go_wp2_with fail
          exact ⟨⟨i + 1, by omega, rfl, ex, nn⟩, by simp [intOf]; omega⟩
        · obtain rfl : i = 3 := by omega
          go_wp2
          go_ret
          exact ⟨rfl, ex⟩
end Go.Proofs.YtghgggaimijcaaaGreatDoor
