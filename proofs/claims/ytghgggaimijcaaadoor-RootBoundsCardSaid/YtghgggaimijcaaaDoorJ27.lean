/- Contracts: etchantref02.Whole, Square. | Contracts: etchantlaw02: of, square, sign, short, cut. | Contract: etchantlaw02.sanity. -/
import Derived.Test.YtghgggaimijcaaaDoorJ21
import Derived.Test.YtghgggaimijcaaaDoorJ24
import Derived.Test.YtghgggaimijcaaaDoorJ25
import Derived.Test.YtghgggaimijcaaaDoorJ23
import Derived.Test.YtghgggaimijcaaaDoorJ26
set_option linter.unusedVariables false
set_option linter.unusedSimpArgs false

namespace Go.Proofs.YtghgggaimijcaaaDoor
open Go.RowKit
attribute [local go_sem] Gives givesU

set_option maxRecDepth 100000 in
set_option maxHeartbeats 1000000 in
theorem r02_Whole (i : Int) (w : World) : Calls Tryd.prog 15 #[.int .i64 i] w (RetRo w ⟨i, 0, zero, ofZ 1⟩) := by
  go_enter Tryd.func15, Tryd.ntmps15
  go_upto_region 1 with (fail)
  refine wp_know (fun W => Ext w W ∧ W.heap[w.heap.size]? = some (.cells #[.int .i64 0, .int .i64 0, .bool false, .slice none 0 0, .bool false, .slice none 0 0] 27)) ⟨bxx, heap_new rfl⟩ ?_
  rintro W0 ⟨ex, rr⟩
  have hz0 := (Array.getElem?_eq_some_iff.1 rr).1
  refine wp_GR (w.heap.size) (.cells #[.int .i64 0, .int .i64 0, .bool false, .slice none 0 0, .bool false, .slice none 0 0] 27) (fun W => Ext w W ∧ W0.heap.size ≤ W.heap.size ∧ True) ?_
  intro hSM hRKS
  repeat (first | refine F_s ?_ | refine F_r ?_)
  refine F_num w (ofZ 1) (by rfl) (by rfl) (by intro W hW; (try dsimp only at hW); have hwW := (show w.heap.size ≤ W.heap.size by have hzz := hW; (repeat (first | exact hzz.size | exact hzz.1.size | replace hzz := hzz.1))); go_simp; exact (r01_Of 1 _ (by decide) (by decide)).mono fun _ _ h => RetN.isN hwW h) ?_; intro n1 p1 l1 c1 hn1; refine F_put ?_
  repeat (first | refine F_s ?_ | refine F_r ?_)
  refine F_w (fun W => _ ∧ NR W n1 p1 l1 c1 (ofZ 1)) (fun W hW => ⟨⟨hW.1.1, hW.2⟩, hW.1.2⟩) ?_
  repeat (first | refine F_s ?_ | refine F_r ?_)
  rintro W1 ⟨⟨⟨⟨hx, hz, _⟩, nr⟩, hb⟩, _⟩
  obtain ⟨⟨c0, c1', c2, c3, c4, c5⟩, _, hl⟩ := cells6 hb
  clear hb rr hz0
  go_wp2
  refine bodyPost_ret (v := .agg #[.int .i64 i, .int .i64 0, .bool false, .slice none 0 0, .bool n1, .slice p1 l1 c1]) (by simp only [results, Tryd.results15]; go_simp) rfl ?_
  exact ⟨false, none, 0, 0, n1, p1, l1, c1, rfl, NR.zero _, nr, hx⟩
set_option maxRecDepth 100000 in
set_option maxHeartbeats 2000000 in
theorem r02_Square (add s i : Int) (b : Rt) (ok : Bool) (w : World) (i1 : -9223372036854775808 ≤ i ∧ i ≤ 9223372036854775807) (hb : ofP add s (ofZ i) (ofZ 1) = (b, ok)) :
    Calls Tryd.prog 31 #[.int .i64 add, .int .i64 s, .int .i64 i] w (RetRo w b) := by
  have CO := Lib.hid (fun W n p l c m q k d (h1 : NR W n p l c (ofZ i)) (h2 : NR W m q k d (ofZ 1)) => r02_OfE add s (ofZ i) (ofZ 1) (b, ok) n m p q l c k d W h1 h2 hb)
  have I1 := Lib.hid i1
  clear hb i1
  go_enter Tryd.func31, Tryd.ntmps31
  go_upto_region 1 with (fail)
  refine wp_know (fun W => Ext w W ∧ W.heap[w.heap.size]? = some (.cells #[.int .i64 0, .int .i64 0, .bool false, .slice none 0 0, .bool false, .slice none 0 0] 27)) ⟨bxx, heap_new rfl⟩ ?_
  rintro W0 ⟨ex, rr⟩
  have hz0 := (Array.getElem?_eq_some_iff.1 rr).1
  refine wp_KB (W0.heap.size) (fun W => Ext W0 W ∧ W0.heap.size ≤ W.heap.size ∧ True) ?_
  intro hKeep
  repeat (first | refine F_s ?_ | refine F_r ?_)
  refine F_num W0 (ofZ i) (by rfl) (by rfl) (by intro W hW; (try dsimp only at hW); have hwW : W0.heap.size ≤ W.heap.size := (by have hzz := hW; (repeat (first | exact hzz.size | exact hzz.1.size | replace hzz := hzz.1))); go_simp; exact (r01_Of i _ I1.out.1 I1.out.2).mono fun _ _ h => RetN.isN hwW h) ?_; intro n1 p1 l1 c1 hn1; refine F_put ?_
  repeat (first | refine F_s ?_ | refine F_r ?_)
  refine F_num W0 (ofZ 1) (by rfl) (by rfl) (by intro W hW; (try dsimp only at hW); have hwW : W0.heap.size ≤ W.heap.size := (by have hzz := hW; (repeat (first | exact hzz.size | exact hzz.1.size | replace hzz := hzz.1))); go_simp; exact (r01_Of 1 _ (by decide) (by decide)).mono fun _ _ h => RetN.isN hwW h) ?_; intro n2 p2 l2 c2 hn2; refine F_put ?_
  repeat (first | refine F_s ?_ | refine F_r ?_)
  refine F_rootB (b, ok) (by rfl) (by rfl) (by intro W hW; (try dsimp only at hW); go_simp; exact (CO.out W _ _ _ _ _ _ _ _ hW.1.2 hW.2).mono fun _ _ h => RetRt.isRb h) ?_; intro n3 p3 l3 c3 m3 q3 k3 d3; refine F_put ?_
  repeat (first | refine F_s ?_ | refine F_r ?_)
  refine F_al ?_
  intro g hg
  simp only [List.mem_cons, List.mem_range, not_or, Nat.not_lt] at hg
  repeat (first | refine F_s ?_ | refine F_r ?_)
  refine F_w (fun W => (_ ∧ NR W n3 p3 l3 c3 b.n) ∧ NR W m3 q3 k3 d3 b.d) (fun W hW => ⟨⟨⟨hW.1.1.1.1.1, hW.1.1.2⟩, hW.1.2⟩, hW.2⟩) ?_
  repeat (first | refine F_s ?_ | refine F_r ?_)
  rintro W1 ⟨⟨⟨⟨hS, nr1⟩, nr2⟩, hb⟩, _⟩
  obtain ⟨⟨g0, g1, g2, g3, g4, g5⟩, _, gl⟩ := cells6 hb
  have hx1 : Ext w W1 := Ext.step ex hS.1
  replace rr := heap_ext rr hS.1
  have hne : w.heap.size < g := by omega
  clear hb hS hKeep ex hn1 hn2 CO I1
  go_upto_region 2 with (fail)
  refine wp_GN (w.heap.size) (.cells #[.int .i64 0, .int .i64 0, .bool false, .slice none 0 0, .bool false, .slice none 0 0] 27) (fun W => Ext w W ∧ W1.heap.size ≤ W.heap.size ∧ W.cell? ⟨g, 0, none⟩ = some (.int .i64 b.add) ∧ W.cell? ⟨g, 1, none⟩ = some (.int .i64 b.s) ∧ W.cell? ⟨g, 2, none⟩ = some (.bool n3) ∧ W.cell? ⟨g, 3, none⟩ = some (.slice p3 l3 c3) ∧ W.cell? ⟨g, 4, none⟩ = some (.bool m3) ∧ W.cell? ⟨g, 5, none⟩ = some (.slice q3 k3 d3)) (fun W => NR W n3 p3 l3 c3 b.n ∧ NR W m3 q3 k3 d3 b.d) ?_
  intro hSM hRKS
  repeat (first | refine F_s ?_ | refine F_r ?_)
  refine F_w (fun W => _) (fun W hW => hW) ?_
  repeat (first | refine F_s ?_ | refine F_r ?_)
  rintro Wb ⟨⟨⟨⟨hx, hz, hc⟩, k1', k2'⟩, hb⟩, _⟩
  obtain ⟨⟨c0, c1', c2, c3', c4, c5⟩, _, hl⟩ := cells6 hb
  clear hc hb nr1 nr2 g0 g1 g2 g3 g4 g5
  go_wp2
  refine bodyPost_ret (v := .agg #[.int .i64 b.add, .int .i64 b.s, .bool n3, .slice p3 l3 c3, .bool m3, .slice q3 k3 d3]) (by simp only [results, Tryd.results31]; go_simp) rfl ?_
  exact ⟨n3, p3, l3, c3, m3, q3, k3, d3, rfl, k1', k2', hx⟩
end Go.Proofs.YtghgggaimijcaaaDoor

namespace Go.Proofs.YtghgggaimijcaaaDoor
open Go.RowKit
attribute [local go_sem] Gives givesU

set_option maxRecDepth 100000 in
set_option maxHeartbeats 1000000 in
theorem l02_of (n : Int) (w : World) (i1 : -9223372036854775808 ≤ n) (i2 : n ≤ 9223372036854775807) : Calls Tryd.prog 7 #[.int .i64 n] w (RetN w (ofZ n)) := by
  go_enter Tryd.func7, Tryd.ntmps7
  go_wp2_with fail
  refine (r01_Of n _ i1 i2).mono ?_
  rintro e w1 ⟨n1, p1, l1, c1, rfl, hnr, hnew, hx⟩
  have hx0 : Ext w w1 := Ext.step bxx hx
  have hz_w1 : w.heap.size + 1 ≤ w1.heap.size := Nat.le_trans omm hx.size
  obtain ⟨hl_w1_0, hk_w1_0, hf_w1_0⟩ := extK hx (w.heap.size)
  go_wp2_with fail
  refine bodyPost_ret (v := .agg #[.bool n1, .slice p1 l1 c1]) (by simp [results, Tryd.results7, go_sem, *]) rfl ?_
  exact ⟨n1, p1, l1, c1, rfl, (by repeat (first | assumption | refine NR.set ?_ (by assumption) _ (by first | (simp; done) | (simp; omega) | omega) _ | refine NR.alloc ?_ _)), hnew.mono (by simp), bxx⟩
set_option maxRecDepth 100000 in
set_option maxHeartbeats 1000000 in
theorem l02_sign (n : Int) (w : World) : Calls Tryd.prog 9 #[.int .i64 n] w fun e w' => e = .returned (.int .i64 (sgn n)) ∧ Ext w w' := by
  rcases (show 0 < n ∨ n < 0 ∨ n = 0 by omega) with h | h | rfl
  · have d1 : decide (0 < n) = true := by simpa using h
    have S : Hid (sgn n = 1) := Lib.hid (by unfold sgn cmpZ; rw [if_neg (by omega), if_neg (by omega)])
    go_enter Tryd.func9, Tryd.ntmps9
    go_wp2
    go_ret
    exact ⟨by rw [S.out]; rfl, bxx⟩
  · have d1 : decide (0 < n) = false := by rw [decide_eq_false_iff_not]; omega
    have d2 : decide (n < 0) = true := by simpa using h
    have S : Hid (sgn n = -1) := Lib.hid (by unfold sgn cmpZ; rw [if_pos h])
    go_enter Tryd.func9, Tryd.ntmps9
    go_wp2
    go_ret
    exact ⟨by rw [S.out]; rfl, bxx⟩
  · go_enter Tryd.func9, Tryd.ntmps9
    go_wp2
    go_ret
    exact ⟨rfl, bxx⟩
set_option maxRecDepth 100000 in
set_option maxHeartbeats 2000000 in
theorem l02_square (add s i : Int) (b : Rt) (ok : Bool) (w : World) (i1 : -9223372036854775808 ≤ i ∧ i ≤ 9223372036854775807) (hb : ofP add s (ofZ i) (ofZ 1) = (b, ok)) :
    Calls Tryd.prog 11 #[.int .i64 add, .int .i64 s, .int .i64 i] w (RetRo w b) := by
  have CO := Lib.hid (fun W => r02_Square add s i b ok W i1 hb)
  clear hb i1
  go_enter Tryd.func11, Tryd.ntmps11
  go_upto_region 1 with (fail)
  refine wp_know (fun W => Ext w W ∧ W.heap[w.heap.size]? = some (.cells #[.int .i64 0, .int .i64 0, .bool false, .slice none 0 0, .bool false, .slice none 0 0] 27)) ⟨bxx, heap_new rfl⟩ ?_
  rintro W0 ⟨ex, rr⟩
  have hz0 := (Array.getElem?_eq_some_iff.1 rr).1
  refine wp_GR (w.heap.size) (.cells #[.int .i64 0, .int .i64 0, .bool false, .slice none 0 0, .bool false, .slice none 0 0] 27) (fun W => Ext w W ∧ W0.heap.size ≤ W.heap.size ∧ True) ?_
  intro hSM hRKS
  repeat (first | refine F_s ?_ | refine F_r ?_)
  refine F_root b (by rfl) (by rfl) (by intro W hW; (try dsimp only at hW); go_simp; exact (CO.out W).mono fun _ _ h => RetRo.isRo h) ?_; intro n3 p3 l3 c3 m3 q3 k3 d3; refine F_put ?_
  repeat (first | refine F_s ?_ | refine F_r ?_)
  refine F_w (fun W => (_ ∧ NR W n3 p3 l3 c3 b.n) ∧ NR W m3 q3 k3 d3 b.d) (fun W hW => ⟨⟨⟨hW.1.1.1, hW.1.2⟩, hW.2⟩, hW.1.1.2⟩) ?_
  repeat (first | refine F_s ?_ | refine F_r ?_)
  rintro W1 ⟨⟨⟨⟨⟨hx, hz, _⟩, nr1⟩, nr2⟩, hb⟩, _⟩
  obtain ⟨⟨c0, c1', c2, c3', c4, c5⟩, _, hl⟩ := cells6 hb
  clear hb rr hz0
  go_wp2
  refine bodyPost_ret (v := .agg #[.int .i64 b.add, .int .i64 b.s, .bool n3, .slice p3 l3 c3, .bool m3, .slice q3 k3 d3]) (by simp only [results, Tryd.results11]; go_simp) rfl ?_
  exact ⟨n3, p3, l3, c3, m3, q3, k3, d3, rfl, nr1, nr2, hx⟩
end Go.Proofs.YtghgggaimijcaaaDoor

namespace Go.Proofs.YtghgggaimijcaaaDoor
open Go.RowKit
attribute [local go_sem] Gives givesU
--@deep

set_option maxRecDepth 100000 in
set_option maxHeartbeats 16000000 in
theorem law_sanity2 (w : World) (ht : Tab w) : Calls Tryd.prog 5 #[] w fun e w' => e = .returned (.bool true) ∧ Ext w w' := by
  have TB := Lib.hid ht
  clear ht
  go_enter Tryd.func5, Tryd.ntmps5
  go_upto_region 1 with (fail)
  refine wp_know (fun W => Ext w W) bxx ?_
  rintro W0 ex
  refine wp_KB (W0.heap.size) (fun W => Ext W0 W ∧ W0.heap.size ≤ W.heap.size ∧ True) ?_
  intro hKeep
  repeat (first | refine F_s ?_ | refine F_r ?_)
  refine F_num W0 (ofZ (8)) (by rfl) (by rfl) (by intro W hW; (try dsimp only at hW); have hwW : W0.heap.size ≤ W.heap.size := (by have hzz := hW; (repeat (first | exact hzz.size | exact hzz.1.size | replace hzz := hzz.1))); go_simp; exact (l02_of (8) _ (by decide) (by decide)).mono fun _ _ h => RetN.isN hwW h) ?_; intro n1 p1 l1 c1 hn1; refine F_put ?_
  repeat (first | refine F_s ?_ | refine F_r ?_)
  refine F_num W0 (ofZ (18)) (by rfl) (by rfl) (by intro W hW; (try dsimp only at hW); have hwW : W0.heap.size ≤ W.heap.size := (by have hzz := hW; (repeat (first | exact hzz.size | exact hzz.1.size | replace hzz := hzz.1))); go_simp; exact (l02_of (18) _ (by decide) (by decide)).mono fun _ _ h => RetN.isN hwW h) ?_; intro n2 p2 l2 c2 hn2; refine F_put ?_
  repeat (first | refine F_s ?_ | refine F_r ?_)
  refine F_rootB (((⟨3, -1, ofZ 4, ofZ 9⟩ : Rt), true)) (by rfl) (by rfl) (by intro W hW; (try dsimp only at hW); go_simp; exact (root_OfE (3) (-1) (ofZ (8)) (ofZ (18)) ((⟨3, -1, ofZ 4, ofZ 9⟩ : Rt), true) _ _ _ _ _ _ _ _ W hW.1.2 hW.2 ex_of1).mono fun _ _ h => RetRt.isRb h) ?_; intro na pa la ca ma qa ka da; refine F_put ?_
  repeat (first | refine F_s ?_ | refine F_r ?_)
  refine F_al ?_
  intro ga hga
  simp only [List.mem_cons, List.mem_range, not_or, Nat.not_lt] at hga
  repeat (first | refine F_s ?_ | refine F_r ?_)
  refine F_w (fun W => (_ ∧ NR W na pa la ca ((⟨3, -1, ofZ 4, ofZ 9⟩ : Rt)).n) ∧ NR W ma qa ka da ((⟨3, -1, ofZ 4, ofZ 9⟩ : Rt)).d) (fun W hW => ⟨⟨⟨hW.1.1.1.1.1, hW.1.1.2⟩, hW.1.2⟩, hW.2⟩) ?_
  repeat (first | refine F_s ?_ | refine F_r ?_)
  rintro W1 ⟨⟨⟨⟨hS, nr1⟩, nr2⟩, hb⟩, _⟩
  replace ex := Ext.step ex hS.1
  have va : RV W1 ga (⟨3, -1, ofZ 4, ofZ 9⟩ : Rt) na pa la ca ma qa ka da := ⟨RB.heap hb, nr1, nr2⟩
  clear hS nr1 nr2 hb hKeep hn1 hn2
  go_upto_region 2 with (fail)
  refine wp_KB (W1.heap.size) (fun W => Ext W1 W ∧ W1.heap.size ≤ W.heap.size ∧ True) ?_
  intro hKeep
  repeat (first | refine F_s ?_ | refine F_r ?_)
  refine F_num W1 (ofZ (0)) (by rfl) (by rfl) (by intro W hW; (try dsimp only at hW); have hwW : W1.heap.size ≤ W.heap.size := (by have hzz := hW; (repeat (first | exact hzz.size | exact hzz.1.size | replace hzz := hzz.1))); go_simp; exact (l02_of (0) _ (by decide) (by decide)).mono fun _ _ h => RetN.isN hwW h) ?_; intro n1 p1 l1 c1 hn1; refine F_put ?_
  repeat (first | refine F_s ?_ | refine F_r ?_)
  refine F_num W1 (ofZ (5)) (by rfl) (by rfl) (by intro W hW; (try dsimp only at hW); have hwW : W1.heap.size ≤ W.heap.size := (by have hzz := hW; (repeat (first | exact hzz.size | exact hzz.1.size | replace hzz := hzz.1))); go_simp; exact (l02_of (5) _ (by decide) (by decide)).mono fun _ _ h => RetN.isN hwW h) ?_; intro n2 p2 l2 c2 hn2; refine F_put ?_
  repeat (first | refine F_s ?_ | refine F_r ?_)
  refine F_rootB (((⟨3, 0, zero, ofZ 1⟩ : Rt), true)) (by rfl) (by rfl) (by intro W hW; (try dsimp only at hW); go_simp; exact (root_OfE (3) (1) (ofZ (0)) (ofZ (5)) ((⟨3, 0, zero, ofZ 1⟩ : Rt), true) _ _ _ _ _ _ _ _ W hW.1.2 hW.2 ex_of2).mono fun _ _ h => RetRt.isRb h) ?_; intro nb pb lb cb mb qb kb db; refine F_put ?_
  repeat (first | refine F_s ?_ | refine F_r ?_)
  refine F_al ?_
  intro gb hgb
  simp only [List.mem_cons, List.mem_range, not_or, Nat.not_lt] at hgb
  repeat (first | refine F_s ?_ | refine F_r ?_)
  refine F_w (fun W => (_ ∧ NR W nb pb lb cb ((⟨3, 0, zero, ofZ 1⟩ : Rt)).n) ∧ NR W mb qb kb db ((⟨3, 0, zero, ofZ 1⟩ : Rt)).d) (fun W hW => ⟨⟨⟨hW.1.1.1.1.1, hW.1.1.2⟩, hW.1.2⟩, hW.2⟩) ?_
  repeat (first | refine F_s ?_ | refine F_r ?_)
  rintro W2 ⟨⟨⟨⟨hS, nr1⟩, nr2⟩, hb⟩, _⟩
  replace ex := Ext.step ex hS.1
  replace va := va.ext hS.1
  have vb : RV W2 gb (⟨3, 0, zero, ofZ 1⟩ : Rt) nb pb lb cb mb qb kb db := ⟨RB.heap hb, nr1, nr2⟩
  clear hS nr1 nr2 hb hKeep hn1 hn2
  go_upto_region 3 with (fail)
  refine wp_KB (W2.heap.size) (fun W => Ext W2 W ∧ W2.heap.size ≤ W.heap.size ∧ True) ?_
  intro hKeep
  repeat (first | refine F_s ?_ | refine F_r ?_)
  refine F_num W2 (ofZ (1)) (by rfl) (by rfl) (by intro W hW; (try dsimp only at hW); have hwW : W2.heap.size ≤ W.heap.size := (by have hzz := hW; (repeat (first | exact hzz.size | exact hzz.1.size | replace hzz := hzz.1))); go_simp; exact (l02_of (1) _ (by decide) (by decide)).mono fun _ _ h => RetN.isN hwW h) ?_; intro n1 p1 l1 c1 hn1; refine F_put ?_
  repeat (first | refine F_s ?_ | refine F_r ?_)
  refine F_num W2 (ofZ (0)) (by rfl) (by rfl) (by intro W hW; (try dsimp only at hW); have hwW : W2.heap.size ≤ W.heap.size := (by have hzz := hW; (repeat (first | exact hzz.size | exact hzz.1.size | replace hzz := hzz.1))); go_simp; exact (l02_of (0) _ (by decide) (by decide)).mono fun _ _ h => RetN.isN hwW h) ?_; intro n2 p2 l2 c2 hn2; refine F_put ?_
  repeat (first | refine F_s ?_ | refine F_r ?_)
  refine F_rootB ((Rt.no, false)) (by rfl) (by rfl) (by intro W hW; (try dsimp only at hW); go_simp; exact (root_OfE (0) (1) (ofZ (1)) (ofZ (0)) (Rt.no, false) _ _ _ _ _ _ _ _ W hW.1.2 hW.2 ex_of3).mono fun _ _ h => RetRt.isRb h) ?_; intro nz pz lz cz mz qz kz dz; refine F_put ?_
  repeat (first | refine F_s ?_ | refine F_r ?_)
  refine F_al ?_
  intro gz hgz
  simp only [List.mem_cons, List.mem_range, not_or, Nat.not_lt] at hgz
  repeat (first | refine F_s ?_ | refine F_r ?_)
  refine F_w (fun W => (_ ∧ NR W nz pz lz cz (Rt.no).n) ∧ NR W mz qz kz dz (Rt.no).d) (fun W hW => ⟨⟨⟨hW.1.1.1.1.1, hW.1.1.2⟩, hW.1.2⟩, hW.2⟩) ?_
  repeat (first | refine F_s ?_ | refine F_r ?_)
  rintro W3 ⟨⟨⟨⟨hS, nr1⟩, nr2⟩, hb⟩, _⟩
  replace ex := Ext.step ex hS.1
  replace va := va.ext hS.1
  replace vb := vb.ext hS.1
  clear hS nr1 nr2 hb hKeep hn1 hn2
  go_upto_region 4 with (fail)
  refine wp_KB (W3.heap.size) (fun W => Ext W3 W ∧ W3.heap.size ≤ W.heap.size ∧ True) ?_
  intro hKeep
  repeat (first | refine F_s ?_ | refine F_r ?_)
  refine F_num W3 (ofZ (1)) (by rfl) (by rfl) (by intro W hW; (try dsimp only at hW); have hwW : W3.heap.size ≤ W.heap.size := (by have hzz := hW; (repeat (first | exact hzz.size | exact hzz.1.size | replace hzz := hzz.1))); go_simp; exact (l02_of (1) _ (by decide) (by decide)).mono fun _ _ h => RetN.isN hwW h) ?_; intro n1 p1 l1 c1 hn1; refine F_put ?_
  repeat (first | refine F_s ?_ | refine F_r ?_)
  refine F_num W3 (ofZ (1)) (by rfl) (by rfl) (by intro W hW; (try dsimp only at hW); have hwW : W3.heap.size ≤ W.heap.size := (by have hzz := hW; (repeat (first | exact hzz.size | exact hzz.1.size | replace hzz := hzz.1))); go_simp; exact (l02_of (1) _ (by decide) (by decide)).mono fun _ _ h => RetN.isN hwW h) ?_; intro n2 p2 l2 c2 hn2; refine F_put ?_
  repeat (first | refine F_s ?_ | refine F_r ?_)
  refine F_rootB ((Rt.no, false)) (by rfl) (by rfl) (by intro W hW; (try dsimp only at hW); go_simp; exact (root_OfE (0) (2) (ofZ (1)) (ofZ (1)) (Rt.no, false) _ _ _ _ _ _ _ _ W hW.1.2 hW.2 ex_of4).mono fun _ _ h => RetRt.isRb h) ?_; intro nz pz lz cz mz qz kz dz; refine F_put ?_
  repeat (first | refine F_s ?_ | refine F_r ?_)
  refine F_al ?_
  intro gz hgz
  simp only [List.mem_cons, List.mem_range, not_or, Nat.not_lt] at hgz
  repeat (first | refine F_s ?_ | refine F_r ?_)
  refine F_w (fun W => (_ ∧ NR W nz pz lz cz (Rt.no).n) ∧ NR W mz qz kz dz (Rt.no).d) (fun W hW => ⟨⟨⟨hW.1.1.1.1.1, hW.1.1.2⟩, hW.1.2⟩, hW.2⟩) ?_
  repeat (first | refine F_s ?_ | refine F_r ?_)
  rintro W4 ⟨⟨⟨⟨hS, nr1⟩, nr2⟩, hb⟩, _⟩
  replace ex := Ext.step ex hS.1
  replace va := va.ext hS.1
  replace vb := vb.ext hS.1
  clear hS nr1 nr2 hb hKeep hn1 hn2
  go_upto_region 5 with (fail)
  obtain ⟨⟨a0, a1, a2, ⟨a3, a4⟩, ⟨a5, a6⟩, af⟩, an, ad⟩ := va
  clear af
  obtain ⟨⟨b0, b1, b2, ⟨b3, b4⟩, ⟨b5, b6⟩, bf⟩, bn, bd⟩ := vb
  clear bf
  have Han := Lib.hid an
  have Had := Lib.hid ad
  clear an ad
  have Hbn := Lib.hid bn
  have Hbd := Lib.hid bd
  clear bn bd
  refine wp_KB (W4.heap.size) (fun W => Ext W4 W ∧ W4.heap.size ≤ W.heap.size ∧ W.cell? ⟨ga, 0, none⟩ = some (.int .i64 3) ∧ W.cell? ⟨ga, 1, none⟩ = some (.int .i64 (-1)) ∧ W.cell? ⟨ga, 2, none⟩ = some (.bool na) ∧ W.cell? ⟨ga, 3, none⟩ = some (.slice pa la ca) ∧ W.cell? ⟨ga, 4, none⟩ = some (.bool ma) ∧ W.cell? ⟨ga, 5, none⟩ = some (.slice qa ka da) ∧ W.cell? ⟨gb, 0, none⟩ = some (.int .i64 3) ∧ W.cell? ⟨gb, 1, none⟩ = some (.int .i64 0) ∧ W.cell? ⟨gb, 2, none⟩ = some (.bool nb) ∧ W.cell? ⟨gb, 3, none⟩ = some (.slice pb lb cb) ∧ W.cell? ⟨gb, 4, none⟩ = some (.bool mb) ∧ W.cell? ⟨gb, 5, none⟩ = some (.slice qb kb db)) ?_
  intro hKeep
  repeat (first | refine F_s ?_ | refine F_r ?_)
  refine F_num W4 (ofZ (4)) (by rfl) (by rfl) (by intro W hW; (try dsimp only at hW); have hwW : W4.heap.size ≤ W.heap.size := (by have hzz := hW; (repeat (first | exact hzz.size | exact hzz.1.size | replace hzz := hzz.1))); go_simp; exact (l02_of (4) _ (by decide) (by decide)).mono fun _ _ h => RetN.isN hwW h) ?_; intro n1 p1 l1 c1 hn1; refine F_put ?_
  repeat (first | refine F_s ?_ | refine F_r ?_)
  refine F_num W4 (ofZ (9)) (by rfl) (by rfl) (by intro W hW; (try dsimp only at hW); have hwW : W4.heap.size ≤ W.heap.size := (by have hzz := hW; (repeat (first | exact hzz.size | exact hzz.1.size | replace hzz := hzz.1))); go_simp; exact (l02_of (9) _ (by decide) (by decide)).mono fun _ _ h => RetN.isN hwW h) ?_; intro n2 p2 l2 c2 hn2; refine F_put ?_
  repeat (first | refine F_s ?_ | refine F_r ?_)
  (refine F_call (v := .bool true) (by rfl) (by rfl) ?_ ?_; (· (intro W hW; (try dsimp only at hW); go_simp; refine (r02_SameT 3 (-1) (ofZ 4) (ofZ 9) 3 (-1) (ofZ 4) (ofZ 9) true _ _ _ _ _ _ _ _ _ _ _ _ _ _ _ _ W (Han.out.ext hW.1.1.1) (Had.out.ext hW.1.1.1) hW.1.2 hW.2 (sameR_self _)).mono ?_; rintro e w' ⟨rfl, hx⟩; exact ⟨_, rfl, rfl, hx⟩))); refine F_put ?_
  repeat (first | refine F_s ?_ | refine F_r ?_)
  (refine F_call (v := .string ⟨#[51, 45, 114, 52, 47, 57]⟩) (by rfl) (by rfl) ?_ ?_; (· (intro W hW; (try dsimp only at hW); go_simp; refine (root_TextE 3 (-1) (ofZ 4) (ofZ 9) _ _ _ _ _ _ _ _ _ W (Han.out.ext hW.1.1.1) (Had.out.ext hW.1.1.1) (TB.out.ext (Ext.step ex hW.1.1.1)) (by decide) ex_text).mono ?_; rintro e w' ⟨rfl, hx⟩; exact ⟨_, rfl, rfl, hx⟩))); refine F_put ?_
  repeat (first | refine F_s ?_ | refine F_r ?_)
  refine F_root (⟨3, 0, zero, ofZ 1⟩ : Rt) (by rfl) (by rfl) (by intro W hW; (try dsimp only at hW); go_simp; exact (r02_Whole 3 W).mono fun _ _ h => RetRo.isRo h) ?_; intro n3 p3 l3 c3 m3 q3 k3 d3; refine F_put ?_
  repeat (first | refine F_s ?_ | refine F_r ?_)
  (refine F_call (v := .bool true) (by rfl) (by rfl) ?_ ?_; (· (intro W hW; (try dsimp only at hW); go_simp; refine (r02_SameT 3 0 zero (ofZ 1) 3 0 zero (ofZ 1) true _ _ _ _ _ _ _ _ _ _ _ _ _ _ _ _ W (Hbn.out.ext hW.1.1.1.1.1) (Hbd.out.ext hW.1.1.1.1.1) hW.1.2 hW.2 (sameR_self _)).mono ?_; rintro e w' ⟨rfl, hx⟩; exact ⟨_, rfl, rfl, hx⟩))); refine F_put ?_
  repeat (first | refine F_s ?_ | refine F_r ?_)
  rintro W5 ⟨⟨⟨⟨hS, _⟩, _⟩, _⟩, _⟩
  replace ex := Ext.step ex hS.1
  clear hS hKeep hn1 hn2 Han Had Hbn Hbd a0 a1 a2 a3 a4 a5 a6 b0 b1 b2 b3 b4 b5 b6
  go_upto_region 6 with (fail)
  refine wp_KB (W5.heap.size) (fun W => Ext W5 W ∧ W5.heap.size ≤ W.heap.size ∧ True) ?_
  intro hKeep
  repeat (first | refine F_s ?_ | refine F_r ?_)
  refine F_num W5 (ofZ (-3)) (by rfl) (by rfl) (by intro W hW; (try dsimp only at hW); have hwW : W5.heap.size ≤ W.heap.size := (by have hzz := hW; (repeat (first | exact hzz.size | exact hzz.1.size | replace hzz := hzz.1))); go_simp; exact (l02_of (-3) _ (by decide) (by decide)).mono fun _ _ h => RetN.isN hwW h) ?_; intro n1 p1 l1 c1 hn1; refine F_put ?_
  repeat (first | refine F_s ?_ | refine F_r ?_)
  refine F_num W5 (ofZ (2)) (by rfl) (by rfl) (by intro W hW; (try dsimp only at hW); have hwW : W5.heap.size ≤ W.heap.size := (by have hzz := hW; (repeat (first | exact hzz.size | exact hzz.1.size | replace hzz := hzz.1))); go_simp; exact (l02_of (2) _ (by decide) (by decide)).mono fun _ _ h => RetN.isN hwW h) ?_; intro n2 p2 l2 c2 hn2; refine F_put ?_
  repeat (first | refine F_s ?_ | refine F_r ?_)
  refine F_num W5 (ofZ (2)) (by rfl) (by rfl) (by intro W hW; (try dsimp only at hW); have hwW : W5.heap.size ≤ W.heap.size := (by have hzz := hW; (repeat (first | exact hzz.size | exact hzz.1.size | replace hzz := hzz.1))); go_simp; exact (l02_of (2) _ (by decide) (by decide)).mono fun _ _ h => RetN.isN hwW h) ?_; intro n3 p3 l3 c3 hn3; refine F_put ?_
  repeat (first | refine F_s ?_ | refine F_r ?_)
  (refine F_call (v := .int .i64 (-1)) (by rfl) (by rfl) ?_ ?_; (· (intro W hW; (try dsimp only at hW); go_simp; refine (root_SignE (ofZ (-3)) (ofZ (2)) (ofZ (2)) (-1) _ _ _ _ _ _ _ _ _ _ _ _ W hW.1.1.2 hW.1.2 hW.2 ((signP_nat (by decide) (by decide) (by decide) (by decide)).trans (by decide))).mono ?_; rintro e w' ⟨rfl, hx⟩; exact ⟨_, rfl, rfl, hx⟩))); refine F_put ?_
  repeat (first | refine F_s ?_ | refine F_r ?_)
  refine F_num W5 (ofZ (-3)) (by rfl) (by rfl) (by intro W hW; (try dsimp only at hW); have hwW : W5.heap.size ≤ W.heap.size := (by have hzz := hW; (repeat (first | exact hzz.size | exact hzz.1.size | replace hzz := hzz.1))); go_simp; exact (l02_of (-3) _ (by decide) (by decide)).mono fun _ _ h => RetN.isN hwW h) ?_; intro n4 p4 l4 c4 hn4; refine F_put ?_
  repeat (first | refine F_s ?_ | refine F_r ?_)
  refine F_num W5 (ofZ (2)) (by rfl) (by rfl) (by intro W hW; (try dsimp only at hW); have hwW : W5.heap.size ≤ W.heap.size := (by have hzz := hW; (repeat (first | exact hzz.size | exact hzz.1.size | replace hzz := hzz.1))); go_simp; exact (l02_of (2) _ (by decide) (by decide)).mono fun _ _ h => RetN.isN hwW h) ?_; intro n5 p5 l5 c5 hn5; refine F_put ?_
  repeat (first | refine F_s ?_ | refine F_r ?_)
  refine F_num W5 (ofZ (3)) (by rfl) (by rfl) (by intro W hW; (try dsimp only at hW); have hwW : W5.heap.size ≤ W.heap.size := (by have hzz := hW; (repeat (first | exact hzz.size | exact hzz.1.size | replace hzz := hzz.1))); go_simp; exact (l02_of (3) _ (by decide) (by decide)).mono fun _ _ h => RetN.isN hwW h) ?_; intro n6 p6 l6 c6 hn6; refine F_put ?_
  repeat (first | refine F_s ?_ | refine F_r ?_)
  (refine F_call (v := .int .i64 (1)) (by rfl) (by rfl) ?_ ?_; (· (intro W hW; (try dsimp only at hW); go_simp; refine (root_SignE (ofZ (-3)) (ofZ (2)) (ofZ (3)) (1) _ _ _ _ _ _ _ _ _ _ _ _ W hW.1.1.2 hW.1.2 hW.2 ((signP_nat (by decide) (by decide) (by decide) (by decide)).trans (by decide))).mono ?_; rintro e w' ⟨rfl, hx⟩; exact ⟨_, rfl, rfl, hx⟩))); refine F_put ?_
  repeat (first | refine F_s ?_ | refine F_r ?_)
  refine F_num W5 (ofZ (-4)) (by rfl) (by rfl) (by intro W hW; (try dsimp only at hW); have hwW : W5.heap.size ≤ W.heap.size := (by have hzz := hW; (repeat (first | exact hzz.size | exact hzz.1.size | replace hzz := hzz.1))); go_simp; exact (l02_of (-4) _ (by decide) (by decide)).mono fun _ _ h => RetN.isN hwW h) ?_; intro n7 p7 l7 c7 hn7; refine F_put ?_
  repeat (first | refine F_s ?_ | refine F_r ?_)
  refine F_num W5 (ofZ (2)) (by rfl) (by rfl) (by intro W hW; (try dsimp only at hW); have hwW : W5.heap.size ≤ W.heap.size := (by have hzz := hW; (repeat (first | exact hzz.size | exact hzz.1.size | replace hzz := hzz.1))); go_simp; exact (l02_of (2) _ (by decide) (by decide)).mono fun _ _ h => RetN.isN hwW h) ?_; intro n8 p8 l8 c8 hn8; refine F_put ?_
  repeat (first | refine F_s ?_ | refine F_r ?_)
  refine F_num W5 (ofZ (4)) (by rfl) (by rfl) (by intro W hW; (try dsimp only at hW); have hwW : W5.heap.size ≤ W.heap.size := (by have hzz := hW; (repeat (first | exact hzz.size | exact hzz.1.size | replace hzz := hzz.1))); go_simp; exact (l02_of (4) _ (by decide) (by decide)).mono fun _ _ h => RetN.isN hwW h) ?_; intro n9 p9 l9 c9 hn9; refine F_put ?_
  repeat (first | refine F_s ?_ | refine F_r ?_)
  (refine F_call (v := .int .i64 (0)) (by rfl) (by rfl) ?_ ?_; (· (intro W hW; (try dsimp only at hW); go_simp; refine (root_SignE (ofZ (-4)) (ofZ (2)) (ofZ (4)) (0) _ _ _ _ _ _ _ _ _ _ _ _ W hW.1.1.2 hW.1.2 hW.2 ((signP_nat (by decide) (by decide) (by decide) (by decide)).trans (by decide))).mono ?_; rintro e w' ⟨rfl, hx⟩; exact ⟨_, rfl, rfl, hx⟩))); refine F_put ?_
  repeat (first | refine F_s ?_ | refine F_r ?_)
  refine F_num W5 (ofZ (0)) (by rfl) (by rfl) (by intro W hW; (try dsimp only at hW); have hwW : W5.heap.size ≤ W.heap.size := (by have hzz := hW; (repeat (first | exact hzz.size | exact hzz.1.size | replace hzz := hzz.1))); go_simp; exact (l02_of (0) _ (by decide) (by decide)).mono fun _ _ h => RetN.isN hwW h) ?_; intro n10 p10 l10 c10 hn10; refine F_put ?_
  repeat (first | refine F_s ?_ | refine F_r ?_)
  refine F_num W5 (ofZ (-1)) (by rfl) (by rfl) (by intro W hW; (try dsimp only at hW); have hwW : W5.heap.size ≤ W.heap.size := (by have hzz := hW; (repeat (first | exact hzz.size | exact hzz.1.size | replace hzz := hzz.1))); go_simp; exact (l02_of (-1) _ (by decide) (by decide)).mono fun _ _ h => RetN.isN hwW h) ?_; intro n11 p11 l11 c11 hn11; refine F_put ?_
  repeat (first | refine F_s ?_ | refine F_r ?_)
  refine F_num W5 (ofZ (0)) (by rfl) (by rfl) (by intro W hW; (try dsimp only at hW); have hwW : W5.heap.size ≤ W.heap.size := (by have hzz := hW; (repeat (first | exact hzz.size | exact hzz.1.size | replace hzz := hzz.1))); go_simp; exact (l02_of (0) _ (by decide) (by decide)).mono fun _ _ h => RetN.isN hwW h) ?_; intro n12 p12 l12 c12 hn12; refine F_put ?_
  repeat (first | refine F_s ?_ | refine F_r ?_)
  (refine F_call (v := .int .i64 (0)) (by rfl) (by rfl) ?_ ?_; (· (intro W hW; (try dsimp only at hW); go_simp; refine (root_SignE (ofZ (0)) (ofZ (-1)) (ofZ (0)) (0) _ _ _ _ _ _ _ _ _ _ _ _ W hW.1.1.2 hW.1.2 hW.2 ((signP_nat (by decide) (by decide) (by decide) (by decide)).trans (by decide))).mono ?_; rintro e w' ⟨rfl, hx⟩; exact ⟨_, rfl, rfl, hx⟩))); refine F_put ?_
  repeat (first | refine F_s ?_ | refine F_r ?_)
  rintro W6 ⟨⟨⟨⟨⟨⟨⟨⟨⟨⟨⟨⟨hS, _⟩, _⟩, _⟩, _⟩, _⟩, _⟩, _⟩, _⟩, _⟩, _⟩, _⟩, _⟩
  replace ex := Ext.step ex hS.1
  clear hS hKeep hn1 hn2 hn3 hn4 hn5 hn6 hn7 hn8 hn9 hn10 hn11 hn12
  go_upto_region 7 with (fail)
  refine wp_KB (W6.heap.size) (fun W => Ext W6 W ∧ W6.heap.size ≤ W.heap.size ∧ True) ?_
  intro hKeep
  repeat (first | refine F_s ?_ | refine F_r ?_)
  refine F_root (sqR (0) (1) 2) (by rfl) (by rfl) (by intro W hW; (try dsimp only at hW); go_simp; exact (l02_square (0) (1) (2) (sqR (0) (1) 2) true W (by decide) (ofP_sq (by decide) (Nat.lt_trans (by decide) big8) (by decide))).mono fun _ _ h => RetRo.isRo h) ?_; intro n1 p1 l1 c1 m1 q1 k1 d1; refine F_put ?_
  repeat (first | refine F_s ?_ | refine F_r ?_)
  refine F_root (sqR (3) (-1) 3) (by rfl) (by rfl) (by intro W hW; (try dsimp only at hW); go_simp; exact (l02_square (3) (-1) (3) (sqR (3) (-1) 3) true W (by decide) (ofP_sq (by decide) (Nat.lt_trans (by decide) big8) (by decide))).mono fun _ _ h => RetRo.isRo h) ?_; intro n2 p2 l2 c2 m2 q2 k2 d2; refine F_put ?_
  repeat (first | refine F_s ?_ | refine F_r ?_)
  (refine F_call (v := .int .i64 (1)) (by rfl) (by rfl) ?_ ?_; (· (intro W hW; (try dsimp only at hW); go_simp; refine (root_CmpE (0) (1) (3) (-1) (ofZ ((2 : Nat) : Int)) (ofZ 1) (ofZ ((3 : Nat) : Int)) (ofZ 1) (1) _ _ _ _ _ _ _ _ _ _ _ _ _ _ _ _ W hW.1.1.1.2 hW.1.1.2 hW.1.2 hW.2 (by decide) (by decide) ((cmp_sq2 (by decide) (by decide) (by decide) (by decide) (by decide) (by decide)).trans (by decide))).mono ?_; rintro e w' ⟨rfl, hx⟩; exact ⟨_, rfl, rfl, hx⟩))); refine F_put ?_
  repeat (first | refine F_s ?_ | refine F_r ?_)
  refine F_root (sqR (1) (1) 2) (by rfl) (by rfl) (by intro W hW; (try dsimp only at hW); go_simp; exact (l02_square (1) (1) (2) (sqR (1) (1) 2) true W (by decide) (ofP_sq (by decide) (Nat.lt_trans (by decide) big8) (by decide))).mono fun _ _ h => RetRo.isRo h) ?_; intro n3 p3 l3 c3 m3 q3 k3 d3; refine F_put ?_
  repeat (first | refine F_s ?_ | refine F_r ?_)
  refine F_root (sqR (0) (1) 6) (by rfl) (by rfl) (by intro W hW; (try dsimp only at hW); go_simp; exact (l02_square (0) (1) (6) (sqR (0) (1) 6) true W (by decide) (ofP_sq (by decide) (Nat.lt_trans (by decide) big8) (by decide))).mono fun _ _ h => RetRo.isRo h) ?_; intro n4 p4 l4 c4 m4 q4 k4 d4; refine F_put ?_
  repeat (first | refine F_s ?_ | refine F_r ?_)
  (refine F_call (v := .int .i64 (-1)) (by rfl) (by rfl) ?_ ?_; (· (intro W hW; (try dsimp only at hW); go_simp; refine (root_CmpE (1) (1) (0) (1) (ofZ ((2 : Nat) : Int)) (ofZ 1) (ofZ ((6 : Nat) : Int)) (ofZ 1) (-1) _ _ _ _ _ _ _ _ _ _ _ _ _ _ _ _ W hW.1.1.1.2 hW.1.1.2 hW.1.2 hW.2 (by decide) (by decide) ((cmp_sq2 (by decide) (by decide) (by decide) (by decide) (by decide) (by decide)).trans (by decide))).mono ?_; rintro e w' ⟨rfl, hx⟩; exact ⟨_, rfl, rfl, hx⟩))); refine F_put ?_
  repeat (first | refine F_s ?_ | refine F_r ?_)
  refine F_root (sqR (-1) (1) 8) (by rfl) (by rfl) (by intro W hW; (try dsimp only at hW); go_simp; exact (l02_square (-1) (1) (8) (sqR (-1) (1) 8) true W (by decide) (ofP_sq (by decide) (Nat.lt_trans (by decide) big8) (by decide))).mono fun _ _ h => RetRo.isRo h) ?_; intro n5 p5 l5 c5 m5 q5 k5 d5; refine F_put ?_
  repeat (first | refine F_s ?_ | refine F_r ?_)
  refine F_root (sqR (4) (-1) 5) (by rfl) (by rfl) (by intro W hW; (try dsimp only at hW); go_simp; exact (l02_square (4) (-1) (5) (sqR (4) (-1) 5) true W (by decide) (ofP_sq (by decide) (Nat.lt_trans (by decide) big8) (by decide))).mono fun _ _ h => RetRo.isRo h) ?_; intro n6 p6 l6 c6 m6 q6 k6 d6; refine F_put ?_
  repeat (first | refine F_s ?_ | refine F_r ?_)
  (refine F_call (v := .int .i64 (1)) (by rfl) (by rfl) ?_ ?_; (· (intro W hW; (try dsimp only at hW); go_simp; refine (root_CmpE (-1) (1) (4) (-1) (ofZ ((8 : Nat) : Int)) (ofZ 1) (ofZ ((5 : Nat) : Int)) (ofZ 1) (1) _ _ _ _ _ _ _ _ _ _ _ _ _ _ _ _ W hW.1.1.1.2 hW.1.1.2 hW.1.2 hW.2 (by decide) (by decide) ((cmp_sq2 (by decide) (by decide) (by decide) (by decide) (by decide) (by decide)).trans (by decide))).mono ?_; rintro e w' ⟨rfl, hx⟩; exact ⟨_, rfl, rfl, hx⟩))); refine F_put ?_
  repeat (first | refine F_s ?_ | refine F_r ?_)
  rintro W7 ⟨⟨⟨⟨⟨⟨⟨⟨⟨⟨⟨⟨hS, _⟩, _⟩, _⟩, _⟩, _⟩, _⟩, _⟩, _⟩, _⟩, _⟩, _⟩, _⟩
  replace ex := Ext.step ex hS.1
  clear hS hKeep
  go_upto_region 8 with (fail)
  refine wp_KB (W7.heap.size) (fun W => Ext W7 W ∧ W7.heap.size ≤ W.heap.size ∧ True) ?_
  intro hKeep
  repeat (first | refine F_s ?_ | refine F_r ?_)
  refine F_root (sqR (9223372036854775807) (1) 2) (by rfl) (by rfl) (by intro W hW; (try dsimp only at hW); go_simp; exact (l02_square (9223372036854775807) (1) (2) (sqR (9223372036854775807) (1) 2) true W (by decide) (ofP_sq (by decide) (Nat.lt_trans (by decide) big8) (by decide))).mono fun _ _ h => RetRo.isRo h) ?_; intro n1 p1 l1 c1 m1 q1 k1 d1; refine F_put ?_
  repeat (first | refine F_s ?_ | refine F_r ?_)
  refine F_rootB ((Rt.no, false)) (by rfl) (by rfl) (by intro W hW; (try dsimp only at hW); go_simp; exact (root_PlusE (9223372036854775807) 1 1 (ofZ ((2 : Nat) : Int)) (ofZ 1) (Rt.no, false) _ _ _ _ _ _ _ _ W hW.1.2 hW.2 (by decide) (by decide) ex_plus).mono fun _ _ h => RetRt.isRb h) ?_; intro nz pz lz cz mz qz kz dz; refine F_put ?_
  repeat (first | refine F_s ?_ | refine F_r ?_)
  refine F_al ?_
  intro gz hgz
  simp only [List.mem_cons, List.mem_range, not_or, Nat.not_lt] at hgz
  repeat (first | refine F_s ?_ | refine F_r ?_)
  refine F_w (fun W => (_ ∧ NR W nz pz lz cz (Rt.no).n) ∧ NR W mz qz kz dz (Rt.no).d) (fun W hW => ⟨⟨⟨hW.1.1.1.1.1, hW.1.1.2⟩, hW.1.2⟩, hW.2⟩) ?_
  repeat (first | refine F_s ?_ | refine F_r ?_)
  rintro W8 ⟨⟨⟨⟨hS, _⟩, _⟩, _⟩, _⟩
  replace ex := Ext.step ex hS.1
  clear hS hKeep
  go_upto_region 9 with (fail)
  refine wp_KB (W8.heap.size) (fun W => Ext W8 W ∧ W8.heap.size ≤ W.heap.size ∧ True) ?_
  intro hKeep
  repeat (first | refine F_s ?_ | refine F_r ?_)
  refine F_root (sqR (5) (-1) 9) (by rfl) (by rfl) (by intro W hW; (try dsimp only at hW); go_simp; exact (l02_square (5) (-1) (9) (sqR (5) (-1) 9) true W (by decide) (ofP_sq (by decide) (Nat.lt_trans (by decide) big8) (by decide))).mono fun _ _ h => RetRo.isRo h) ?_; intro n1 p1 l1 c1 m1 q1 k1 d1; refine F_put ?_
  repeat (first | refine F_s ?_ | refine F_r ?_)
  (refine F_call (v := .int .i64 0) (by rfl) (by rfl) ?_ ?_; (· (intro W hW; (try dsimp only at hW); go_simp; refine (root_CmpIntE 5 (-1) 2 (ofZ ((9 : Nat) : Int)) (ofZ 1) 0 _ _ _ _ _ _ _ _ W hW.1.2 hW.2 (by decide) (by decide) ((cmp_sqI (by decide) (by decide) (by decide)).trans (by decide))).mono ?_; rintro e w' ⟨rfl, hx⟩; exact ⟨_, rfl, rfl, hx⟩))); refine F_put ?_
  repeat (first | refine F_s ?_ | refine F_r ?_)
  refine F_root (sqR (0) (1) 2) (by rfl) (by rfl) (by intro W hW; (try dsimp only at hW); go_simp; exact (l02_square (0) (1) (2) (sqR (0) (1) 2) true W (by decide) (ofP_sq (by decide) (Nat.lt_trans (by decide) big8) (by decide))).mono fun _ _ h => RetRo.isRo h) ?_; intro n2 p2 l2 c2 m2 q2 k2 d2; refine F_put ?_
  repeat (first | refine F_s ?_ | refine F_r ?_)
  (refine F_call (v := .int .i64 1) (by rfl) (by rfl) ?_ ?_; (· (intro W hW; (try dsimp only at hW); go_simp; refine (root_CmpIntE 0 1 1 (ofZ ((2 : Nat) : Int)) (ofZ 1) 1 _ _ _ _ _ _ _ _ W hW.1.2 hW.2 (by decide) (by decide) ((cmp_sqI (by decide) (by decide) (by decide)).trans (by decide))).mono ?_; rintro e w' ⟨rfl, hx⟩; exact ⟨_, rfl, rfl, hx⟩))); refine F_put ?_
  repeat (first | refine F_s ?_ | refine F_r ?_)
  rintro W9 ⟨⟨⟨⟨hS, _⟩, _⟩, _⟩, _⟩
  replace ex := Ext.step ex hS.1
  clear hS hKeep
  go_wp2
  go_ret
  exact ⟨rfl, ex⟩
end Go.Proofs.YtghgggaimijcaaaDoor
