/- The walk of the law RootTexts. -/
import Derived.Test.YtghgggaimijcaaaGreatDoorJ36
set_option linter.unusedVariables false
set_option linter.unusedSimpArgs false

namespace Go.Proofs.YtghgggaimijcaaaGreatDoor
open Go.RowKit
attribute [local go_sem] Gives givesU

theorem bytes_beq (a b : ByteArray) : (a == b) = true ↔ a = b := by
  constructor
  · intro h
    have : (a.data == b.data) = true := h
    cases a; cases b; simpa using this
  · rintro rfl
    show (a.data == a.data) = true
    simp
theorem text_same {A B : Rt} (hA : A.Gd) (hB : B.Gd) : (bytesT (textR A) == bytesT (textR B)) = sameR A B ∧ decide (bytesT (textR A) = bytesT (textR B)) = sameR A B := by
  have key : bytesT (textR A) = bytesT (textR B) ↔ sameR A B = true := by
    constructor
    · intro h
      rw [text_inj hA.2.2 hB.2.2 hA.2.1 hB.2.1 (bytesT_inj h)]
      exact sameR_self _
    · intro h
      rw [sameR_eq hA.1 hB.1 hA.2.2 hB.2.2 h]
  constructor
  · rw [Bool.eq_iff_iff]; exact (bytes_beq _ _).trans key
  · rw [Bool.eq_iff_iff, decide_eq_true_eq]; exact key
set_option maxRecDepth 100000 in
set_option maxHeartbeats 16000000 in
theorem Texts_core (a0 a1 a2 a3 b0 b1 b2 b3 add s z : Int) (n m : Bool) (p q : Option Addr) (l c k d : Nat) (X Y : Nm) (w : World) (hi : ∀ z ∈ [a0, a1, a2, a3, b0, b1, b2, b3], In64 z) (ia : In64 add) (iz : In64 z)
    (hX : NR w n p l c X) (hY : NR w m q k d Y) (ht : Tab w) :
    Calls Tryz.prog 7 #[.agg #[.int .i64 a0, .int .i64 a1, .int .i64 a2, .int .i64 a3, .int .i64 b0, .int .i64 b1, .int .i64 b2, .int .i64 b3], .agg #[.int .i64 add, .int .i64 s, .bool n, .slice p l c, .bool m, .slice q k d], .int .i64 z] w fun e w' => e = .returned (.bool true) ∧ Ext w w' := by
  have TB := Lib.hid ht
  have HX := Lib.hid (hX.short 10)
  have HY := Lib.hid (hY.short 10)
  have CU := Lib.hid (fun W => l02_cut add s n m p q l c k d W (by have := hX.2.1; have := hX.2.2.le; omega) (by have := hY.2.1; have := hY.2.2.le; omega))
  have MA := Lib.hid (fun W => r02_Made a0 a1 a2 a3 W (hi a0 (by simp)) (hi a2 (by simp)))
  have MB := Lib.hid (fun W => r02_Made b0 b1 b2 b3 W (hi b0 (by simp)) (hi b2 (by simp)))
  have RA0 := made_add a0 a1 a2 a3 (hi a0 (by simp))
  have RB0 := made_add b0 b1 b2 b3 (hi b0 (by simp))
  have GA := made_gd a0 a1 a2 a3 (hi a2 (by simp))
  have GB := made_gd b0 b1 b2 b3 (hi b2 (by simp))
  have IZ := Lib.hid iz
  obtain ⟨A, HA⟩ : ∃ A, Hid (madeR a0 a1 a2 a3 = A) := ⟨_, Lib.hid rfl⟩
  obtain ⟨B, HB⟩ : ∃ A, Hid (madeR b0 b1 b2 b3 = A) := ⟨_, Lib.hid rfl⟩
  obtain ⟨C, HC⟩ : ∃ A, Hid ((⟨add, s, ⟨X.neg, X.d.take 10⟩, ⟨Y.neg, Y.d.take 10⟩⟩ : Rt) = A) := ⟨_, Lib.hid rfl⟩
  rw [HA.out] at MA RA0 GA
  rw [HB.out] at MB RB0 GB
  obtain ⟨sm1, sm2⟩ := text_same GA GB
  obtain ⟨e, E⟩ : ∃ e, Hid (sameR ⟨A.add, A.s, A.n, A.d⟩ ⟨B.add, B.s, B.n, B.d⟩ = e) := ⟨_, Lib.hid rfl⟩
  obtain ⟨ta, TA⟩ : ∃ t, Hid (bytesT (textR ⟨A.add, A.s, A.n, A.d⟩) = t) := ⟨_, Lib.hid rfl⟩
  obtain ⟨tb, TB2⟩ : ∃ t, Hid (bytesT (textR ⟨B.add, B.s, B.n, B.d⟩) = t) := ⟨_, Lib.hid rfl⟩
  have SM1 : Hid ((ta == tb) = e) := Lib.hid (by rw [← TA.out, ← TB2.out, ← E.out]; exact sm1)
  have SM3 : Hid ((ta.toList == tb.toList) = e) := Lib.hid (by rw [← beq_toListBytes]; exact SM1.out)
  have SM2 : Hid (decide (ta = tb) = e) := Lib.hid (by rw [← TA.out, ← TB2.out, ← E.out]; exact sm2)
  have HXC : Hid (NR w n p (min l 10) c C.n) := Lib.hid (by rw [← HC.out]; exact HX.out)
  have HYC : Hid (NR w m q (min k 10) d C.d) := Lib.hid (by rw [← HC.out]; exact HY.out)
  have CA : Hid (C.add = add ∧ C.s = s) := Lib.hid (by rw [← HC.out]; exact ⟨rfl, rfl⟩)
  have IA := Lib.hid RA0
  have IB := Lib.hid RB0
  have RNG : Hid (∀ j, In64 (threeF A B C j).add) := Lib.hid (by
    intro j
    unfold threeF
    split
    · exact RA0
    · split
      · exact RB0
      · rw [CA.out.1]; exact ia)
  obtain ⟨l', L1⟩ : ∃ m, Hid (min l 10 = m) := ⟨_, Lib.hid rfl⟩
  obtain ⟨k', L2⟩ : ∃ m, Hid (min k 10 = m) := ⟨_, Lib.hid rfl⟩
  rw [L1.out] at CU HXC
  rw [L2.out] at CU HYC
  clear ht hi ia iz hX hY HX HY RA0 RB0 HA HB HC sm1 sm2 GA GB
  go_enter Tryz.func7, Tryz.ntmps7
  go_wp2_with fail
  refine (law_sanity2 _ (TB.out.ext bxx)).mono ?_
  rintro e' w1 ⟨rfl, hx⟩
  have ex1 : Ext w w1 := Ext.step bxx hx
  have hq := heap_ext (heap_old (heap_new (W := w) rfl)) hx
  have hr := heap_ext (heap_new (r := w.heap.size + 1) (by simp)) hx
  clear hx
  go_upto_region 2 with (fail)
  refine wp_know (fun W => Ext w W ∧ IRow W w.heap.size [a0, a1, a2, a3, b0, b1, b2, b3] ∧ RB W (w.heap.size + 1) add s n p l c m q k d) ⟨ex1, IRow.heap hq rfl, RB.heap hr⟩ ?_
  clear hq hr ex1
  rintro W0 ⟨ex, iq, rw0⟩
  have y0 := iq.2 0 _ rfl
  have y1 := iq.2 1 _ rfl
  have y2 := iq.2 2 _ rfl
  have y3 := iq.2 3 _ rfl
  have ql := iq.1
  refine wp_KB (W0.heap.size) (fun W => Ext W0 W ∧ W0.heap.size ≤ W.heap.size ∧ W.cell? ⟨w.heap.size, 0, none⟩ = some (.int .i64 a0) ∧ W.cell? ⟨w.heap.size, 1, none⟩ = some (.int .i64 a1) ∧ W.cell? ⟨w.heap.size, 2, none⟩ = some (.int .i64 a2) ∧ W.cell? ⟨w.heap.size, 3, none⟩ = some (.int .i64 a3)) ?_
  intro hKeep
  repeat (first | refine F_s ?_ | refine F_r ?_)
  refine F_root A (by rfl) (by rfl) (by intro W hW; (try dsimp only at hW); go_simp; exact (MA.out W).mono fun _ _ h => RetRo.isRo h) ?_; intro n7 p7 l7 c7 m7 q7 k7 d7; refine F_put ?_
  repeat (first | refine F_s ?_ | refine F_r ?_)
  refine F_al ?_
  intro ga hga
  simp only [List.mem_cons, List.mem_range, not_or, Nat.not_lt] at hga
  repeat (first | refine F_s ?_ | refine F_r ?_)
  refine F_w (fun W => (_ ∧ NR W n7 p7 l7 c7 A.n) ∧ NR W m7 q7 k7 d7 A.d) (fun W hW => hW) ?_
  repeat (first | refine F_s ?_ | refine F_r ?_)
  rintro W2 ⟨⟨⟨⟨hS, nr1⟩, nr2⟩, hb⟩, _⟩
  have ra : RV W2 ga A n7 p7 l7 c7 m7 q7 k7 d7 := ⟨RB.heap hb, nr1, nr2⟩
  replace ex := Ext.step ex hS.1
  replace iq := iq.ext hS.1
  replace rw0 := rw0.ext hS.1
  clear hS hb hKeep hga nr1 nr2 y0 y1 y2 y3 ql MA
  have y4 := iq.2 4 _ rfl
  have y5 := iq.2 5 _ rfl
  have y6 := iq.2 6 _ rfl
  have y7 := iq.2 7 _ rfl
  have ql := iq.1
  go_upto_region 3 with (fail)
  refine wp_KB (W2.heap.size) (fun W => Ext W2 W ∧ W2.heap.size ≤ W.heap.size ∧ W.cell? ⟨w.heap.size, 4, none⟩ = some (.int .i64 b0) ∧ W.cell? ⟨w.heap.size, 5, none⟩ = some (.int .i64 b1) ∧ W.cell? ⟨w.heap.size, 6, none⟩ = some (.int .i64 b2) ∧ W.cell? ⟨w.heap.size, 7, none⟩ = some (.int .i64 b3)) ?_
  intro hKeep
  repeat (first | refine F_s ?_ | refine F_r ?_)
  refine F_root B (by rfl) (by rfl) (by intro W hW; (try dsimp only at hW); go_simp; exact (MB.out W).mono fun _ _ h => RetRo.isRo h) ?_; intro n8 p8 l8 c8 m8 q8 k8 d8; refine F_put ?_
  repeat (first | refine F_s ?_ | refine F_r ?_)
  refine F_al ?_
  intro gb hgb
  simp only [List.mem_cons, List.mem_range, not_or, Nat.not_lt] at hgb
  repeat (first | refine F_s ?_ | refine F_r ?_)
  refine F_w (fun W => (_ ∧ NR W n8 p8 l8 c8 B.n) ∧ NR W m8 q8 k8 d8 B.d) (fun W hW => hW) ?_
  repeat (first | refine F_s ?_ | refine F_r ?_)
  rintro W3 ⟨⟨⟨⟨hS, nr1⟩, nr2⟩, hb⟩, _⟩
  have rb : RV W3 gb B n8 p8 l8 c8 m8 q8 k8 d8 := ⟨RB.heap hb, nr1, nr2⟩
  replace ex := Ext.step ex hS.1
  replace ra := ra.ext hS.1
  replace rw0 := rw0.ext hS.1
  clear hS hb hKeep hgb nr1 nr2 y4 y5 y6 y7 ql MB iq
  obtain ⟨⟨a0, a1, a2, ⟨a3, a4⟩, ⟨a5, a6⟩, af⟩, an, ad⟩ := id ra
  have Han := Lib.hid an
  have Had := Lib.hid ad
  clear af an ad
  obtain ⟨⟨b0, b1, b2, ⟨b3, b4⟩, ⟨b5, b6⟩, bf⟩, bn, bd⟩ := id rb
  have Hbn := Lib.hid bn
  have Hbd := Lib.hid bd
  clear bf bn bd
  have sq1 := SM1.out
  have sq2 := SM2.out
  have sq3 := SM3.out
  have se2 : (e == e) = true := by simp
  have see : (e != e) = false := by simp
  go_upto_region 4 with (fail)
  refine wp_FS (fun W => W.cell? ⟨ga, 0, none⟩ = some (.int .i64 A.add) ∧ W.cell? ⟨ga, 1, none⟩ = some (.int .i64 A.s) ∧ W.cell? ⟨ga, 2, none⟩ = some (.bool n7) ∧ W.cell? ⟨ga, 3, none⟩ = some (.slice p7 l7 c7) ∧ W.cell? ⟨ga, 4, none⟩ = some (.bool m7) ∧ W.cell? ⟨ga, 5, none⟩ = some (.slice q7 k7 d7) ∧ W.cell? ⟨gb, 0, none⟩ = some (.int .i64 B.add) ∧ W.cell? ⟨gb, 1, none⟩ = some (.int .i64 B.s) ∧ W.cell? ⟨gb, 2, none⟩ = some (.bool n8) ∧ W.cell? ⟨gb, 3, none⟩ = some (.slice p8 l8 c8) ∧ W.cell? ⟨gb, 4, none⟩ = some (.bool m8) ∧ W.cell? ⟨gb, 5, none⟩ = some (.slice q8 k8 d8)) ?_
  repeat (first | refine F_s ?_ | refine F_r ?_)
  (refine F_call (v := .string ta) (by rfl) (by rfl) ?_ ?_; (· (intro W hW; (try dsimp only at hW); go_simp; refine (root_TextE A.add A.s A.n A.d ta _ _ _ _ _ _ _ _ W (Han.out.ext hW.1) (Had.out.ext hW.1) (TB.out.ext (Ext.step ex hW.1)) IA.out TA.out).mono ?_; rintro e w' ⟨rfl, hx⟩; exact ⟨_, rfl, rfl, hx⟩))); refine F_put ?_
  repeat (first | refine F_s ?_ | refine F_r ?_)
  (refine F_call (v := .string tb) (by rfl) (by rfl) ?_ ?_; (· (intro W hW; (try dsimp only at hW); go_simp; refine (root_TextE B.add B.s B.n B.d tb _ _ _ _ _ _ _ _ W (Hbn.out.ext hW.1) (Hbd.out.ext hW.1) (TB.out.ext (Ext.step ex hW.1)) IB.out TB2.out).mono ?_; rintro e w' ⟨rfl, hx⟩; exact ⟨_, rfl, rfl, hx⟩))); refine F_put ?_
  repeat (first | refine F_s ?_ | refine F_r ?_)
  (refine F_call (v := .bool e) (by rfl) (by rfl) ?_ ?_; (· (intro W hW; (try dsimp only at hW); go_simp; refine (r02_SameT A.add A.s A.n A.d B.add B.s B.n B.d e _ _ _ _ _ _ _ _ _ _ _ _ _ _ _ _ W (Han.out.ext hW.1) (Had.out.ext hW.1) (Hbn.out.ext hW.1) (Hbd.out.ext hW.1) E.out).mono ?_; rintro e w' ⟨rfl, hx⟩; exact ⟨_, rfl, rfl, hx⟩))); refine F_put ?_
  repeat (first | refine F_s ?_ | refine F_r ?_)
  rintro W4 ⟨hx, _⟩
  replace ex := Ext.step ex hx
  replace ra := ra.ext hx
  replace rb := rb.ext hx
  replace rw0 := rw0.ext hx
  clear a0 a1 a2 a3 a4 a5 a6 Han Had
  clear b0 b1 b2 b3 b4 b5 b6 Hbn Hbd
  clear hx sq1 sq2 sq3 se2 SM1 SM2 SM3
  obtain ⟨⟨a0, a1, a2, ⟨a3, a4⟩, ⟨a5, a6⟩, af⟩, an, ad⟩ := id ra
  have Han := Lib.hid an
  have Had := Lib.hid ad
  clear af an ad
  obtain ⟨⟨b0, b1, b2, ⟨b3, b4⟩, ⟨b5, b6⟩, bf⟩, bn, bd⟩ := id rb
  have Hbn := Lib.hid bn
  have Hbd := Lib.hid bd
  clear bf bn bd
  obtain ⟨e0, e1, e2, ⟨e3, e4⟩, ⟨e5, e6⟩, ef⟩ := rw0
  clear ef
  go_upto_region 6 with (fail)
  refine wp_KB (W4.heap.size) (fun W => Ext W4 W ∧ W4.heap.size ≤ W.heap.size ∧ W.cell? ⟨ga, 0, none⟩ = some (.int .i64 A.add) ∧ W.cell? ⟨ga, 1, none⟩ = some (.int .i64 A.s) ∧ W.cell? ⟨ga, 2, none⟩ = some (.bool n7) ∧ W.cell? ⟨ga, 3, none⟩ = some (.slice p7 l7 c7) ∧ W.cell? ⟨ga, 4, none⟩ = some (.bool m7) ∧ W.cell? ⟨ga, 5, none⟩ = some (.slice q7 k7 d7) ∧ W.cell? ⟨gb, 0, none⟩ = some (.int .i64 B.add) ∧ W.cell? ⟨gb, 1, none⟩ = some (.int .i64 B.s) ∧ W.cell? ⟨gb, 2, none⟩ = some (.bool n8) ∧ W.cell? ⟨gb, 3, none⟩ = some (.slice p8 l8 c8) ∧ W.cell? ⟨gb, 4, none⟩ = some (.bool m8) ∧ W.cell? ⟨gb, 5, none⟩ = some (.slice q8 k8 d8) ∧ W.cell? ⟨w.heap.size + 1, 0, none⟩ = some (.int .i64 add) ∧ W.cell? ⟨w.heap.size + 1, 1, none⟩ = some (.int .i64 s) ∧ W.cell? ⟨w.heap.size + 1, 2, none⟩ = some (.bool n) ∧ W.cell? ⟨w.heap.size + 1, 3, none⟩ = some (.slice p l c) ∧ W.cell? ⟨w.heap.size + 1, 4, none⟩ = some (.bool m) ∧ W.cell? ⟨w.heap.size + 1, 5, none⟩ = some (.slice q k d)) ?_
  intro hKeep
  repeat (first | refine F_s ?_ | refine F_r ?_)
  (refine F_call (v := .agg #[.int .i64 add, .int .i64 s, .bool n, .slice p l' c, .bool m, .slice q k' d]) (by rfl) (by rfl) ?_ ?_; (· (intro W hW; (try dsimp only at hW); go_simp; refine (CU.out W).mono ?_; rintro e w' ⟨rfl, hx⟩; exact ⟨_, rfl, rfl, hx⟩))); refine F_put ?_
  repeat (first | refine F_s ?_ | refine F_r ?_)
  refine F_al ?_
  intro g hg
  simp only [List.mem_cons, List.mem_range, not_or, Nat.not_lt] at hg
  repeat (first | refine F_s ?_ | refine F_r ?_)
  refine F_w (fun W => _) (fun W hW => hW) ?_
  repeat (first | refine F_s ?_ | refine F_r ?_)
  rintro W6 ⟨⟨hS, hb⟩, _⟩
  have hx := hS.1
  replace ex := Ext.step ex hx
  rw [← CA.out.1, ← CA.out.2] at hb
  obtain ⟨cs, rl⟩ := RLs.three hb (Han.out.ext hx) (Had.out.ext hx) (Hbn.out.ext hx) (Hbd.out.ext hx) (HXC.out.ext ex) (HYC.out.ext ex)
  obtain ⟨f, F⟩ : ∃ f, Hid (threeF A B C = f) := ⟨_, Lib.hid rfl⟩
  rw [F.out] at rl RNG
  clear a0 a1 a2 a3 a4 a5 a6 Han Had ra
  clear b0 b1 b2 b3 b4 b5 b6 Hbn Hbd rb
  clear hS hb hKeep hg hx e0 e1 e2 e3 e4 e5 e6 CU see
  go_wp2_with fail
  go_loopw [11] (fun t wr => ∃ i : Nat, i ≤ 3 ∧ t = .int .i64 (i : Int) ∧ Ext w wr ∧ RLs wr g 47 3 3 f cs) (fun t _ => 3 - (intOf t).toNat)
  case atStart => exact ⟨0, by omega, rfl, ex, rl⟩
  case round =>
    clear ex rl
    obtain ⟨i, hi, rfl, ex, rl⟩ := hrel
    by_cases hlt : i < 3
    · have hi3 : (i : Int) < 3 := by omega
      have hi0 : ¬ (i : Int) < 0 := by omega
      obtain ⟨⟨P, o⟩, PO⟩ : ∃ r, Hid (plusR (f i) z = r) := ⟨_, Lib.hid rfl⟩
      have hoo : (o != o) = false := by simp
      obtain ⟨n1, p1, l1, c1, m1, q1, k1, d1, rI⟩ := rl.at i hlt
      obtain ⟨⟨x0, x1, x2, x3, x4, x5⟩, xl, xn, xd⟩ := id rI
      have Hxn := Lib.hid xn
      have Hxd := Lib.hid xd
      clear xn xd
      go_upto_region 10 with (fail)
      refine wp_KB (wr.heap.size) (fun W => Ext wr W ∧ wr.heap.size ≤ W.heap.size ∧ W.cell? ⟨g, i * 6, none⟩ = some (.int .i64 (f i).add) ∧ W.cell? ⟨g, i * 6 + 1, none⟩ = some (.int .i64 (f i).s) ∧ W.cell? ⟨g, i * 6 + 2, none⟩ = some (.bool n1) ∧ W.cell? ⟨g, i * 6 + 3, none⟩ = some (.slice p1 l1 c1) ∧ W.cell? ⟨g, i * 6 + 4, none⟩ = some (.bool m1) ∧ W.cell? ⟨g, i * 6 + 5, none⟩ = some (.slice q1 k1 d1)) ?_
      intro hKeep
      repeat (first | refine F_s ?_ | refine F_r ?_)
      refine F_rootB (P, o) (by rfl) (by rfl) (by intro W hW; (try dsimp only at hW); go_simp; exact (root_PlusE (f i).add (f i).s z (f i).n (f i).d (P, o) _ _ _ _ _ _ _ _ W (Hxn.out.ext hW.1) (Hxd.out.ext hW.1) (RNG.out i) IZ.out PO.out).mono fun _ _ h => RetRt.isRb h) ?_; intro n7 p7 l7 c7 m7 q7 k7 d7; refine F_put ?_
      repeat (first | refine F_s ?_ | refine F_r ?_)
      refine F_al ?_
      intro ga hga
      simp only [List.mem_cons, List.mem_range, not_or, Nat.not_lt] at hga
      repeat (first | refine F_s ?_ | refine F_r ?_)
      refine F_w (fun W => (_ ∧ NR W n7 p7 l7 c7 P.n) ∧ NR W m7 q7 k7 d7 P.d) (fun W hW => hW) ?_
      repeat (first | refine F_s ?_ | refine F_r ?_)
      rintro W10 ⟨⟨⟨⟨hS, nr1⟩, nr2⟩, hb⟩, _⟩
      have ra : RV W10 ga P n7 p7 l7 c7 m7 q7 k7 d7 := ⟨RB.heap hb, nr1, nr2⟩
      replace ex := Ext.step ex hS.1
      replace rl := rl.ext hS.1
      replace rI := rI.ext hS.1
      clear hS hb hKeep hga nr1 nr2 x0 x1 x2 x3 x4 x5 xl Hxn Hxd
      obtain ⟨⟨x0, x1, x2, x3, x4, x5⟩, xl, xn, xd⟩ := rI
      have Hxn := Lib.hid xn
      have Hxd := Lib.hid xd
      clear xn xd
      go_upto_region 11 with (fail)
      refine wp_KB (W10.heap.size) (fun W => Ext W10 W ∧ W10.heap.size ≤ W.heap.size ∧ W.cell? ⟨g, i * 6, none⟩ = some (.int .i64 (f i).add) ∧ W.cell? ⟨g, i * 6 + 1, none⟩ = some (.int .i64 (f i).s) ∧ W.cell? ⟨g, i * 6 + 2, none⟩ = some (.bool n1) ∧ W.cell? ⟨g, i * 6 + 3, none⟩ = some (.slice p1 l1 c1) ∧ W.cell? ⟨g, i * 6 + 4, none⟩ = some (.bool m1) ∧ W.cell? ⟨g, i * 6 + 5, none⟩ = some (.slice q1 k1 d1)) ?_
      intro hKeep
      repeat (first | refine F_s ?_ | refine F_r ?_)
      refine F_rootB (P, o) (by rfl) (by rfl) (by intro W hW; (try dsimp only at hW); go_simp; exact (r02_PlusE (f i).add (f i).s z (f i).n (f i).d (P, o) _ _ _ _ _ _ _ _ W (Hxn.out.ext hW.1) (Hxd.out.ext hW.1) (RNG.out i) IZ.out PO.out).mono fun _ _ h => RetRt.isRb h) ?_; intro n8 p8 l8 c8 m8 q8 k8 d8; refine F_put ?_
      repeat (first | refine F_s ?_ | refine F_r ?_)
      refine F_al ?_
      intro gb hgb
      simp only [List.mem_cons, List.mem_range, not_or, Nat.not_lt] at hgb
      repeat (first | refine F_s ?_ | refine F_r ?_)
      refine F_w (fun W => (_ ∧ NR W n8 p8 l8 c8 P.n) ∧ NR W m8 q8 k8 d8 P.d) (fun W hW => hW) ?_
      repeat (first | refine F_s ?_ | refine F_r ?_)
      rintro W11 ⟨⟨⟨⟨hS, nr1⟩, nr2⟩, hb⟩, _⟩
      have rb : RV W11 gb P n8 p8 l8 c8 m8 q8 k8 d8 := ⟨RB.heap hb, nr1, nr2⟩
      replace ex := Ext.step ex hS.1
      replace rl := rl.ext hS.1
      replace ra := ra.ext hS.1
      clear hS hb hKeep hgb nr1 nr2 x0 x1 x2 x3 x4 x5 xl Hxn Hxd PO
      obtain ⟨⟨a0, a1, a2, ⟨a3, a4⟩, ⟨a5, a6⟩, af⟩, an, ad⟩ := ra
      have Han := Lib.hid an
      have Had := Lib.hid ad
      clear af an ad
      obtain ⟨⟨b0, b1, b2, ⟨b3, b4⟩, ⟨b5, b6⟩, bf⟩, bn, bd⟩ := rb
      have Hbn := Lib.hid bn
      have Hbd := Lib.hid bd
      clear bf bn bd
      go_upto_region 12 with (fail)
      refine wp_FS (fun W => W.cell? ⟨ga, 0, none⟩ = some (.int .i64 P.add) ∧ W.cell? ⟨ga, 1, none⟩ = some (.int .i64 P.s) ∧ W.cell? ⟨ga, 2, none⟩ = some (.bool n7) ∧ W.cell? ⟨ga, 3, none⟩ = some (.slice p7 l7 c7) ∧ W.cell? ⟨ga, 4, none⟩ = some (.bool m7) ∧ W.cell? ⟨ga, 5, none⟩ = some (.slice q7 k7 d7) ∧ W.cell? ⟨gb, 0, none⟩ = some (.int .i64 P.add) ∧ W.cell? ⟨gb, 1, none⟩ = some (.int .i64 P.s) ∧ W.cell? ⟨gb, 2, none⟩ = some (.bool n8) ∧ W.cell? ⟨gb, 3, none⟩ = some (.slice p8 l8 c8) ∧ W.cell? ⟨gb, 4, none⟩ = some (.bool m8) ∧ W.cell? ⟨gb, 5, none⟩ = some (.slice q8 k8 d8)) ?_
      repeat (first | refine F_s ?_ | refine F_r ?_)
      (refine F_call (v := .bool true) (by rfl) (by rfl) ?_ ?_; (· (intro W hW; (try dsimp only at hW); go_simp; refine (r02_SameT P.add P.s P.n P.d P.add P.s P.n P.d true _ _ _ _ _ _ _ _ _ _ _ _ _ _ _ _ W (Han.out.ext hW.1) (Had.out.ext hW.1) (Hbn.out.ext hW.1) (Hbd.out.ext hW.1) (sameR_self _)).mono ?_; rintro e w' ⟨rfl, hx⟩; exact ⟨_, rfl, rfl, hx⟩))); refine F_put ?_
      repeat (first | refine F_s ?_ | refine F_r ?_)
      rintro W12 ⟨hx, _⟩
      replace ex := Ext.step ex hx
      replace rl := rl.ext hx
      clear a0 a1 a2 a3 a4 a5 a6 Han Had
      clear b0 b1 b2 b3 b4 b5 b6 Hbn Hbd
      clear hx
      go_wp2_with fail
      exact ⟨⟨i + 1, by omega, rfl, ex, rl⟩, by simp [intOf]; omega⟩
    · obtain rfl : i = 3 := by omega
      go_wp2
      go_ret
      exact ⟨rfl, ex⟩
end Go.Proofs.YtghgggaimijcaaaGreatDoor
