/- Contract: root.Plus. | Plain: how long the texts of numbers are; sums of texts. | Contract: root.Text. | Contract: root.CmpInt. | The contracts on roots, with what they give as an equation. -/
import Derived.Test.YtghgggaimijcaaaDoorJ25
import Derived.Test.YtghgggaimijcaaaDoorJ23
import Derived.Test.YtghgggaimijcaaaDoorJ21
import Derived.Test.YtghgggaimijcaaaDoorJ24
set_option linter.unusedVariables false
set_option linter.unusedSimpArgs false

namespace Go.Proofs.YtghgggaimijcaaaDoor
open Go.RowKit
attribute [local go_sem] Gives givesU

theorem num_IntE (a : Nm) (r : Int × Bool) (na : Bool) (pa : Option Addr) (la ca : Nat) (w : World) (ha : NR w na pa la ca a) (h : intP a = r) :
    Calls Tryd.prog 38 #[.agg #[.bool na, .slice pa la ca]] w (RetInt w r) := h ▸ num_Int a na pa la ca w ha
theorem num_AddE (a b : Nm) (r : Nm × Bool) (na nb : Bool) (pa pb : Option Addr) (la ca lb cb : Nat) (w : World) (ha : NR w na pa la ca a) (hb : NR w nb pb lb cb b) (h : addP a b = r) :
    Calls Tryd.prog 37 #[.agg #[.bool na, .slice pa la ca], .agg #[.bool nb, .slice pb lb cb]] w (RetNum w r) := h ▸ num_Add a b na nb pa pb la ca lb cb w ha hb
theorem addP_int {x y : Int} (h : -9223372036854775808 ≤ x ∧ x ≤ 9223372036854775807) (k : -9223372036854775808 ≤ y ∧ y ≤ 9223372036854775807) : addP (ofZ x) (ofZ y) = (ofZ (x + y), true) :=
  addP_small (ofZ_right (small_wide (wide_int h))) (ofZ_right (small_wide (wide_int k))) (by rw [ofZ_z, ofZ_z]) (small_wide (wide_sum h k))
set_option maxRecDepth 100000 in
set_option maxHeartbeats 4000000 in
theorem root_Plus (add s i : Int) (x y : Nm) (n m : Bool) (p q : Option Addr) (l c k d : Nat) (w : World) (hn : NR w n p l c x) (hd : NR w m q k d y)
    (i1 : -9223372036854775808 ≤ add ∧ add ≤ 9223372036854775807) (i2 : -9223372036854775808 ≤ i ∧ i ≤ 9223372036854775807) :
    Calls Tryd.prog 17 #[.agg #[.int .i64 add, .int .i64 s, .bool n, .slice p l c, .bool m, .slice q k d], .int .i64 i] w (RetRt w (plusR ⟨add, s, x, y⟩ i)) := by
  have X := Lib.hid hn
  have Y := Lib.hid hd
  have I1 := Lib.hid i1
  have I2 := Lib.hid i2
  have DG : Hid (Dig x.d ∧ Dig y.d) := Lib.hid ⟨hn.2.2.dig, hd.2.2.dig⟩
  have AD := Lib.hid (addP_int i1 i2)
  have IN := Lib.hid (intP_wide (wide_sum i1 i2))
  have MK := Lib.hid (fun (hr : Rt.right ⟨add, s, x, y⟩ = true) (hi : inI (add + i) = true) => plusR_of (a := ⟨add, s, x, y⟩) DG.out hr hi)
  have PB : Hid ((Rt.right ⟨add, s, x, y⟩ && inI (add + i)) = false → plusR ⟨add, s, x, y⟩ i = (Rt.no, false)) := Lib.hid (fun h => by unfold plusR; rw [h]; rfl)
  obtain ⟨z, Z⟩ : ∃ z, Hid (add + i = z) := ⟨_, rfl⟩
  rw [Z.out] at AD IN MK PB
  obtain ⟨b, B⟩ : ∃ b, Hid (Rt.right ⟨add, s, x, y⟩ = b) := ⟨_, Lib.hid rfl⟩
  rw [B.out] at MK PB
  obtain ⟨u, U⟩ : ∃ u, Hid (inI z = u) := ⟨_, Lib.hid rfl⟩
  rw [U.out] at IN MK PB
  obtain ⟨zz, ZV⟩ : ∃ t, Hid ((if u then z else 0) = t) := ⟨_, Lib.hid rfl⟩
  have INT : Hid (intP (ofZ z) = (zz, u)) := Lib.hid (by rw [IN.out, ← ZV.out]; cases u <;> rfl)
  obtain ⟨r, R⟩ : ∃ r, Hid (plusR ⟨add, s, x, y⟩ i = r) := ⟨_, Lib.hid rfl⟩
  rw [R.out] at MK PB ⊢
  clear hn hd i1 i2 DG
  go_enter Tryd.func17, Tryd.ntmps17
  go_upto_region 1 with (fail)
  refine wp_know (fun W => Ext w W ∧ RB W w.heap.size add s n p l c m q k d ∧ W.heap[w.heap.size + 1]? = some (.cells #[.int .i64 0, .int .i64 0, .bool false, .slice none 0 0, .bool false, .slice none 0 0] 27)) ?_ ?_
  · exact ⟨bxx, RB.heap (heap_old (heap_new rfl)), heap_new (by simp)⟩
  rintro W0 ⟨ex, rb, rr⟩
  obtain ⟨e0, e1, e2, ⟨e3, e4⟩, ⟨e5, e6⟩, ef⟩ := id rb
  clear ef
  refine wp_KB (W0.heap.size) (fun W => Ext W0 W ∧ W0.heap.size ≤ W.heap.size ∧ W.cell? ⟨w.heap.size, 0, none⟩ = some (.int .i64 add)) ?_
  intro hKeep
  repeat (first | refine F_s ?_ | refine F_r ?_)
  refine F_num W0 (ofZ add) (by rfl) (by rfl) (by intro W hW; (try dsimp only at hW); have hwW : W0.heap.size ≤ W.heap.size := (by have hzz := hW; (repeat (first | exact hzz.size | exact hzz.1.size | replace hzz := hzz.1))); go_simp; exact (num_Of add _ I1.out.1 I1.out.2).mono fun _ _ h => RetN.isN hwW h) ?_; intro n1 p1 l1 c1 hn1; refine F_put ?_
  repeat (first | refine F_s ?_ | refine F_r ?_)
  refine F_num W0 (ofZ i) (by rfl) (by rfl) (by intro W hW; (try dsimp only at hW); have hwW : W0.heap.size ≤ W.heap.size := (by have hzz := hW; (repeat (first | exact hzz.size | exact hzz.1.size | replace hzz := hzz.1))); go_simp; exact (num_Of i _ I2.out.1 I2.out.2).mono fun _ _ h => RetN.isN hwW h) ?_; intro n2 p2 l2 c2 hn2; refine F_put ?_
  repeat (first | refine F_s ?_ | refine F_r ?_)
  refine F_numB W0 (ofZ z, true) (by rfl) (by rfl) (by intro W hW; (try dsimp only at hW); have hwW : W0.heap.size ≤ W.heap.size := hW.1.1.1.size; go_simp; exact (num_AddE (ofZ add) (ofZ i) (ofZ z, true) _ _ _ _ _ _ _ _ _ hW.1.2 hW.2 AD.out).mono fun _ _ h => RetNum.isNb hwW h) ?_
  intro n3 p3 l3 c3 hn3
  refine F_put ?_
  repeat (first | refine F_s ?_ | refine F_r ?_)
  refine F_al ?_
  intro g hg
  simp only [List.mem_cons, List.mem_range, not_or, Nat.not_lt] at hg
  repeat (first | refine F_s ?_ | refine F_r ?_)
  refine F_w (fun W => _ ∧ NR W n3 p3 l3 c3 (ofZ z)) (fun W hW => ⟨⟨hW.1.1.1.1, hW.1.2⟩, hW.2⟩) ?_
  repeat (first | refine F_s ?_ | refine F_r ?_)
  rintro W1 ⟨⟨⟨hS, nr3⟩, hg⟩, _⟩
  have vb := VB2.heap hg nr3
  have hx1 : Ext W0 W1 := hS.1
  replace rb := rb.ext hx1
  replace rr := heap_ext rr hx1
  replace ex := Ext.step ex hx1
  clear e0 e1 e2 e3 e4 e5 e6 hS nr3 hg hx1 hKeep hn3 hn1 hn2 AD I1 I2
  obtain ⟨v0, v1, v2, v3⟩ := vb
  go_wp2_with fail
  refine (num_IntE (ofZ z) _ _ _ _ _ _ (v3.ext bxx) INT.out).mono ?_
  rintro e W2 ⟨rfl, hx⟩
  have hx2 : Ext W1 W2 := Ext.step bxx hx
  replace rb := rb.ext hx2
  replace rr := heap_ext rr hx2
  replace ex := Ext.step ex hx2
  clear v0 v1 v2 v3 hx hx2

  obtain ⟨e0, e1, e2, ⟨e3, e4⟩, ⟨e5, e6⟩, ef⟩ := id rb
  have NO : Hid (r = (Rt.no, false) → ∀ W', Ext w W' → RetRt w r (.returned (.tuple #[.agg #[.int .i64 0, .int .i64 0, .bool false, .slice none 0 0, .bool false, .slice none 0 0], .bool false])) W') := Lib.hid (fun h W' hx => by
    rw [h]
    exact ⟨false, none, 0, 0, false, none, 0, 0, rfl, NR.zero _, NR.zero _, hx⟩)
  cases u with
  | false =>
    have P : Hid (r = (Rt.no, false)) := Lib.hid (PB.out (by rw [Bool.and_false]))
    clear PB MK IN INT ZV
    go_upto_region 3 with (fail)
    refine wp_FS (fun W => W.cell? ⟨w.heap.size, 0, none⟩ = some (.int .i64 add) ∧ W.cell? ⟨w.heap.size, 1, none⟩ = some (.int .i64 s) ∧ W.cell? ⟨w.heap.size, 2, none⟩ = some (.bool n) ∧ W.cell? ⟨w.heap.size, 3, none⟩ = some (.slice p l c) ∧ W.cell? ⟨w.heap.size, 4, none⟩ = some (.bool m) ∧ W.cell? ⟨w.heap.size, 5, none⟩ = some (.slice q k d)) ?_
    repeat (first | refine F_s ?_ | refine F_r ?_)
    rintro W3 ⟨hx, _⟩
    replace rr := heap_ext rr hx
    replace ex := Ext.step ex hx
    replace rb := rb.ext hx
    clear e0 e1 e2 e3 e4 e5 e6 ef hx

    obtain ⟨e0, e1, e2, ⟨e3, e4⟩, ⟨e5, e6⟩, ef⟩ := rb
    go_upto_region 4 with (fail)
    refine wp_GR (w.heap.size + 1) (.cells #[.int .i64 0, .int .i64 0, .bool false, .slice none 0 0, .bool false, .slice none 0 0] 27) (fun W => Ext w W ∧ W3.heap.size ≤ W.heap.size ∧ W.cell? ⟨w.heap.size, 0, none⟩ = some (.int .i64 add)) ?_
    intro hSM hRKS
    repeat (first | refine F_s ?_ | refine F_r ?_)
    refine F_w (fun W => _) (fun W hW => hW) ?_
    repeat (first | refine F_s ?_ | refine F_r ?_)
    rintro W4 ⟨⟨⟨hx, hz, hc⟩, hb⟩, _⟩
    obtain ⟨⟨c0, c1, c2, c3, c4, c5⟩, _, hl⟩ := cells6 hb
    clear hc hb e0 e1 e2 e3 e4 e5 e6 ef
    go_wp2
    refine bodyPost_ret (v := .tuple #[.agg #[.int .i64 0, .int .i64 0, .bool false, .slice none 0 0, .bool false, .slice none 0 0], .bool false]) (by simp only [results, Tryd.results17]; go_simp) rfl ?_
    exact NO.out P.out _ hx
  | true =>
  obtain rfl : zz = z := ZV.out.symm
  cases b with
  | false =>
    have P : Hid (r = (Rt.no, false)) := Lib.hid (PB.out (by rw [Bool.false_and]))
    clear PB MK IN INT ZV
    go_upto_region 3 with (fail)
    refine wp_FS (fun W => W.cell? ⟨w.heap.size, 0, none⟩ = some (.int .i64 add) ∧ W.cell? ⟨w.heap.size, 1, none⟩ = some (.int .i64 s) ∧ W.cell? ⟨w.heap.size, 2, none⟩ = some (.bool n) ∧ W.cell? ⟨w.heap.size, 3, none⟩ = some (.slice p l c) ∧ W.cell? ⟨w.heap.size, 4, none⟩ = some (.bool m) ∧ W.cell? ⟨w.heap.size, 5, none⟩ = some (.slice q k d)) ?_
    repeat (first | refine F_s ?_ | refine F_r ?_)
    (refine F_call (v := .bool false) (by rfl) (by rfl) ?_ ?_; (· (intro W hW; (try dsimp only at hW); go_simp; refine (root_RightB add s x y false _ _ _ _ _ _ _ _ W ((X.out.ext ex).ext hW.1) ((Y.out.ext ex).ext hW.1) B.out).mono ?_; rintro e w' ⟨rfl, hx⟩; exact ⟨_, rfl, rfl, hx⟩))); refine F_put ?_
    repeat (first | refine F_s ?_ | refine F_r ?_)
    rintro W3 ⟨hx, _⟩
    replace rr := heap_ext rr hx
    replace ex := Ext.step ex hx
    replace rb := rb.ext hx
    clear e0 e1 e2 e3 e4 e5 e6 ef hx

    obtain ⟨e0, e1, e2, ⟨e3, e4⟩, ⟨e5, e6⟩, ef⟩ := rb
    go_upto_region 4 with (fail)
    refine wp_GR (w.heap.size + 1) (.cells #[.int .i64 0, .int .i64 0, .bool false, .slice none 0 0, .bool false, .slice none 0 0] 27) (fun W => Ext w W ∧ W3.heap.size ≤ W.heap.size ∧ W.cell? ⟨w.heap.size, 0, none⟩ = some (.int .i64 add)) ?_
    intro hSM hRKS
    repeat (first | refine F_s ?_ | refine F_r ?_)
    refine F_w (fun W => _) (fun W hW => hW) ?_
    repeat (first | refine F_s ?_ | refine F_r ?_)
    rintro W4 ⟨⟨⟨hx, hz, hc⟩, hb⟩, _⟩
    obtain ⟨⟨c0, c1, c2, c3, c4, c5⟩, _, hl⟩ := cells6 hb
    clear hc hb e0 e1 e2 e3 e4 e5 e6 ef
    go_wp2
    refine bodyPost_ret (v := .tuple #[.agg #[.int .i64 0, .int .i64 0, .bool false, .slice none 0 0, .bool false, .slice none 0 0], .bool false]) (by simp only [results, Tryd.results17]; go_simp) rfl ?_
    exact NO.out P.out _ hx
  | true =>
    have P : Hid (ofP zz s x y = r) := Lib.hid (MK.out rfl rfl).symm
    clear PB MK IN INT ZV NO
    go_upto_region 3 with (fail)
    refine wp_FS (fun W => W.cell? ⟨w.heap.size, 0, none⟩ = some (.int .i64 add) ∧ W.cell? ⟨w.heap.size, 1, none⟩ = some (.int .i64 s) ∧ W.cell? ⟨w.heap.size, 2, none⟩ = some (.bool n) ∧ W.cell? ⟨w.heap.size, 3, none⟩ = some (.slice p l c) ∧ W.cell? ⟨w.heap.size, 4, none⟩ = some (.bool m) ∧ W.cell? ⟨w.heap.size, 5, none⟩ = some (.slice q k d)) ?_
    repeat (first | refine F_s ?_ | refine F_r ?_)
    (refine F_call (v := .bool true) (by rfl) (by rfl) ?_ ?_; (· (intro W hW; (try dsimp only at hW); go_simp; refine (root_RightB add s x y true _ _ _ _ _ _ _ _ W ((X.out.ext ex).ext hW.1) ((Y.out.ext ex).ext hW.1) B.out).mono ?_; rintro e w' ⟨rfl, hx⟩; exact ⟨_, rfl, rfl, hx⟩))); refine F_put ?_
    repeat (first | refine F_s ?_ | refine F_r ?_)
    rintro W3 ⟨hx, _⟩
    replace rr := heap_ext rr hx
    replace ex := Ext.step ex hx
    replace rb := rb.ext hx
    clear e0 e1 e2 e3 e4 e5 e6 ef hx

    obtain ⟨e0, e1, e2, ⟨e3, e4⟩, ⟨e5, e6⟩, ef⟩ := id rb
    obtain ⟨ra, rk⟩ := r
    have OF := Lib.hid (fun W (h : Ext w W) => root_OfE zz s x y (ra, rk) _ _ _ _ _ _ _ _ W (X.out.ext h) (Y.out.ext h) P.out)
    have hrl := (Array.getElem?_eq_some_iff.1 rr).1
    clear ef
    go_upto_region 5 with (fail)
    refine wp_GR (w.heap.size + 1) (.cells #[.int .i64 0, .int .i64 0, .bool false, .slice none 0 0, .bool false, .slice none 0 0] 27) (fun W => Ext w W ∧ W3.heap.size ≤ W.heap.size ∧ W.cell? ⟨w.heap.size, 0, none⟩ = some (.int .i64 add) ∧ W.cell? ⟨w.heap.size, 1, none⟩ = some (.int .i64 s) ∧ W.cell? ⟨w.heap.size, 2, none⟩ = some (.bool n) ∧ W.cell? ⟨w.heap.size, 3, none⟩ = some (.slice p l c) ∧ W.cell? ⟨w.heap.size, 4, none⟩ = some (.bool m) ∧ W.cell? ⟨w.heap.size, 5, none⟩ = some (.slice q k d)) ?_
    intro hSM hRKS
    repeat (first | refine F_s ?_ | refine F_r ?_)
    refine F_rootB (ra, rk) (by rfl) (by rfl) (by intro W hW; (try dsimp only at hW); go_simp; exact (OF.out W hW.1.1).mono fun _ _ h => RetRt.isRb h) ?_; intro n3 p3 l3 c3 m3 q3 k3 d3; refine F_put ?_
    repeat (first | refine F_s ?_ | refine F_r ?_)
    refine F_w (fun W => (_ ∧ NR W n3 p3 l3 c3 ra.n) ∧ NR W m3 q3 k3 d3 ra.d) (fun W hW => ⟨⟨⟨hW.1.1.1, hW.1.2⟩, hW.2⟩, hW.1.1.2⟩) ?_
    repeat (first | refine F_s ?_ | refine F_r ?_)
    rintro W4 ⟨⟨⟨⟨⟨hx, hz, hc⟩, nr1⟩, nr2⟩, hb⟩, _⟩
    obtain ⟨⟨c0, c1, c2, c3', c4, c5⟩, _, hl⟩ := cells6 hb
    clear hc hb e0 e1 e2 e3 e4 e5 e6
    go_wp2
    refine bodyPost_ret (v := .tuple #[.agg #[.int .i64 ra.add, .int .i64 ra.s, .bool n3, .slice p3 l3 c3, .bool m3, .slice q3 k3 d3], .bool rk]) (by simp only [results, Tryd.results17]; go_simp) rfl ?_
    exact ⟨n3, p3, l3, c3, m3, q3, k3, d3, rfl, nr1, nr2, hx⟩
end Go.Proofs.YtghgggaimijcaaaDoor

namespace Go.Proofs.YtghgggaimijcaaaDoor
open Go.RowKit
open Go.Lib (decDigits decDigits_one decDigits_length nDigits)

theorem dec_len : ∀ (k n : Nat), n < 10 ^ (k + 1) → (decDigits n).length ≤ k + 1
  | 0, n, h => by rw [decDigits_one (by simpa using h)]; exact Nat.le_refl _
  | k + 1, n, h => by
    by_cases hn : n < 10
    · rw [decDigits_one hn]; simp
    · rw [decDigits_more hn, List.length_append]
      have := dec_len k (n / 10) (by rw [Nat.pow_succ] at h; omega)
      simp only [List.length_singleton]
      omega
theorem textI_len {z : Int} (h : -9223372036854775808 ≤ z ∧ z ≤ 9223372036854775807) : (textI z).length ≤ 21 := by
  have := dec_len 19 z.natAbs (by have : (9223372036854775809 : Nat) < 10 ^ (19 + 1) := by decide +kernel
                                  omega)
  unfold textI
  split
  · rw [List.length_cons]; omega
  · omega
theorem textL_len {a : Nm} (hd : Dig a.d) (hl : a.d.length ≤ 8) : (textL a).length ≤ 80 := by
  have h1 := val_lt hd
  have h2 : (4294967296 : Nat) ^ a.d.length ≤ 4294967296 ^ 8 := Nat.pow_le_pow_right (by decide) hl
  have h3 : (4294967296 : Nat) ^ 8 < 10 ^ (78 + 1) := by decide +kernel
  have := dec_len 78 (val a.d) (by omega)
  unfold textL
  split
  · split
    · rw [List.length_cons]; omega
    · omega
  · simp
theorem bytesT_inj {a b : List UInt8} (h : bytesT a = bytesT b) : a = b := by
  unfold bytesT at h
  have := congrArg (fun x : ByteArray => x.data.toList) h
  simpa using this
theorem bytesT_eq (a b : List UInt8) : decide (bytesT a = bytesT b) = decide (a = b) := by
  rw [decide_eq_decide]
  exact ⟨bytesT_inj, fun h => by rw [h]⟩
end Go.Proofs.YtghgggaimijcaaaDoor

namespace Go.Proofs.YtghgggaimijcaaaDoor
open Go.RowKit
attribute [local go_sem] Gives givesU

theorem num_TextE (a : Nm) (t : ByteArray) (na : Bool) (pa : Option Addr) (la ca : Nat) (w : World) (ha : NR w na pa la ca a) (ht : Tab w) (h : bytesT (textL a) = t) :
    Calls Tryd.prog 34 #[.agg #[.bool na, .slice pa la ca]] w fun e w' => e = .returned (.string t) ∧ Ext w w' := h ▸ num_Text a na pa la ca w ha ht
theorem itoaE (z : Int) (t : ByteArray) (h : -9223372036854775808 ≤ z ∧ z ≤ 9223372036854775807) (w : World) (ht : Tab w) (e : bytesT (textI z) = t) : Calls Tryd.prog 33 #[.int .i64 z] w fun e w' => e = .returned (.string t) ∧ Ext w w' := by
  subst e
  refine (Tryd.strconv_Itoa z h.1 h.2 w ht).mono ?_
  rintro e w' ⟨rfl, k, os, rfl⟩
  exact ⟨by rw [itoa_textI]; rfl, Lib.below_grow _ _ (Nat.le_refl _) _ _⟩
set_option maxRecDepth 100000 in
set_option maxHeartbeats 4000000 in
theorem root_Text (add s : Int) (x y : Nm) (n m : Bool) (p q : Option Addr) (l c k d : Nat) (w : World) (hn : NR w n p l c x) (hd : NR w m q k d y) (ht : Tab w)
    (i1 : -9223372036854775808 ≤ add ∧ add ≤ 9223372036854775807) :
    Calls Tryd.prog 14 #[.agg #[.int .i64 add, .int .i64 s, .bool n, .slice p l c, .bool m, .slice q k d]] w fun e w' => e = .returned (.string (bytesT (textR ⟨add, s, x, y⟩))) ∧ Ext w w' := by
  have X := Lib.hid hn
  have Y := Lib.hid hd
  have TB := Lib.hid ht
  have I1 := Lib.hid i1
  obtain ⟨b, B⟩ : ∃ b, Hid (Rt.right ⟨add, s, x, y⟩ = b) := ⟨_, Lib.hid rfl⟩
  have RES : Hid (textR ⟨add, s, x, y⟩ = if b then textI add ++ (textS ⟨add, s, x, y⟩ ++ textD y) else []) := Lib.hid (by unfold textR; rw [B.out])
  have OK : Hid (b = true → (Rt.mk add s x y).Ok) := Lib.hid (fun h => (right_ok (a := ⟨add, s, x, y⟩) hn.2.2.dig hd.2.2.dig (B.out.trans h)).1)
  have DG : Hid (Dig x.d ∧ Dig y.d) := Lib.hid ⟨hn.2.2.dig, hd.2.2.dig⟩
  clear hn hd ht i1
  go_enter Tryd.func14, Tryd.ntmps14
  go_upto_region 1 with (fail)
  refine wp_know (fun W => Ext w W ∧ RB W w.heap.size add s n p l c m q k d) ?_ ?_
  · exact ⟨bxx, RB.heap (heap_new rfl)⟩
  rintro W0 ⟨ex, rb⟩
  obtain ⟨e0, e1, e2, ⟨e3, e4⟩, ⟨e5, e6⟩, ef⟩ := id rb
  go_wp2_with fail
  refine (root_RightB add s x y b _ _ _ _ _ _ _ _ W0 (X.out.ext ex) (Y.out.ext ex) B.out).mono ?_
  rintro e W1 ⟨rfl, hx⟩
  replace rb := rb.ext hx
  replace ex := Ext.step ex hx
  clear e0 e1 e2 e3 e4 e5 e6 ef hx

  cases b with
  | false =>
    go_wp2
    go_ret
    exact ⟨by rw [RES.out]; rfl, ex⟩
  | true =>
  obtain ⟨e0, e1, e2, ⟨e3, e4⟩, ⟨e5, e6⟩, ef⟩ := id rb
  have ok := OK.out rfl
  have sl := ok.sl
  have su := ok.su
  obtain ⟨sA, SA⟩ : ∃ t, Hid (bytesT (textI add) = t) := ⟨_, Lib.hid rfl⟩
  obtain ⟨sN, SN⟩ : ∃ t, Hid (bytesT (textL x) = t) := ⟨_, Lib.hid rfl⟩
  obtain ⟨sD, SD⟩ : ∃ t, Hid (bytesT (textL y) = t) := ⟨_, Lib.hid rfl⟩
  have zA : Hid (sA.size ≤ 21) := Lib.hid (by rw [← SA.out, bytesT_size]; exact textI_len I1.out)
  have zN : Hid (sN.size ≤ 80) := Lib.hid (by rw [← SN.out, bytesT_size]; exact textL_len DG.out.1 ok.nl)
  have zD : Hid (sD.size ≤ 80) := Lib.hid (by rw [← SD.out, bytesT_size]; exact textL_len DG.out.2 ok.dl)
  have YR := Lib.hid ok.dr
  clear ok OK
  go_wp2_with fail
  refine (itoaE add sA I1.out _ (TB.out.ext bxx) SA.out).mono ?_
  rintro e W2 ⟨rfl, hx⟩
  replace rb := rb.ext hx
  replace ex := Ext.step ex hx
  clear e0 e1 e2 e3 e4 e5 e6 ef hx
  obtain ⟨e0, e1, e2, ⟨e3, e4⟩, ⟨e5, e6⟩, ef⟩ := id rb
  obtain ⟨sB, SB⟩ : ∃ t, Hid (bytesT (textI add ++ textS ⟨add, s, x, y⟩) = t) := ⟨_, Lib.hid rfl⟩
  have zB : Hid (sB.size ≤ 200) := Lib.hid (by
    have := zN.out; have := zA.out
    rw [← SN.out, bytesT_size] at *; rw [← SA.out, bytesT_size] at *
    rw [← SB.out, bytesT_size, List.length_append]
    have h : (textS ⟨add, s, x, y⟩).length ≤ 2 + (textL x).length := by
      unfold textS
      split
      · simp; omega
      · split
        · simp; omega
        · simp
    omega)
  have CM := Lib.hid (fun W (h : Ext w W) n2 p2 l2 c2 (h2 : NR W n2 p2 l2 c2 (ofZ 1)) (v : Int) (hv : cmpP y (ofZ 1) = v) => num_CmpE y (ofZ 1) v m n2 q p2 k d l2 c2 W (Y.out.ext h) h2 hv)
  obtain ⟨v, V⟩ : ∃ v, Hid (cmpP y (ofZ 1) = v) := ⟨_, Lib.hid rfl⟩
  have VZ : Hid (v = 0 ↔ y.z = 1) := Lib.hid (by
    rw [← V.out]
    unfold cmpP cmpZ
    rw [YR.out, one_right, ofZ_z]
    simp only [Bool.and_self, if_true]
    (repeat' split) <;> omega)
  have hs : s = 1 ∨ s = -1 ∨ s = 0 := by omega
  clear sl su
  rcases hs with rfl | rfl | rfl
  · obtain ⟨s1, S1⟩ : ∃ t, (⟨#[43, 114]⟩ : ByteArray) ++ sN = t := ⟨_, rfl⟩
    have S2 : sA ++ s1 = sB := by
      rw [← S1, ← SA.out, ← SN.out, ← SB.out, show (⟨#[43, 114]⟩ : ByteArray) = bytesT [43, 114] from rfl, bytesT_add, bytesT_add]
      rfl
    have z1 : s1.size ≤ 82 := by
      rw [← S1, ByteArray.size_append]
      have := zN.out
      have e : (⟨#[43, 114]⟩ : ByteArray).size = 2 := rfl
      omega
    have hA : ¬ 9223372036854775807 < 2 + sN.size := by have := zN.out; omega
    have hC : ¬ 9223372036854775807 < (⟨#[43, 114]⟩ : ByteArray).size + sN.size := by rw [show (⟨#[43, 114]⟩ : ByteArray).size = 2 from rfl]; exact hA
    have hD : ¬ 9223372036854775807 < sA.size + s1.size := by have := zA.out; omega
    clear z1
    go_wp2_with fail
    refine (num_TextE x sN _ _ _ _ _ (X.out.ext (Ext.step ex bxx)) (TB.out.ext (Ext.step ex bxx)) SN.out).mono ?_
    rintro e W3 ⟨rfl, hx⟩
    replace rb := rb.ext hx
    replace ex := Ext.step ex hx
    clear e0 e1 e2 e3 e4 e5 e6 ef hx
    go_upto_region 9 with (fail)
    obtain ⟨e0, e1, e2, ⟨e3, e4⟩, ⟨e5, e6⟩, ef⟩ := id rb
    clear ef
    by_cases hv : v = 0
    · have hvb : (v != 0) = false := by simpa using hv
      have hva : (v == 0) = true := by simpa using hv
      have TD : Hid (textD y = []) := Lib.hid (by unfold textD; rw [if_pos (VZ.out.1 hv)])
      clear hv
      refine wp_KB (W3.heap.size) (fun W => Ext W3 W ∧ W3.heap.size ≤ W.heap.size ∧ W.cell? ⟨w.heap.size, 4, none⟩ = some (.bool m) ∧ W.cell? ⟨w.heap.size, 5, none⟩ = some (.slice q k d)) ?_
      intro hKeep
      repeat (first | refine F_s ?_ | refine F_r ?_)
      refine F_num W3 (ofZ 1) (by rfl) (by rfl) (by intro W hW; (try dsimp only at hW); have hwW : W3.heap.size ≤ W.heap.size := (by have hzz := hW; (repeat (first | exact hzz.size | exact hzz.1.size | replace hzz := hzz.1))); go_simp; exact (num_Of 1 _ (by decide) (by decide)).mono fun _ _ h => RetN.isN hwW h) ?_; intro n1 p1 l1 c1 hn1; refine F_put ?_
      repeat (first | refine F_s ?_ | refine F_r ?_)
      (refine F_call (v := .int .i64 v) (by rfl) (by rfl) ?_ ?_; (· (intro W hW; (try dsimp only at hW); go_simp; refine (CM.out W (Ext.step ex hW.1.1) _ _ _ _ hW.2 v V.out).mono ?_; rintro e w' ⟨rfl, hx⟩; exact ⟨_, rfl, rfl, hx⟩))); refine F_put ?_
      repeat (first | refine F_s ?_ | refine F_r ?_)
      rintro W4 ⟨hS, _⟩
      have ex4 := Ext.step ex hS.1
      clear hS
      go_wp2
      go_ret
      exact ⟨by rw [show bytesT (textR _) = sB from (congrArg bytesT (by rw [RES.out, TD.out, List.append_nil]; rfl)).trans SB.out]; rfl, ex4⟩
    · have hvb : (v != 0) = true := by simpa using hv
      have hva : (v == 0) = false := by simpa using hv
      have TD : Hid (textD y = 47 :: textL y) := Lib.hid (by unfold textD; rw [if_neg (fun g => hv (VZ.out.2 g))])
      clear hv
      refine wp_KB (W3.heap.size) (fun W => Ext W3 W ∧ W3.heap.size ≤ W.heap.size ∧ W.cell? ⟨w.heap.size, 4, none⟩ = some (.bool m) ∧ W.cell? ⟨w.heap.size, 5, none⟩ = some (.slice q k d)) ?_
      intro hKeep
      repeat (first | refine F_s ?_ | refine F_r ?_)
      refine F_num W3 (ofZ 1) (by rfl) (by rfl) (by intro W hW; (try dsimp only at hW); have hwW : W3.heap.size ≤ W.heap.size := (by have hzz := hW; (repeat (first | exact hzz.size | exact hzz.1.size | replace hzz := hzz.1))); go_simp; exact (num_Of 1 _ (by decide) (by decide)).mono fun _ _ h => RetN.isN hwW h) ?_; intro n1 p1 l1 c1 hn1; refine F_put ?_
      repeat (first | refine F_s ?_ | refine F_r ?_)
      (refine F_call (v := .int .i64 v) (by rfl) (by rfl) ?_ ?_; (· (intro W hW; (try dsimp only at hW); go_simp; refine (CM.out W (Ext.step ex hW.1.1) _ _ _ _ hW.2 v V.out).mono ?_; rintro e w' ⟨rfl, hx⟩; exact ⟨_, rfl, rfl, hx⟩))); refine F_put ?_
      repeat (first | refine F_s ?_ | refine F_r ?_)
      rintro W4 ⟨hS, _⟩
      have ex4 := Ext.step ex hS.1
      replace rb := rb.ext hS.1
      clear hS e0 e1 e2 e3 e4 e5 e6 hKeep hn1
      obtain ⟨e0, e1, e2, ⟨e3, e4⟩, ⟨e5, e6⟩, ef⟩ := id rb
      obtain ⟨s3, S3⟩ : ∃ t, (⟨#[47]⟩ : ByteArray) ++ sD = t := ⟨_, rfl⟩
      obtain ⟨s4, S4⟩ : ∃ t, sB ++ s3 = t := ⟨_, rfl⟩
      have SE : Hid (s4 = bytesT (textI add ++ (textS ⟨add, _, x, y⟩ ++ textD y))) := Lib.hid (by
        rw [← S4, ← S3, ← SB.out, ← SD.out, TD.out, show (⟨#[47]⟩ : ByteArray) = bytesT [47] from rfl, bytesT_add, bytesT_add, List.append_assoc]
        rfl)
      have z3 : s3.size ≤ 81 := by
        rw [← S3, ByteArray.size_append]
        have := zD.out
        have e : (⟨#[47]⟩ : ByteArray).size = 1 := rfl
        omega
      have hE : ¬ 9223372036854775807 < 1 + sD.size := by have := zD.out; omega
      have hF : ¬ 9223372036854775807 < (⟨#[47]⟩ : ByteArray).size + sD.size := by rw [show (⟨#[47]⟩ : ByteArray).size = 1 from rfl]; exact hE
      have hG : ¬ 9223372036854775807 < sB.size + s3.size := by have := zB.out; omega
      clear z3
      go_wp2_with fail
      refine (num_TextE y sD _ _ _ _ _ (Y.out.ext (Ext.step ex4 bxx)) (TB.out.ext (Ext.step ex4 bxx)) SD.out).mono ?_
      rintro e W5 ⟨rfl, hx⟩
      have ex5 := Ext.step ex4 hx
      clear e0 e1 e2 e3 e4 e5 e6 ef hx
      go_wp2
      go_ret
      exact ⟨by rw [show bytesT (textR _) = s4 from (congrArg bytesT (by rw [RES.out]; rfl)).trans SE.out.symm]; rfl, ex5⟩
  · obtain ⟨s1, S1⟩ : ∃ t, (⟨#[45, 114]⟩ : ByteArray) ++ sN = t := ⟨_, rfl⟩
    have S2 : sA ++ s1 = sB := by
      rw [← S1, ← SA.out, ← SN.out, ← SB.out, show (⟨#[45, 114]⟩ : ByteArray) = bytesT [45, 114] from rfl, bytesT_add, bytesT_add]
      rfl
    have z1 : s1.size ≤ 82 := by
      rw [← S1, ByteArray.size_append]
      have := zN.out
      have e : (⟨#[45, 114]⟩ : ByteArray).size = 2 := rfl
      omega
    have hA : ¬ 9223372036854775807 < 2 + sN.size := by have := zN.out; omega
    have hC : ¬ 9223372036854775807 < (⟨#[45, 114]⟩ : ByteArray).size + sN.size := by rw [show (⟨#[45, 114]⟩ : ByteArray).size = 2 from rfl]; exact hA
    have hD : ¬ 9223372036854775807 < sA.size + s1.size := by have := zA.out; omega
    clear z1
    go_wp2_with fail
    refine (num_TextE x sN _ _ _ _ _ (X.out.ext (Ext.step ex bxx)) (TB.out.ext (Ext.step ex bxx)) SN.out).mono ?_
    rintro e W3 ⟨rfl, hx⟩
    replace rb := rb.ext hx
    replace ex := Ext.step ex hx
    clear e0 e1 e2 e3 e4 e5 e6 ef hx
    go_upto_region 9 with (fail)
    obtain ⟨e0, e1, e2, ⟨e3, e4⟩, ⟨e5, e6⟩, ef⟩ := id rb
    clear ef
    by_cases hv : v = 0
    · have hvb : (v != 0) = false := by simpa using hv
      have hva : (v == 0) = true := by simpa using hv
      have TD : Hid (textD y = []) := Lib.hid (by unfold textD; rw [if_pos (VZ.out.1 hv)])
      clear hv
      refine wp_KB (W3.heap.size) (fun W => Ext W3 W ∧ W3.heap.size ≤ W.heap.size ∧ W.cell? ⟨w.heap.size, 4, none⟩ = some (.bool m) ∧ W.cell? ⟨w.heap.size, 5, none⟩ = some (.slice q k d)) ?_
      intro hKeep
      repeat (first | refine F_s ?_ | refine F_r ?_)
      refine F_num W3 (ofZ 1) (by rfl) (by rfl) (by intro W hW; (try dsimp only at hW); have hwW : W3.heap.size ≤ W.heap.size := (by have hzz := hW; (repeat (first | exact hzz.size | exact hzz.1.size | replace hzz := hzz.1))); go_simp; exact (num_Of 1 _ (by decide) (by decide)).mono fun _ _ h => RetN.isN hwW h) ?_; intro n1 p1 l1 c1 hn1; refine F_put ?_
      repeat (first | refine F_s ?_ | refine F_r ?_)
      (refine F_call (v := .int .i64 v) (by rfl) (by rfl) ?_ ?_; (· (intro W hW; (try dsimp only at hW); go_simp; refine (CM.out W (Ext.step ex hW.1.1) _ _ _ _ hW.2 v V.out).mono ?_; rintro e w' ⟨rfl, hx⟩; exact ⟨_, rfl, rfl, hx⟩))); refine F_put ?_
      repeat (first | refine F_s ?_ | refine F_r ?_)
      rintro W4 ⟨hS, _⟩
      have ex4 := Ext.step ex hS.1
      clear hS
      go_wp2
      go_ret
      exact ⟨by rw [show bytesT (textR _) = sB from (congrArg bytesT (by rw [RES.out, TD.out, List.append_nil]; rfl)).trans SB.out]; rfl, ex4⟩
    · have hvb : (v != 0) = true := by simpa using hv
      have hva : (v == 0) = false := by simpa using hv
      have TD : Hid (textD y = 47 :: textL y) := Lib.hid (by unfold textD; rw [if_neg (fun g => hv (VZ.out.2 g))])
      clear hv
      refine wp_KB (W3.heap.size) (fun W => Ext W3 W ∧ W3.heap.size ≤ W.heap.size ∧ W.cell? ⟨w.heap.size, 4, none⟩ = some (.bool m) ∧ W.cell? ⟨w.heap.size, 5, none⟩ = some (.slice q k d)) ?_
      intro hKeep
      repeat (first | refine F_s ?_ | refine F_r ?_)
      refine F_num W3 (ofZ 1) (by rfl) (by rfl) (by intro W hW; (try dsimp only at hW); have hwW : W3.heap.size ≤ W.heap.size := (by have hzz := hW; (repeat (first | exact hzz.size | exact hzz.1.size | replace hzz := hzz.1))); go_simp; exact (num_Of 1 _ (by decide) (by decide)).mono fun _ _ h => RetN.isN hwW h) ?_; intro n1 p1 l1 c1 hn1; refine F_put ?_
      repeat (first | refine F_s ?_ | refine F_r ?_)
      (refine F_call (v := .int .i64 v) (by rfl) (by rfl) ?_ ?_; (· (intro W hW; (try dsimp only at hW); go_simp; refine (CM.out W (Ext.step ex hW.1.1) _ _ _ _ hW.2 v V.out).mono ?_; rintro e w' ⟨rfl, hx⟩; exact ⟨_, rfl, rfl, hx⟩))); refine F_put ?_
      repeat (first | refine F_s ?_ | refine F_r ?_)
      rintro W4 ⟨hS, _⟩
      have ex4 := Ext.step ex hS.1
      replace rb := rb.ext hS.1
      clear hS e0 e1 e2 e3 e4 e5 e6 hKeep hn1
      obtain ⟨e0, e1, e2, ⟨e3, e4⟩, ⟨e5, e6⟩, ef⟩ := id rb
      obtain ⟨s3, S3⟩ : ∃ t, (⟨#[47]⟩ : ByteArray) ++ sD = t := ⟨_, rfl⟩
      obtain ⟨s4, S4⟩ : ∃ t, sB ++ s3 = t := ⟨_, rfl⟩
      have SE : Hid (s4 = bytesT (textI add ++ (textS ⟨add, _, x, y⟩ ++ textD y))) := Lib.hid (by
        rw [← S4, ← S3, ← SB.out, ← SD.out, TD.out, show (⟨#[47]⟩ : ByteArray) = bytesT [47] from rfl, bytesT_add, bytesT_add, List.append_assoc]
        rfl)
      have z3 : s3.size ≤ 81 := by
        rw [← S3, ByteArray.size_append]
        have := zD.out
        have e : (⟨#[47]⟩ : ByteArray).size = 1 := rfl
        omega
      have hE : ¬ 9223372036854775807 < 1 + sD.size := by have := zD.out; omega
      have hF : ¬ 9223372036854775807 < (⟨#[47]⟩ : ByteArray).size + sD.size := by rw [show (⟨#[47]⟩ : ByteArray).size = 1 from rfl]; exact hE
      have hG : ¬ 9223372036854775807 < sB.size + s3.size := by have := zB.out; omega
      clear z3
      go_wp2_with fail
      refine (num_TextE y sD _ _ _ _ _ (Y.out.ext (Ext.step ex4 bxx)) (TB.out.ext (Ext.step ex4 bxx)) SD.out).mono ?_
      rintro e W5 ⟨rfl, hx⟩
      have ex5 := Ext.step ex4 hx
      clear e0 e1 e2 e3 e4 e5 e6 ef hx
      go_wp2
      go_ret
      exact ⟨by rw [show bytesT (textR _) = s4 from (congrArg bytesT (by rw [RES.out]; rfl)).trans SE.out.symm]; rfl, ex5⟩
  · obtain rfl : sB = sA := by
      rw [← SA.out, ← SB.out]
      show bytesT (textI add ++ []) = _
      rw [List.append_nil]
    clear e0 e1 e2 e3 e4 e5 e6 ef
    obtain ⟨e0, e1, e2, ⟨e3, e4⟩, ⟨e5, e6⟩, ef⟩ := id rb
    go_upto_region 9 with (fail)
    clear e0 e1 e2 e3 e4 e5 e6 ef
    obtain ⟨e0, e1, e2, ⟨e3, e4⟩, ⟨e5, e6⟩, ef⟩ := id rb
    clear ef
    by_cases hv : v = 0
    · have hvb : (v != 0) = false := by simpa using hv
      have hva : (v == 0) = true := by simpa using hv
      have TD : Hid (textD y = []) := Lib.hid (by unfold textD; rw [if_pos (VZ.out.1 hv)])
      clear hv
      refine wp_KB (W2.heap.size) (fun W => Ext W2 W ∧ W2.heap.size ≤ W.heap.size ∧ W.cell? ⟨w.heap.size, 4, none⟩ = some (.bool m) ∧ W.cell? ⟨w.heap.size, 5, none⟩ = some (.slice q k d)) ?_
      intro hKeep
      repeat (first | refine F_s ?_ | refine F_r ?_)
      refine F_num W2 (ofZ 1) (by rfl) (by rfl) (by intro W hW; (try dsimp only at hW); have hwW : W2.heap.size ≤ W.heap.size := (by have hzz := hW; (repeat (first | exact hzz.size | exact hzz.1.size | replace hzz := hzz.1))); go_simp; exact (num_Of 1 _ (by decide) (by decide)).mono fun _ _ h => RetN.isN hwW h) ?_; intro n1 p1 l1 c1 hn1; refine F_put ?_
      repeat (first | refine F_s ?_ | refine F_r ?_)
      (refine F_call (v := .int .i64 v) (by rfl) (by rfl) ?_ ?_; (· (intro W hW; (try dsimp only at hW); go_simp; refine (CM.out W (Ext.step ex hW.1.1) _ _ _ _ hW.2 v V.out).mono ?_; rintro e w' ⟨rfl, hx⟩; exact ⟨_, rfl, rfl, hx⟩))); refine F_put ?_
      repeat (first | refine F_s ?_ | refine F_r ?_)
      rintro W4 ⟨hS, _⟩
      have ex4 := Ext.step ex hS.1
      clear hS
      go_wp2
      go_ret
      exact ⟨by rw [show bytesT (textR _) = sB from (congrArg bytesT (by rw [RES.out, TD.out, List.append_nil]; rfl)).trans SB.out]; rfl, ex4⟩
    · have hvb : (v != 0) = true := by simpa using hv
      have hva : (v == 0) = false := by simpa using hv
      have TD : Hid (textD y = 47 :: textL y) := Lib.hid (by unfold textD; rw [if_neg (fun g => hv (VZ.out.2 g))])
      clear hv
      refine wp_KB (W2.heap.size) (fun W => Ext W2 W ∧ W2.heap.size ≤ W.heap.size ∧ W.cell? ⟨w.heap.size, 4, none⟩ = some (.bool m) ∧ W.cell? ⟨w.heap.size, 5, none⟩ = some (.slice q k d)) ?_
      intro hKeep
      repeat (first | refine F_s ?_ | refine F_r ?_)
      refine F_num W2 (ofZ 1) (by rfl) (by rfl) (by intro W hW; (try dsimp only at hW); have hwW : W2.heap.size ≤ W.heap.size := (by have hzz := hW; (repeat (first | exact hzz.size | exact hzz.1.size | replace hzz := hzz.1))); go_simp; exact (num_Of 1 _ (by decide) (by decide)).mono fun _ _ h => RetN.isN hwW h) ?_; intro n1 p1 l1 c1 hn1; refine F_put ?_
      repeat (first | refine F_s ?_ | refine F_r ?_)
      (refine F_call (v := .int .i64 v) (by rfl) (by rfl) ?_ ?_; (· (intro W hW; (try dsimp only at hW); go_simp; refine (CM.out W (Ext.step ex hW.1.1) _ _ _ _ hW.2 v V.out).mono ?_; rintro e w' ⟨rfl, hx⟩; exact ⟨_, rfl, rfl, hx⟩))); refine F_put ?_
      repeat (first | refine F_s ?_ | refine F_r ?_)
      rintro W4 ⟨hS, _⟩
      have ex4 := Ext.step ex hS.1
      replace rb := rb.ext hS.1
      clear hS e0 e1 e2 e3 e4 e5 e6 hKeep hn1
      obtain ⟨e0, e1, e2, ⟨e3, e4⟩, ⟨e5, e6⟩, ef⟩ := id rb
      obtain ⟨s3, S3⟩ : ∃ t, (⟨#[47]⟩ : ByteArray) ++ sD = t := ⟨_, rfl⟩
      obtain ⟨s4, S4⟩ : ∃ t, sB ++ s3 = t := ⟨_, rfl⟩
      have SE : Hid (s4 = bytesT (textI add ++ (textS ⟨add, _, x, y⟩ ++ textD y))) := Lib.hid (by
        rw [← S4, ← S3, ← SB.out, ← SD.out, TD.out, show (⟨#[47]⟩ : ByteArray) = bytesT [47] from rfl, bytesT_add, bytesT_add, List.append_assoc]
        rfl)
      have z3 : s3.size ≤ 81 := by
        rw [← S3, ByteArray.size_append]
        have := zD.out
        have e : (⟨#[47]⟩ : ByteArray).size = 1 := rfl
        omega
      have hE : ¬ 9223372036854775807 < 1 + sD.size := by have := zD.out; omega
      have hF : ¬ 9223372036854775807 < (⟨#[47]⟩ : ByteArray).size + sD.size := by rw [show (⟨#[47]⟩ : ByteArray).size = 1 from rfl]; exact hE
      have hG : ¬ 9223372036854775807 < sB.size + s3.size := by have := zB.out; omega
      clear z3
      go_wp2_with fail
      refine (num_TextE y sD _ _ _ _ _ (Y.out.ext (Ext.step ex4 bxx)) (TB.out.ext (Ext.step ex4 bxx)) SD.out).mono ?_
      rintro e W5 ⟨rfl, hx⟩
      have ex5 := Ext.step ex4 hx
      clear e0 e1 e2 e3 e4 e5 e6 ef hx
      go_wp2
      go_ret
      exact ⟨by rw [show bytesT (textR _) = s4 from (congrArg bytesT (by rw [RES.out]; rfl)).trans SE.out.symm]; rfl, ex5⟩
end Go.Proofs.YtghgggaimijcaaaDoor

namespace Go.Proofs.YtghgggaimijcaaaDoor
open Go.RowKit
attribute [local go_sem] Gives givesU

set_option maxRecDepth 100000 in
set_option maxHeartbeats 1000000 in
theorem root_CmpInt (add s i : Int) (x y : Nm) (n m : Bool) (p q : Option Addr) (l c k d : Nat) (w : World) (hn : NR w n p l c x) (hd : NR w m q k d y)
    (i1 : -9223372036854775808 ≤ add ∧ add ≤ 9223372036854775807) (i2 : -9223372036854775808 ≤ i ∧ i ≤ 9223372036854775807) :
    Calls Tryd.prog 8 #[.agg #[.int .i64 add, .int .i64 s, .bool n, .slice p l c, .bool m, .slice q k d], .int .i64 i] w fun e w' => e = .returned (.int .i64 (cmpRt ⟨add, s, x, y⟩ ⟨i, 0, zero, ofZ 1⟩)) ∧ Ext w w' := by
  have X := Lib.hid hn
  have Y := Lib.hid hd
  clear hn hd
  have CM := Lib.hid (fun W (h : Ext w W) n2 p2 l2 c2 (h2 : NR W n2 p2 l2 c2 (ofZ 1)) => root_Cmp add s i 0 x y zero (ofZ 1) n m false n2 p q none p2 l c k d 0 0 l2 c2 W (X.out.ext h) (Y.out.ext h) (NR.zero W) h2 i1 i2)
  obtain ⟨v, V⟩ : ∃ v, Hid (cmpRt ⟨add, s, x, y⟩ ⟨i, 0, zero, ofZ 1⟩ = v) := ⟨_, Lib.hid rfl⟩
  rw [V.out] at CM ⊢
  clear i1 i2
  go_enter Tryd.func8, Tryd.ntmps8
  go_upto_region 1 with (fail)
  refine wp_know (fun W => Ext w W ∧ RB W w.heap.size add s n p l c m q k d) ?_ ?_
  · exact ⟨bxx, RB.heap (heap_new rfl)⟩
  rintro W0 ⟨ex, rb⟩
  obtain ⟨e0, e1, e2, ⟨e3, e4⟩, ⟨e5, e6⟩, ef⟩ := id rb
  clear rb ef
  refine wp_KB (W0.heap.size) (fun W => Ext W0 W ∧ W0.heap.size ≤ W.heap.size ∧ W.cell? ⟨w.heap.size, 0, none⟩ = some (.int .i64 add) ∧ W.cell? ⟨w.heap.size, 1, none⟩ = some (.int .i64 s) ∧ W.cell? ⟨w.heap.size, 2, none⟩ = some (.bool n) ∧ W.cell? ⟨w.heap.size, 3, none⟩ = some (.slice p l c) ∧ W.cell? ⟨w.heap.size, 4, none⟩ = some (.bool m) ∧ W.cell? ⟨w.heap.size, 5, none⟩ = some (.slice q k d)) ?_
  intro hKeep
  repeat (first | refine F_s ?_ | refine F_r ?_)
  refine F_num W0 (ofZ 1) (by rfl) (by rfl) (by intro W hW; (try dsimp only at hW); have hwW : W0.heap.size ≤ W.heap.size := (by have hzz := hW; (repeat (first | exact hzz.size | exact hzz.1.size | replace hzz := hzz.1))); go_simp; exact (num_Of 1 _ (by decide) (by decide)).mono fun _ _ h => RetN.isN hwW h) ?_; intro n11 p11 l11 c11 hn11; refine F_put ?_
  repeat (first | refine F_s ?_ | refine F_r ?_)
  (refine F_call (v := .int .i64 v) (by rfl) (by rfl) ?_ ?_; (· (intro W hW; (try dsimp only at hW); go_simp; refine (CM.out W (Ext.step ex hW.1.1) _ _ _ _ hW.2).mono ?_; rintro e w' ⟨rfl, hx⟩; exact ⟨_, rfl, rfl, hx⟩))); refine F_put ?_
  repeat (first | refine F_s ?_ | refine F_r ?_)
  rintro W1 ⟨hS, _⟩
  have E1 : Ext w W1 := Ext.step ex hS.1
  clear hS
  go_wp2
  go_ret
  exact ⟨rfl, E1⟩
end Go.Proofs.YtghgggaimijcaaaDoor

namespace Go.Proofs.YtghgggaimijcaaaDoor
open Go.RowKit

theorem r02_SameT (add s : Int) (x y : Nm) (ba bs : Int) (bn bd : Nm) (v : Bool) (n m : Bool) (p q : Option Addr) (l c k d : Nat) (n1 m1 : Bool) (p1 q1 : Option Addr) (l1 c1' k1 d1 : Nat) (w : World)
    (hn : NR w n p l c x) (hd : NR w m q k d y) (hn1 : NR w n1 p1 l1 c1' bn) (hd1 : NR w m1 q1 k1 d1 bd) (h : sameR ⟨add, s, x, y⟩ ⟨ba, bs, bn, bd⟩ = v) :
    Calls Tryd.prog 13 #[.agg #[.int .i64 add, .int .i64 s, .bool n, .slice p l c, .bool m, .slice q k d], .agg #[.int .i64 ba, .int .i64 bs, .bool n1, .slice p1 l1 c1', .bool m1, .slice q1 k1 d1]] w fun e w' => e = .returned (.bool v) ∧ Ext w w' := by
  subst h
  exact r02_Same add s x y n m p q l c k d ba bs bn bd n1 m1 p1 q1 l1 c1' k1 d1 w hn hd hn1 hd1
theorem root_TextE (add s : Int) (x y : Nm) (t : ByteArray) (n m : Bool) (p q : Option Addr) (l c k d : Nat) (w : World) (hn : NR w n p l c x) (hd : NR w m q k d y) (ht : Tab w) (i1 : -9223372036854775808 ≤ add ∧ add ≤ 9223372036854775807) (h : bytesT (textR ⟨add, s, x, y⟩) = t) :
    Calls Tryd.prog 14 #[.agg #[.int .i64 add, .int .i64 s, .bool n, .slice p l c, .bool m, .slice q k d]] w fun e w' => e = .returned (.string t) ∧ Ext w w' := by
  subst h
  exact root_Text add s x y n m p q l c k d w hn hd ht i1
theorem root_SignE (a b c : Nm) (v : Int) (na nb nc : Bool) (pa pb pc : Option Addr) (la ca lb cb lc cc : Nat) (w : World) (ha : NR w na pa la ca a) (hb : NR w nb pb lb cb b) (hc : NR w nc pc lc cc c) (h : signP a b c = v) :
    Calls Tryd.prog 16 #[.agg #[.bool na, .slice pa la ca], .agg #[.bool nb, .slice pb lb cb], .agg #[.bool nc, .slice pc lc cc]] w fun e w' => e = .returned (.int .i64 v) ∧ Ext w w' := by
  subst h
  exact root_Sign a b c _ _ _ _ _ _ _ _ _ _ _ _ w ha hb hc
theorem root_CmpE (add s add2 s2 : Int) (x y x2 y2 : Nm) (v : Int) (n m : Bool) (p q : Option Addr) (l c k d : Nat) (n2 m2 : Bool) (p2 q2 : Option Addr) (l2 c2 k2 d2 : Nat) (w : World)
    (hn : NR w n p l c x) (hd : NR w m q k d y) (hn2 : NR w n2 p2 l2 c2 x2) (hd2 : NR w m2 q2 k2 d2 y2) (i1 : -9223372036854775808 ≤ add ∧ add ≤ 9223372036854775807) (i2 : -9223372036854775808 ≤ add2 ∧ add2 ≤ 9223372036854775807) (h : cmpRt ⟨add, s, x, y⟩ ⟨add2, s2, x2, y2⟩ = v) :
    Calls Tryd.prog 10 #[.agg #[.int .i64 add, .int .i64 s, .bool n, .slice p l c, .bool m, .slice q k d], .agg #[.int .i64 add2, .int .i64 s2, .bool n2, .slice p2 l2 c2, .bool m2, .slice q2 k2 d2]] w fun e w' => e = .returned (.int .i64 v) ∧ Ext w w' := by
  subst h
  exact root_Cmp add s add2 s2 x y x2 y2 n m n2 m2 p q p2 q2 l c k d l2 c2 k2 d2 w hn hd hn2 hd2 i1 i2
theorem root_CmpIntE (add s i : Int) (x y : Nm) (v : Int) (n m : Bool) (p q : Option Addr) (l c k d : Nat) (w : World) (hn : NR w n p l c x) (hd : NR w m q k d y) (i1 : -9223372036854775808 ≤ add ∧ add ≤ 9223372036854775807) (i2 : -9223372036854775808 ≤ i ∧ i ≤ 9223372036854775807) (h : cmpRt ⟨add, s, x, y⟩ ⟨i, 0, zero, ofZ 1⟩ = v) :
    Calls Tryd.prog 8 #[.agg #[.int .i64 add, .int .i64 s, .bool n, .slice p l c, .bool m, .slice q k d], .int .i64 i] w fun e w' => e = .returned (.int .i64 v) ∧ Ext w w' := by
  subst h
  exact root_CmpInt add s i x y n m p q l c k d w hn hd i1 i2
theorem root_PlusE (add s i : Int) (x y : Nm) (r : Rt × Bool) (n m : Bool) (p q : Option Addr) (l c k d : Nat) (w : World) (hn : NR w n p l c x) (hd : NR w m q k d y) (i1 : -9223372036854775808 ≤ add ∧ add ≤ 9223372036854775807) (i2 : -9223372036854775808 ≤ i ∧ i ≤ 9223372036854775807) (h : plusR ⟨add, s, x, y⟩ i = r) :
    Calls Tryd.prog 17 #[.agg #[.int .i64 add, .int .i64 s, .bool n, .slice p l c, .bool m, .slice q k d], .int .i64 i] w (RetRt w r) := by
  subst h
  exact root_Plus add s i x y n m p q l c k d w hn hd i1 i2
end Go.Proofs.YtghgggaimijcaaaDoor
