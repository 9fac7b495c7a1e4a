/- Contracts: etchantref07.axes, positive, line, on, lines. | Contract: etchantref07.lines. | The count of signs, in the order of the reference. -/
import Derived.Test.YtmmhiiiaccldmaaGreatJ23
import Derived.Test.YtmmhiiiaccldmaaGreatJ18
import Derived.Test.YtmmhiiiaccldmaaGreatJ24
set_option linter.unusedVariables false
set_option linter.unusedSimpArgs false

namespace Go.Proofs.YtmmhiiiaccldmaaGreat
open Go.RowKit
attribute [local go_sem] Gives givesU

theorem cellsQ {W : World} {g : Nat} {a b c d : Value} {T : TypeId} (h : W.heap[g]? = some (.cells #[a, b, c, d] T)) : W.cell? ⟨g, 0, none⟩ = some a ∧ W.cell? ⟨g, 1, none⟩ = some b ∧ W.cell? ⟨g, 2, none⟩ = some c ∧ W.cell? ⟨g, 3, none⟩ = some d ∧ g < W.heap.size := by
  refine ⟨?_, ?_, ?_, ?_, (Array.getElem?_eq_some_iff.1 h).1⟩
  all_goals (rw [cell_of_row _ _ _ _ _ _ h]; rfl)
set_option maxRecDepth 100000 in
set_option maxHeartbeats 4000000 in
theorem r07_axes (k ax ay bx by' cx cy : Int) (w : World) (hok : (Ed.mk k ax ay bx by' cx cy).ok = true) (hk : ¬ k = 1) (ux uy vx vy : Int) (hux : (Ed.mk k ax ay bx by' cx cy).ux = ux) (huy : (Ed.mk k ax ay bx by' cx cy).uy = uy) (hvx : (Ed.mk k ax ay bx by' cx cy).vx = vx) (hvy : (Ed.mk k ax ay bx by' cx cy).vy = vy) :
    Calls Tryz.prog 52 #[.agg #[.int .i64 k, .int .i64 ax, .int .i64 ay, .int .i64 bx, .int .i64 by', .int .i64 cx, .int .i64 cy]] w fun e w' => e = .returned (.agg #[.int .i64 ux, .int .i64 uy, .int .i64 vx, .int .i64 vy]) ∧ Ext w w' := by
  obtain ⟨⟨h1, h2⟩, ⟨h3, h4⟩, h5, h6⟩ := ok_right hok
  simp only at h1 h2 h3 h4 h5 h6
  have hr0 := rad_pos hok hk
  have hr1 := rad_le hok
  have RC := fun w => r06_Radius k ax ay bx by' cx cy w
  unfold Ed.ux at hux
  unfold Ed.uy at huy
  unfold Ed.vx at hvx
  unfold Ed.vy at hvy
  obtain ⟨r, R⟩ : ∃ r, Hid (radZ (Ed.mk k ax ay bx by' cx cy) = r) := ⟨_, rfl⟩
  rw [R.out] at hr0 hr1 RC hux huy hvx hvy
  simp only at hux huy hvx hvy
  have RC := Lib.hid RC
  have SA := Lib.hid (fun w => r05_Sub ax ay cx cy w (h1.sub h5).i64 (h2.sub h6).i64)
  have SB := Lib.hid (fun w => r05_Sub bx by' cx cy w (h3.sub h5).i64 (h4.sub h6).i64)
  have t1 := tdiv_bd (r := r) (show -134217728 ≤ ax - cx ∧ ax - cx ≤ 134217728 from h1.sub h5)
  have t2 := tdiv_bd (r := r) (show -134217728 ≤ ay - cy ∧ ay - cy ≤ 134217728 from h2.sub h6)
  have t3 := tdiv_bd (r := r) (show -134217728 ≤ bx - cx ∧ bx - cx ≤ 134217728 from h3.sub h5)
  have t4 := tdiv_bd (r := r) (show -134217728 ≤ by' - cy ∧ by' - cy ≤ 134217728 from h4.sub h6)
  have q1 : IntKind.i64.wrap ((ax - cx).tdiv r) = ux := by rw [← hux]; exact wrap_in (by unfold I64; omega)
  have q2 : IntKind.i64.wrap ((ay - cy).tdiv r) = uy := by rw [← huy]; exact wrap_in (by unfold I64; omega)
  have q3 : IntKind.i64.wrap ((bx - cx).tdiv r) = vx := by rw [← hvx]; exact wrap_in (by unfold I64; omega)
  have q4 : IntKind.i64.wrap ((by' - cy).tdiv r) = vy := by rw [← hvy]; exact wrap_in (by unfold I64; omega)
  have rb : (r == 0) = false := by rw [beq_eq_false_iff_ne]; omega
  have rne : r ≠ 0 := by omega
  clear hok hk h1 h2 h3 h4 h5 h6 t1 t2 t3 t4 hux huy hvx hvy hr0 hr1
  go_enter Tryz.func52, Tryz.ntmps52
  go_wp2_with fail
  refine (RC.out _).mono ?_
  rintro e w1 ⟨rfl, hx⟩
  have hx0 : Ext w w1 := Ext.step bxx hx
  have hr := heap_ext (heap_new (r := w.heap.size + 1) (by simp)) hx
  have hz_w1 : w.heap.size + 2 ≤ w1.heap.size := Nat.le_trans omm hx.size
  obtain ⟨hl_w1_0, hk_w1_0, hf_w1_0⟩ := extK hx (w.heap.size)
  obtain ⟨hl_w1_1, hk_w1_1, hf_w1_1⟩ := extK hx (w.heap.size + 1)
  clear hx
  go_upto_region 2 with (fail)
  refine wp_KB (w1.heap.size) (fun W => Ext w1 W ∧ w1.heap.size ≤ W.heap.size ∧ W.cell? ⟨w.heap.size, 0, none⟩ = some (.int .i64 k) ∧ W.cell? ⟨w.heap.size, 1, none⟩ = some (.int .i64 ax) ∧ W.cell? ⟨w.heap.size, 2, none⟩ = some (.int .i64 ay) ∧ W.cell? ⟨w.heap.size, 3, none⟩ = some (.int .i64 bx) ∧ W.cell? ⟨w.heap.size, 4, none⟩ = some (.int .i64 by') ∧ W.cell? ⟨w.heap.size, 5, none⟩ = some (.int .i64 cx) ∧ W.cell? ⟨w.heap.size, 6, none⟩ = some (.int .i64 cy)) ?_
  intro hKeep
  repeat (first | refine F_s ?_ | refine F_r ?_)
  (refine F_call (v := .agg #[.int .i64 (ax-cx), .int .i64 (ay-cy)]) (by rfl) (by rfl) ?_ ?_; (· (intro W hW; (try dsimp only at hW); go_simp; refine (SA.out _).mono ?_; rintro e w' ⟨rfl, hx⟩; exact ⟨_, rfl, rfl, hx⟩))); refine F_put ?_
  repeat (first | refine F_s ?_ | refine F_r ?_)
  refine F_al ?_
  intro g hg
  simp only [List.mem_cons, List.mem_range, not_or, Nat.not_lt] at hg
  refine F_w (fun W => _) (fun W hW => hW) ?_
  repeat (first | refine F_s ?_ | refine F_r ?_)
  rintro V1 ⟨⟨⟨hxa, hza, hca⟩, bk1⟩, _⟩
  replace hx0 := Ext.step hx0 hxa
  replace hr := heap_ext hr hxa
  clear hk_w1_0 hk_w1_1 hf_w1_0 hf_w1_1
  have hl0 : w.heap.size < V1.heap.size := by omega
  go_upto_region 3 with (fail)
  refine wp_KB (V1.heap.size) (fun W => Ext V1 W ∧ V1.heap.size ≤ W.heap.size ∧ W.cell? ⟨w.heap.size, 0, none⟩ = some (.int .i64 k) ∧ W.cell? ⟨w.heap.size, 1, none⟩ = some (.int .i64 ax) ∧ W.cell? ⟨w.heap.size, 2, none⟩ = some (.int .i64 ay) ∧ W.cell? ⟨w.heap.size, 3, none⟩ = some (.int .i64 bx) ∧ W.cell? ⟨w.heap.size, 4, none⟩ = some (.int .i64 by') ∧ W.cell? ⟨w.heap.size, 5, none⟩ = some (.int .i64 cx) ∧ W.cell? ⟨w.heap.size, 6, none⟩ = some (.int .i64 cy)) ?_
  intro hKeep
  repeat (first | refine F_s ?_ | refine F_r ?_)
  (refine F_call (v := .agg #[.int .i64 (bx-cx), .int .i64 (by'-cy)]) (by rfl) (by rfl) ?_ ?_; (· (intro W hW; (try dsimp only at hW); go_simp; refine (SB.out _).mono ?_; rintro e w' ⟨rfl, hx⟩; exact ⟨_, rfl, rfl, hx⟩))); refine F_put ?_
  repeat (first | refine F_s ?_ | refine F_r ?_)
  refine F_al ?_
  intro g2 hg2
  simp only [List.mem_cons, List.mem_range, not_or, Nat.not_lt] at hg2
  refine F_w (fun W => _) (fun W hW => hW) ?_
  repeat (first | refine F_s ?_ | refine F_r ?_)
  rintro V2 ⟨⟨⟨hxb, hzb, hcb⟩, bk2⟩, _⟩
  replace hx0 := Ext.step hx0 hxb
  replace hr := heap_ext hr hxb
  replace bk1 := heap_ext bk1 hxb
  obtain ⟨k0, k1, _, hl1⟩ := pt_block bk1
  obtain ⟨e0, e1, _, hl2⟩ := pt_block bk2
  have n1 : g ≠ w.heap.size + 1 := by omega
  have n2 : g2 ≠ w.heap.size + 1 := by omega
  clear hca hcb bk1 bk2 hxa hxb
  go_upto_region 4 with (fail)
  refine wp_GR (w.heap.size + 1) (.cells #[.int .i64 0, .int .i64 0, .int .i64 0, .int .i64 0] 60) (fun W => Ext w W ∧ V2.heap.size ≤ W.heap.size ∧ W.cell? ⟨g, 0, none⟩ = some (.int .i64 (ax-cx)) ∧ W.cell? ⟨g, 1, none⟩ = some (.int .i64 (ay-cy)) ∧ W.cell? ⟨g2, 0, none⟩ = some (.int .i64 (bx-cx)) ∧ W.cell? ⟨g2, 1, none⟩ = some (.int .i64 (by'-cy))) ?_
  intro hSM hRKS
  repeat (first | refine F_s ?_ | refine F_r ?_)
  refine F_w (fun W => _) (fun W hW => hW) ?_
  repeat (first | refine F_s ?_ | refine F_r ?_)
  rintro W ⟨⟨⟨hx, hz, hc⟩, hb⟩, _⟩
  obtain ⟨c0, c1, c2, c3, hl⟩ := cellsQ hb
  clear hc hb
  go_wp2
  exact bodyPost_ret (v := .agg #[.int .i64 ux, .int .i64 uy, .int .i64 vx, .int .i64 vy]) (by simp [results, Tryz.results52, go_sem, *]) rfl ⟨rfl, hx⟩

theorem r02_SignZ (x y d v : Int) (na nb nc : Bool) (pa pb pc : Option Addr) (la ca lb cb lc cc : Nat) (w : World) (ha : NR w na pa la ca (ofZ x)) (hb : NR w nb pb lb cb (ofZ y)) (hc : NR w nc pc lc cc (ofZ d)) (hx : Gd x) (hy : Gd y) (hd : Gd d) (h0 : 0 ≤ d) (hv : sideZ x y d = v) :
    Calls Tryz.prog 69 #[.agg #[.bool na, .slice pa la ca], .agg #[.bool nb, .slice pb lb cb], .agg #[.bool nc, .slice pc lc cc]] w fun e w' => e = .returned (.int .i64 v) ∧ Ext w w' := by
  subst hv
  rw [← signP_ofZ hx hy hd h0]
  exact r02_Sign _ _ _ _ _ _ _ _ _ _ _ _ _ _ _ w ha hb hc
set_option maxRecDepth 100000 in
set_option maxHeartbeats 4000000 in
theorem r07_positive (x s y d z : Int) (na nb nc : Bool) (pa pb pc : Option Addr) (la ca lb cb lc cc : Nat) (w : World) (ha : NR w na pa la ca (ofZ x)) (hb : NR w nb pb lb cb (ofZ y)) (hc : NR w nc pc lc cc (ofZ d)) (hx : Gd x) (hy : Gd y) (hd : Gd d) (h0 : 0 ≤ d) (hs : s = 1 ∨ s = -1) (hz : s * y = z) (good : Bool) (hg : decide (0 ≤ sideZ x z d) = good) :
    Calls Tryz.prog 56 #[.agg #[.bool na, .slice pa la ca], .int .i64 s, .agg #[.bool nb, .slice pb lb cb], .agg #[.bool nc, .slice pc lc cc]] w fun e w' => e = .returned (.bool good) ∧ Ext w w' := by
  have HA := Lib.hid ha
  have HB := Lib.hid hb
  have HC := Lib.hid hc
  have gz : Gd z := by
    rw [← hz]
    rcases hs with rfl | rfl
    · simpa using hy
    · unfold Gd at *; rw [Int.natAbs_mul]; simpa using hy
  have SI : Hid (-9223372036854775808 ≤ s ∧ s ≤ 9223372036854775807) := Lib.hid (by omega)
  have SS : Hid (small s = true) := Lib.hid (by rcases hs with rfl | rfl <;> exact small_of_lt (k := 1) (by decide) (by decide))
  have SY := Lib.hid hy.small
  have SZ := Lib.hid gz.small
  have HZ := Lib.hid hz
  obtain ⟨v, V⟩ : ∃ v, Hid (sideZ x z d = v) := ⟨_, rfl⟩
  have SG := Lib.hid (fun na nb nc pa pb pc la ca lb cb lc cc W ha hb hc => r02_SignZ x z d v na nb nc pa pb pc la ca lb cb lc cc W ha hb hc hx gz hd h0 V.out)
  rw [V.out] at hg
  subst hg
  clear ha hb hc hx hy hd h0 hs hz gz
  go_enter Tryz.func56, Tryz.ntmps56
  go_upto_region 1 with (fail)
  refine wp_KB (w.heap.size + 1 + 1 + 1) (fun W => Ext w W ∧ w.heap.size + 1 + 1 + 1 ≤ W.heap.size ∧ W.cell? ⟨w.heap.size, 0, none⟩ = some (.bool na) ∧ W.cell? ⟨w.heap.size, 1, none⟩ = some (.slice pa la ca) ∧ W.cell? ⟨w.heap.size + 1, 0, none⟩ = some (.bool nb) ∧ W.cell? ⟨w.heap.size + 1, 1, none⟩ = some (.slice pb lb cb) ∧ W.cell? ⟨w.heap.size + 1 + 1, 0, none⟩ = some (.bool nc) ∧ W.cell? ⟨w.heap.size + 1 + 1, 1, none⟩ = some (.slice pc lc cc)) ?_
  intro hKeep
  repeat (first | refine F_s ?_ | refine F_r ?_)
  refine F_num { w with heap := #[] } (ofZ s) (by rfl) (by rfl) (by intro W hW; (try dsimp only at hW); go_simp; exact (r07_of s _ SI.out).mono fun _ _ h => RetN.isN (Nat.zero_le _) h) ?_; intro n1 p1 l1 c1 _; refine F_put ?_
  repeat (first | refine F_s ?_ | refine F_r ?_)
  refine F_num { w with heap := #[] } (ofZ z) (by rfl) (by rfl) (by intro W hW; (try dsimp only at hW); go_simp; exact (r07_mul s y _ _ _ _ _ _ _ _ W hW.2 (HB.out.ext hW.1.1) SS.out SY.out z HZ.out SZ.out).mono fun _ _ h => RetN.isN (Nat.zero_le _) h) ?_; intro n2 p2 l2 c2 _; refine F_put ?_
  repeat (first | refine F_s ?_ | refine F_r ?_)
  (refine F_call (v := .int .i64 v) (by rfl) (by rfl) ?_ ?_; (· (intro W hW; (try dsimp only at hW); go_simp; refine (SG.out _ _ _ _ _ _ _ _ _ _ _ _ W (HA.out.ext hW.1.1.1) hW.2 (HC.out.ext hW.1.1.1)).mono ?_; rintro e w' ⟨rfl, hx⟩; exact ⟨_, rfl, rfl, hx⟩))); refine F_put ?_
  repeat (first | refine F_s ?_ | refine F_r ?_)
  rintro W ⟨⟨⟨hx, hz, hcc⟩, _⟩, _⟩
  clear hcc
  go_wp2
  go_ret
  exact ⟨ret_bool (by simp), hx⟩

set_option maxRecDepth 100000 in
set_option maxHeartbeats 1000000 in
theorem r07_line (k ax ay bx by' cx cy : Int) (b : Bool) (w : World) (h : (k == 1) = b) : Calls Tryz.prog 24 #[.agg #[.int .i64 k, .int .i64 ax, .int .i64 ay, .int .i64 bx, .int .i64 by', .int .i64 cx, .int .i64 cy]] w fun e w' => e = .returned (.bool b) ∧ Ext w w' := by
  go_enter Tryz.func24, Tryz.ntmps24
  go_wp2
  go_ret
  exact ⟨rfl, bxx⟩
set_option maxRecDepth 100000 in
set_option maxHeartbeats 1000000 in
theorem r07_on (k ax ay bx by' cx cy : Int) (px py z : Int) (w : World) (hz : onZ (Ed.mk k ax ay bx by' cx cy) px py = z) : Calls Tryz.prog 27 #[.agg #[.int .i64 k, .int .i64 ax, .int .i64 ay, .int .i64 bx, .int .i64 by', .int .i64 cx, .int .i64 cy], .agg #[.int .i64 px, .int .i64 py]] w fun e w' => e = .returned (.int .i64 z) ∧ Ext w w' := by
  have ON := fun w => r06_On k ax ay bx by' cx cy px py w
  unfold onZ at hz
  cases ho : onE (Ed.mk k ax ay bx by' cx cy) px py
  all_goals
    rw [ho] at ON hz
    have ON := Lib.hid ON
    simp at hz
    subst hz
    clear ho
    go_enter Tryz.func27, Tryz.ntmps27
    go_wp2_with fail
    refine (ON.out _).mono ?_
    rintro e w1 ⟨rfl, hx⟩
    have hx0 : Ext w w1 := Ext.step bxx hx
    clear hx
    go_wp2
    go_ret
    exact ⟨rfl, hx0⟩
end Go.Proofs.YtmmhiiiaccldmaaGreat

namespace Go.Proofs.YtmmhiiiaccldmaaGreat
open Go.RowKit
attribute [local go_sem] Gives givesU

theorem Co.di {x : Int} (h : Co x) : Di x := by unfold Co Di at *; omega
theorem side_any5 (px py qx qy rx ry : Int) (h1 : Co px) (h2 : Co py) (h3 : Co qx) (h4 : Co qy) (h5 : Co rx) (h6 : Co ry) (w : World) :
    Calls Tryz.prog 49 #[.agg #[.int .i64 px, .int .i64 py], .agg #[.int .i64 qx, .int .i64 qy], .agg #[.int .i64 rx, .int .i64 ry]] w fun e w' => e = .returned (.int .i64 (sideI (crI px py qx qy rx ry))) ∧ Ext w w' :=
  r05_Side px py qx qy rx ry w (h3.sub h1).i64 (h4.sub h2).i64 (h5.sub h1).i64 (h6.sub h2).i64 ((h3.sub h1).mul64 (h6.sub h2)) ((h4.sub h2).mul64 (h5.sub h1)) ((h3.sub h1).cross (h6.sub h2) (h4.sub h2) (h5.sub h1))
/-- How many points two lines, which may be points, have in common. -/
def linesE (e f : Ed) : Int := if e.pt then onZ f e.ax e.ay else if f.pt then onZ e f.ax f.ay else linesZ e.ax e.ay e.bx e.by' f.ax f.ay f.bx f.by'
theorem sq_nonneg (x : Int) : 0 ≤ x * x := by
  rcases Int.le_total 0 x with h | h
  · exact Int.mul_nonneg h h
  · rw [← Int.neg_mul_neg]; exact Int.mul_nonneg (by omega) (by omega)
theorem shift_lines {a b c d x y z : Int} (h1 : c - a = x) (h2 : d - a = y) (h3 : b - a = z) (h4 : 0 ≤ z) :
    max (min a b) (min c d) = a + max 0 (min x y) ∧ min (max a b) (max c d) = a + min z (max x y) := by omega
set_option maxRecDepth 100000 in
set_option maxHeartbeats 8000000 in
theorem r07_lines (px py qx qy ex ey rx ry sx sy fx fy : Int) (w : World) (he : (Ed.mk 1 px py qx qy ex ey).ok = true) (hf : (Ed.mk 1 rx ry sx sy fx fy).ok = true) (R : Int) (hR : linesE (Ed.mk 1 px py qx qy ex ey) (Ed.mk 1 rx ry sx sy fx fy) = R) :
    Calls Tryz.prog 25 #[.agg #[.int .i64 1, .int .i64 px, .int .i64 py, .int .i64 qx, .int .i64 qy, .int .i64 ex, .int .i64 ey], .agg #[.int .i64 1, .int .i64 rx, .int .i64 ry, .int .i64 sx, .int .i64 sy, .int .i64 fx, .int .i64 fy]] w fun e w' => e = .returned (.int .i64 R) ∧ Ext w w' := by
  obtain ⟨⟨h1, h2⟩, ⟨h3, h4⟩, _, _⟩ := ok_right he
  obtain ⟨⟨h5, h6⟩, ⟨h7, h8⟩, _, _⟩ := ok_right hf
  simp only at h1 h2 h3 h4 h5 h6 h7 h8
  have dx := h3.sub h1
  have dy := h4.sub h2
  have SD := Lib.hid (fun w => r05_Sub qx qy px py w dx.i64 dy.i64)
  have SE := Lib.hid (fun w => r05_Sub sx sy rx ry w (h7.sub h5).i64 (h8.sub h6).i64)
  have CR := fun w => r05_Cross (qx - px) (qy - py) (sx - rx) (sy - ry) w (dx.mul64 (h8.sub h6)) (dy.mul64 (h7.sub h5)) (dx.cross (h8.sub h6) dy (h7.sub h5))
  have S1 := side_any5 px py qx qy rx ry h1 h2 h3 h4 h5 h6
  have S2 := side_any5 px py qx qy sx sy h1 h2 h3 h4 h7 h8
  have S3 := side_any5 rx ry sx sy px py h5 h6 h7 h8 h1 h2
  have S4 := side_any5 rx ry sx sy qx qy h5 h6 h7 h8 h3 h4
  have D1 := fun w => r05_Dot px py (qx - px) (qy - py) w (h1.di.mul64 dx) (h2.di.mul64 dy) (h1.di.dot dx h2.di dy)
  have D2 := fun w => r05_Dot qx qy (qx - px) (qy - py) w (h3.di.mul64 dx) (h4.di.mul64 dy) (h3.di.dot dx h4.di dy)
  have D3 := fun w => r05_Dot rx ry (qx - px) (qy - py) w (h5.di.mul64 dx) (h6.di.mul64 dy) (h5.di.dot dx h6.di dy)
  have D4 := fun w => r05_Dot sx sy (qx - px) (qy - py) w (h7.di.mul64 dx) (h8.di.mul64 dy) (h7.di.dot dx h8.di dy)
  have O1 := Lib.hid (fun z hz w => r07_on 1 rx ry sx sy fx fy px py z w hz)
  have O2 := Lib.hid (fun z hz w => r07_on 1 px py qx qy ex ey rx ry z w hz)
  obtain ⟨RL, RES⟩ : ∃ R, Hid (linesZ px py qx qy rx ry sx sy = R) := ⟨_, rfl⟩
  have RES' := RES.out
  unfold linesZ at RES'
  have HR := hR
  unfold linesE at HR
  simp only at HR
  rw [RES.out] at HR
  have P1 : Hid (Ed.pt (Ed.mk 1 px py qx qy ex ey) = (px == qx && py == qy)) := Lib.hid rfl
  have P2 : Hid (Ed.pt (Ed.mk 1 rx ry sx sy fx fy) = (rx == sx && ry == sy)) := Lib.hid rfl
  rw [P1.out, P2.out] at HR
  obtain ⟨s1, B1⟩ : ∃ s, Hid (sideI (crI px py qx qy rx ry) = s) := ⟨_, rfl⟩
  obtain ⟨s2, B2⟩ : ∃ s, Hid (sideI (crI px py qx qy sx sy) = s) := ⟨_, rfl⟩
  obtain ⟨s3, B3⟩ : ∃ s, Hid (sideI (crI rx ry sx sy px py) = s) := ⟨_, rfl⟩
  obtain ⟨s4, B4⟩ : ∃ s, Hid (sideI (crI rx ry sx sy qx qy) = s) := ⟨_, rfl⟩
  have b1 := sideI_bd (crI px py qx qy rx ry)
  have b2 := sideI_bd (crI px py qx qy sx sy)
  have b3 := sideI_bd (crI rx ry sx sy px py)
  have b4 := sideI_bd (crI rx ry sx sy qx qy)
  rw [B1.out] at b1 S1
  rw [B2.out] at b2 S2
  rw [B3.out] at b3 S3
  rw [B4.out] at b4 S4
  obtain ⟨c, C⟩ : ∃ c, Hid ((qx - px) * (sy - ry) - (qy - py) * (sx - rx) = c) := ⟨_, rfl⟩
  obtain ⟨d1, E1⟩ : ∃ c, Hid ((rx - px) * (qx - px) + (ry - py) * (qy - py) = c) := ⟨_, rfl⟩
  obtain ⟨d2, E2⟩ : ∃ c, Hid ((sx - px) * (qx - px) + (sy - py) * (qy - py) = c) := ⟨_, rfl⟩
  obtain ⟨d3, E3⟩ : ∃ c, Hid ((qx - px) * (qx - px) + (qy - py) * (qy - py) = c) := ⟨_, rfl⟩
  obtain ⟨pA, A1⟩ : ∃ c, Hid (px * (qx - px) + py * (qy - py) = c) := ⟨_, rfl⟩
  obtain ⟨pB, A2⟩ : ∃ c, Hid (qx * (qx - px) + qy * (qy - py) = c) := ⟨_, rfl⟩
  obtain ⟨rA, A3⟩ : ∃ c, Hid (rx * (qx - px) + ry * (qy - py) = c) := ⟨_, rfl⟩
  obtain ⟨rB, A4⟩ : ∃ c, Hid (sx * (qx - px) + sy * (qy - py) = c) := ⟨_, rfl⟩
  have SH := Lib.hid (shift_lines (a := pA) (b := pB) (c := rA) (d := rB) (x := d1) (y := d2) (z := d3) (by rw [← A1.out, ← A3.out, ← E1.out]; grind) (by rw [← A1.out, ← A4.out, ← E2.out]; grind) (by rw [← A1.out, ← A2.out, ← E3.out]; grind) (by rw [← E3.out]; have := sq_nonneg (qx - px); have := sq_nonneg (qy - py); omega))
  have CP : Hid (¬ c = 0 → (px == qx && py == qy) = false ∧ (rx == sx && ry == sy) = false) := Lib.hid (by
    intro hc
    constructor
    · rw [Bool.eq_false_iff]
      intro h
      simp only [Bool.and_eq_true, beq_iff_eq] at h
      apply hc
      rw [← C.out, h.1, h.2, Int.sub_self, Int.sub_self]
      simp
    · rw [Bool.eq_false_iff]
      intro h
      simp only [Bool.and_eq_true, beq_iff_eq] at h
      apply hc
      rw [← C.out, h.1, h.2, Int.sub_self, Int.sub_self]
      simp)
  rw [C.out] at CR
  rw [A1.out] at D1
  rw [A2.out] at D2
  rw [A3.out] at D3
  rw [A4.out] at D4
  rw [B1.out, B2.out, B3.out, B4.out, C.out, E1.out, E2.out, E3.out] at RES'
  have m1 := unit_mul b1 b2
  have m2 := unit_mul b3 b4
  obtain ⟨u, U⟩ : ∃ u, Hid (s1 * s2 = u) := ⟨_, rfl⟩
  obtain ⟨v, V⟩ : ∃ u, Hid (s3 * s4 = u) := ⟨_, rfl⟩
  rw [U.out] at m1 RES'
  rw [V.out] at m2 RES'
  have hu : IntKind.i64.wrap (s1 * s2) = u := by rw [U.out]; exact wrap_in (by unfold I64; omega)
  have hv : IntKind.i64.wrap (s3 * s4) = v := by rw [V.out]; exact wrap_in (by unfold I64; omega)
  have CR := Lib.hid CR
  have S1 := Lib.hid S1
  have S2 := Lib.hid S2
  have S3 := Lib.hid S3
  have S4 := Lib.hid S4
  have D1 := Lib.hid D1
  have D2 := Lib.hid D2
  have D3 := Lib.hid D3
  have D4 := Lib.hid D4
  have RES' := Lib.hid RES'
  have HR := Lib.hid HR
  have hmax := @run_max2 Tryz.prog
  have hmin := @run_min2 Tryz.prog
  have heq1 : ∀ w : World, (binOp .eql 25 (.agg #[.int .i64 px, .int .i64 py]) (.agg #[.int .i64 qx, .int .i64 qy])).run Tryz.prog w = .ok (.bool (px == qx && py == qy)) w := fun w => eql_pt w _ _ _ _
  have heq2 : ∀ w : World, (binOp .eql 25 (.agg #[.int .i64 rx, .int .i64 ry]) (.agg #[.int .i64 sx, .int .i64 sy])).run Tryz.prog w = .ok (.bool (rx == sx && ry == sy)) w := fun w => eql_pt w _ _ _ _
  clear h1 h2 h3 h4 h5 h6 h7 h8 b1 b2 b3 b4 dx dy he hf hR m1 m2
  go_enter Tryz.func25, Tryz.ntmps25
  go_upto_region 1 with (fail)
  refine wp_KB (w.heap.size + 1 + 1) (fun W => Ext w W ∧ w.heap.size + 1 + 1 ≤ W.heap.size ∧ W.cell? ⟨w.heap.size, 0, none⟩ = some (.int .i64 1) ∧ W.cell? ⟨w.heap.size, 1, none⟩ = some (.int .i64 px) ∧ W.cell? ⟨w.heap.size, 2, none⟩ = some (.int .i64 py) ∧ W.cell? ⟨w.heap.size, 3, none⟩ = some (.int .i64 qx) ∧ W.cell? ⟨w.heap.size, 4, none⟩ = some (.int .i64 qy) ∧ W.cell? ⟨w.heap.size, 5, none⟩ = some (.int .i64 ex) ∧ W.cell? ⟨w.heap.size, 6, none⟩ = some (.int .i64 ey) ∧ W.cell? ⟨w.heap.size + 1, 0, none⟩ = some (.int .i64 1) ∧ W.cell? ⟨w.heap.size + 1, 1, none⟩ = some (.int .i64 rx) ∧ W.cell? ⟨w.heap.size + 1, 2, none⟩ = some (.int .i64 ry) ∧ W.cell? ⟨w.heap.size + 1, 3, none⟩ = some (.int .i64 sx) ∧ W.cell? ⟨w.heap.size + 1, 4, none⟩ = some (.int .i64 sy) ∧ W.cell? ⟨w.heap.size + 1, 5, none⟩ = some (.int .i64 fx) ∧ W.cell? ⟨w.heap.size + 1, 6, none⟩ = some (.int .i64 fy)) ?_
  intro hKeep
  repeat (first | refine F_s ?_ | refine F_r ?_)
  (refine F_call (v := .agg #[.int .i64 (qx-px), .int .i64 (qy-py)]) (by rfl) (by rfl) ?_ ?_; (· (intro W hW; (try dsimp only at hW); go_simp; refine (SD.out _).mono ?_; rintro e w' ⟨rfl, hx⟩; exact ⟨_, rfl, rfl, hx⟩))); refine F_put ?_
  repeat (first | refine F_s ?_ | refine F_r ?_)
  refine F_al ?_
  intro g hg
  simp only [List.mem_cons, List.mem_range, not_or, Nat.not_lt] at hg
  refine F_w (fun W => _) (fun W hW => hW) ?_
  repeat (first | refine F_s ?_ | refine F_r ?_)
  rintro V1 ⟨⟨⟨ex1, hz1, hc1⟩, bk1⟩, _⟩
  go_upto_region 2 with (fail)
  refine wp_KB (V1.heap.size) (fun W => Ext V1 W ∧ V1.heap.size ≤ W.heap.size ∧ W.cell? ⟨w.heap.size, 0, none⟩ = some (.int .i64 1) ∧ W.cell? ⟨w.heap.size, 1, none⟩ = some (.int .i64 px) ∧ W.cell? ⟨w.heap.size, 2, none⟩ = some (.int .i64 py) ∧ W.cell? ⟨w.heap.size, 3, none⟩ = some (.int .i64 qx) ∧ W.cell? ⟨w.heap.size, 4, none⟩ = some (.int .i64 qy) ∧ W.cell? ⟨w.heap.size, 5, none⟩ = some (.int .i64 ex) ∧ W.cell? ⟨w.heap.size, 6, none⟩ = some (.int .i64 ey) ∧ W.cell? ⟨w.heap.size + 1, 0, none⟩ = some (.int .i64 1) ∧ W.cell? ⟨w.heap.size + 1, 1, none⟩ = some (.int .i64 rx) ∧ W.cell? ⟨w.heap.size + 1, 2, none⟩ = some (.int .i64 ry) ∧ W.cell? ⟨w.heap.size + 1, 3, none⟩ = some (.int .i64 sx) ∧ W.cell? ⟨w.heap.size + 1, 4, none⟩ = some (.int .i64 sy) ∧ W.cell? ⟨w.heap.size + 1, 5, none⟩ = some (.int .i64 fx) ∧ W.cell? ⟨w.heap.size + 1, 6, none⟩ = some (.int .i64 fy)) ?_
  intro hKeep
  repeat (first | refine F_s ?_ | refine F_r ?_)
  (refine F_call (v := .agg #[.int .i64 (sx-rx), .int .i64 (sy-ry)]) (by rfl) (by rfl) ?_ ?_; (· (intro W hW; (try dsimp only at hW); go_simp; refine (SE.out _).mono ?_; rintro e w' ⟨rfl, hx⟩; exact ⟨_, rfl, rfl, hx⟩))); refine F_put ?_
  repeat (first | refine F_s ?_ | refine F_r ?_)
  refine F_al ?_
  intro g2 hg2
  simp only [List.mem_cons, List.mem_range, not_or, Nat.not_lt] at hg2
  refine F_w (fun W => _) (fun W hW => hW) ?_
  repeat (first | refine F_s ?_ | refine F_r ?_)
  rintro V2 ⟨⟨⟨ex2, hz2, hc2⟩, bk2⟩, _⟩
  replace bk1 := heap_ext bk1 ex2
  replace ex1 := Ext.step ex1 ex2
  obtain ⟨k0, k1, _, hl1⟩ := pt_block bk1
  obtain ⟨e0, e1, _, hl2⟩ := pt_block bk2
  have hl3 : w.heap.size + 1 < V2.heap.size := by omega
  have hl4 : w.heap.size < V2.heap.size := by omega
  clear bk1 bk2 ex2 hc1
  go_upto_region 3 with (fail)
  refine wp_FS (fun W => W.cell? ⟨w.heap.size, 0, none⟩ = some (.int .i64 1) ∧ W.cell? ⟨w.heap.size, 1, none⟩ = some (.int .i64 px) ∧ W.cell? ⟨w.heap.size, 2, none⟩ = some (.int .i64 py) ∧ W.cell? ⟨w.heap.size, 3, none⟩ = some (.int .i64 qx) ∧ W.cell? ⟨w.heap.size, 4, none⟩ = some (.int .i64 qy) ∧ W.cell? ⟨w.heap.size, 5, none⟩ = some (.int .i64 ex) ∧ W.cell? ⟨w.heap.size, 6, none⟩ = some (.int .i64 ey) ∧ W.cell? ⟨w.heap.size + 1, 0, none⟩ = some (.int .i64 1) ∧ W.cell? ⟨w.heap.size + 1, 1, none⟩ = some (.int .i64 rx) ∧ W.cell? ⟨w.heap.size + 1, 2, none⟩ = some (.int .i64 ry) ∧ W.cell? ⟨w.heap.size + 1, 3, none⟩ = some (.int .i64 sx) ∧ W.cell? ⟨w.heap.size + 1, 4, none⟩ = some (.int .i64 sy) ∧ W.cell? ⟨w.heap.size + 1, 5, none⟩ = some (.int .i64 fx) ∧ W.cell? ⟨w.heap.size + 1, 6, none⟩ = some (.int .i64 fy) ∧ W.cell? ⟨g, 0, none⟩ = some (.int .i64 (qx-px)) ∧ W.cell? ⟨g, 1, none⟩ = some (.int .i64 (qy-py)) ∧ W.cell? ⟨g2, 0, none⟩ = some (.int .i64 (sx-rx)) ∧ W.cell? ⟨g2, 1, none⟩ = some (.int .i64 (sy-ry))) ?_
  repeat (first | refine F_s ?_ | refine F_r ?_)
  (refine F_call (v := .int .i64 c) (by rfl) (by rfl) ?_ ?_; (· (intro W hW; (try dsimp only at hW); go_simp; refine (CR.out _).mono ?_; rintro e w' ⟨rfl, hx⟩; exact ⟨_, rfl, rfl, hx⟩))); refine F_put ?_
  repeat (first | refine F_s ?_ | refine F_r ?_)
  rintro W ⟨hx, hc⟩
  have hsz := hx.size
  replace ex1 := Ext.step ex1 hx
  clear hx hc2 k0 k1 e0 e1
  by_cases hc0 : c = 0
  · have cb : (c == 0) = true := by simp [hc0]
    have C0 := Lib.hid hc0
    clear hc0 CP
    cases hp1 : (px == qx && py == qy)
    · rw [hp1] at heq1
      cases hp2 : (rx == sx && ry == sy)
      · rw [hp2] at heq2
        have HRL : Hid (R = RL) := by
          show R = RL
          rw [← HR.out, hp1, hp2]
          rfl
        clear hp1 hp2
        go_upto_region 13 with (fail)
        refine wp_FS (fun W => W.cell? ⟨w.heap.size, 0, none⟩ = some (.int .i64 1) ∧ W.cell? ⟨w.heap.size, 1, none⟩ = some (.int .i64 px) ∧ W.cell? ⟨w.heap.size, 2, none⟩ = some (.int .i64 py) ∧ W.cell? ⟨w.heap.size, 3, none⟩ = some (.int .i64 qx) ∧ W.cell? ⟨w.heap.size, 4, none⟩ = some (.int .i64 qy) ∧ W.cell? ⟨w.heap.size, 5, none⟩ = some (.int .i64 ex) ∧ W.cell? ⟨w.heap.size, 6, none⟩ = some (.int .i64 ey) ∧ W.cell? ⟨w.heap.size + 1, 0, none⟩ = some (.int .i64 1) ∧ W.cell? ⟨w.heap.size + 1, 1, none⟩ = some (.int .i64 rx) ∧ W.cell? ⟨w.heap.size + 1, 2, none⟩ = some (.int .i64 ry) ∧ W.cell? ⟨w.heap.size + 1, 3, none⟩ = some (.int .i64 sx) ∧ W.cell? ⟨w.heap.size + 1, 4, none⟩ = some (.int .i64 sy) ∧ W.cell? ⟨w.heap.size + 1, 5, none⟩ = some (.int .i64 fx) ∧ W.cell? ⟨w.heap.size + 1, 6, none⟩ = some (.int .i64 fy) ∧ W.cell? ⟨g, 0, none⟩ = some (.int .i64 (qx-px)) ∧ W.cell? ⟨g, 1, none⟩ = some (.int .i64 (qy-py))) ?_
        repeat (first | refine F_s ?_ | refine F_r ?_)
        (refine F_call (v := .int .i64 s1) (by rfl) (by rfl) ?_ ?_; (· (intro W hW; (try dsimp only at hW); go_simp; refine (S1.out _).mono ?_; rintro e w' ⟨rfl, hx⟩; exact ⟨_, rfl, rfl, hx⟩))); refine F_put ?_
        repeat (first | refine F_s ?_ | refine F_r ?_)
        rintro W2 ⟨hx, hc'⟩
        replace ex1 := Ext.step ex1 hx
        have hsz2 := hx.size
        clear hx hc
        by_cases hs1 : s1 = 0
        · have sb : (s1 == 0) = true := by simp [hs1]
          have RR := RES'.out
          rw [if_neg (fun h => h C0.out), if_neg (fun h => h hs1)] at RR
          clear hs1
          go_upto_region 15 with (fail)
          refine wp_FS (fun W => W.cell? ⟨w.heap.size, 0, none⟩ = some (.int .i64 1) ∧ W.cell? ⟨w.heap.size, 1, none⟩ = some (.int .i64 px) ∧ W.cell? ⟨w.heap.size, 2, none⟩ = some (.int .i64 py) ∧ W.cell? ⟨w.heap.size, 3, none⟩ = some (.int .i64 qx) ∧ W.cell? ⟨w.heap.size, 4, none⟩ = some (.int .i64 qy) ∧ W.cell? ⟨w.heap.size, 5, none⟩ = some (.int .i64 ex) ∧ W.cell? ⟨w.heap.size, 6, none⟩ = some (.int .i64 ey) ∧ W.cell? ⟨w.heap.size + 1, 0, none⟩ = some (.int .i64 1) ∧ W.cell? ⟨w.heap.size + 1, 1, none⟩ = some (.int .i64 rx) ∧ W.cell? ⟨w.heap.size + 1, 2, none⟩ = some (.int .i64 ry) ∧ W.cell? ⟨w.heap.size + 1, 3, none⟩ = some (.int .i64 sx) ∧ W.cell? ⟨w.heap.size + 1, 4, none⟩ = some (.int .i64 sy) ∧ W.cell? ⟨w.heap.size + 1, 5, none⟩ = some (.int .i64 fx) ∧ W.cell? ⟨w.heap.size + 1, 6, none⟩ = some (.int .i64 fy) ∧ W.cell? ⟨g, 0, none⟩ = some (.int .i64 (qx-px)) ∧ W.cell? ⟨g, 1, none⟩ = some (.int .i64 (qy-py))) ?_
          repeat (first | refine F_s ?_ | refine F_r ?_)
          (refine F_call (v := .int .i64 pA) (by rfl) (by rfl) ?_ ?_; (· (intro W hW; (try dsimp only at hW); go_simp; refine (D1.out _).mono ?_; rintro e w' ⟨rfl, hx⟩; exact ⟨_, rfl, rfl, hx⟩))); refine F_put ?_
          repeat (first | refine F_s ?_ | refine F_r ?_)
          (refine F_call (v := .int .i64 pB) (by rfl) (by rfl) ?_ ?_; (· (intro W hW; (try dsimp only at hW); go_simp; refine (D2.out _).mono ?_; rintro e w' ⟨rfl, hx⟩; exact ⟨_, rfl, rfl, hx⟩))); refine F_put ?_
          repeat (first | refine F_s ?_ | refine F_r ?_)
          (refine F_call (v := .int .i64 rA) (by rfl) (by rfl) ?_ ?_; (· (intro W hW; (try dsimp only at hW); go_simp; refine (D3.out _).mono ?_; rintro e w' ⟨rfl, hx⟩; exact ⟨_, rfl, rfl, hx⟩))); refine F_put ?_
          repeat (first | refine F_s ?_ | refine F_r ?_)
          (refine F_call (v := .int .i64 rB) (by rfl) (by rfl) ?_ ?_; (· (intro W hW; (try dsimp only at hW); go_simp; refine (D4.out _).mono ?_; rintro e w' ⟨rfl, hx⟩; exact ⟨_, rfl, rfl, hx⟩))); refine F_put ?_
          repeat (first | refine F_s ?_ | refine F_r ?_)
          rintro W3 ⟨hx, hc⟩
          replace ex1 := Ext.step ex1 hx
          have hsz3 := hx.size
          clear hx hc'
          go_upto_region 16 with (fail)
          refine wp_FS (fun W => W.cell? ⟨w.heap.size, 0, none⟩ = some (.int .i64 1) ∧ W.cell? ⟨w.heap.size, 1, none⟩ = some (.int .i64 px) ∧ W.cell? ⟨w.heap.size, 2, none⟩ = some (.int .i64 py) ∧ W.cell? ⟨w.heap.size, 3, none⟩ = some (.int .i64 qx) ∧ W.cell? ⟨w.heap.size, 4, none⟩ = some (.int .i64 qy) ∧ W.cell? ⟨w.heap.size, 5, none⟩ = some (.int .i64 ex) ∧ W.cell? ⟨w.heap.size, 6, none⟩ = some (.int .i64 ey) ∧ W.cell? ⟨w.heap.size + 1, 0, none⟩ = some (.int .i64 1) ∧ W.cell? ⟨w.heap.size + 1, 1, none⟩ = some (.int .i64 rx) ∧ W.cell? ⟨w.heap.size + 1, 2, none⟩ = some (.int .i64 ry) ∧ W.cell? ⟨w.heap.size + 1, 3, none⟩ = some (.int .i64 sx) ∧ W.cell? ⟨w.heap.size + 1, 4, none⟩ = some (.int .i64 sy) ∧ W.cell? ⟨w.heap.size + 1, 5, none⟩ = some (.int .i64 fx) ∧ W.cell? ⟨w.heap.size + 1, 6, none⟩ = some (.int .i64 fy) ∧ W.cell? ⟨g, 0, none⟩ = some (.int .i64 (qx-px)) ∧ W.cell? ⟨g, 1, none⟩ = some (.int .i64 (qy-py))) ?_
          repeat (first | refine F_s ?_ | refine F_r ?_)
          (refine F_call (v := .int .i64 pA) (by rfl) (by rfl) ?_ ?_; (· (intro W hW; (try dsimp only at hW); go_simp; refine (D1.out _).mono ?_; rintro e w' ⟨rfl, hx⟩; exact ⟨_, rfl, rfl, hx⟩))); refine F_put ?_
          repeat (first | refine F_s ?_ | refine F_r ?_)
          (refine F_call (v := .int .i64 pB) (by rfl) (by rfl) ?_ ?_; (· (intro W hW; (try dsimp only at hW); go_simp; refine (D2.out _).mono ?_; rintro e w' ⟨rfl, hx⟩; exact ⟨_, rfl, rfl, hx⟩))); refine F_put ?_
          repeat (first | refine F_s ?_ | refine F_r ?_)
          (refine F_call (v := .int .i64 rA) (by rfl) (by rfl) ?_ ?_; (· (intro W hW; (try dsimp only at hW); go_simp; refine (D3.out _).mono ?_; rintro e w' ⟨rfl, hx⟩; exact ⟨_, rfl, rfl, hx⟩))); refine F_put ?_
          repeat (first | refine F_s ?_ | refine F_r ?_)
          (refine F_call (v := .int .i64 rB) (by rfl) (by rfl) ?_ ?_; (· (intro W hW; (try dsimp only at hW); go_simp; refine (D4.out _).mono ?_; rintro e w' ⟨rfl, hx⟩; exact ⟨_, rfl, rfl, hx⟩))); refine F_put ?_
          repeat (first | refine F_s ?_ | refine F_r ?_)
          rintro W4 ⟨hx, hc'⟩
          replace ex1 := Ext.step ex1 hx
          clear hx hc hc'
          obtain ⟨sh1, sh2⟩ := SH.out
          obtain ⟨f, FF⟩ : ∃ f, Hid (max (min pA pB) (min rA rB) = f) := ⟨_, rfl⟩
          obtain ⟨g', GG⟩ : ∃ f, Hid (min (max pA pB) (max rA rB) = f) := ⟨_, rfl⟩
          rw [FF.out] at sh1
          rw [GG.out] at sh2
          have hff := FF.out
          have hgg := GG.out
          have fin : RL = if f < g' then -1 else if f = g' then 1 else 0 := by
            rw [← RR, sh1, sh2]
            obtain ⟨a, ha⟩ : ∃ a, max 0 (min d1 d2) = a := ⟨_, rfl⟩
            obtain ⟨b, hb⟩ : ∃ a, min d3 (max d1 d2) = a := ⟨_, rfl⟩
            rw [ha, hb]
            (repeat' split) <;> omega
          rw [fin] at HRL
          clear sh1 sh2 RR fin
          by_cases q1 : f < g'
          · have Q1 : R = -1 := by rw [HRL.out, if_pos q1]
            subst Q1
            clear HRL
            go_wp2
            go_ret
            exact ⟨ret_int rfl, ex1⟩
          · have q1b : decide (f < g') = false := by simp; omega
            by_cases q2 : f = g'
            · have Q1 : R = 1 := by rw [HRL.out, if_neg q1, if_pos q2]
              have q2b : (f == g') = true := by simp [q2]
              subst Q1
              clear HRL q2 q1
              go_wp2
              go_ret
              exact ⟨ret_int rfl, ex1⟩
            · have Q1 : R = 0 := by rw [HRL.out, if_neg q1, if_neg q2]
              have q2b : (f == g') = false := by simp [q2]
              subst Q1
              clear HRL q2 q1
              go_wp2
              go_ret
              exact ⟨ret_int rfl, ex1⟩
        · have sb : (s1 == 0) = false := by simp [hs1]
          have Q : R = 0 := by rw [HRL.out, ← RES'.out, if_neg (fun h => h C0.out), if_pos hs1]
          subst Q
          clear HRL hs1 hc'
          go_wp2
          go_ret
          exact ⟨rfl, ex1⟩
      · rw [hp2] at heq2
        have Q := HR.out
        rw [hp1, hp2] at Q
        simp at Q
        clear hp1 hp2
        go_wp2_with fail
        refine (O2.out R Q _).mono ?_
        rintro e w3 ⟨rfl, hx⟩
        replace ex1 := Ext.step ex1 hx
        clear hx hc
        go_wp2
        go_ret
        exact ⟨rfl, ex1⟩
    · rw [hp1] at heq1
      have Q := HR.out
      rw [hp1] at Q
      simp at Q
      clear hp1
      go_wp2_with fail
      refine (O1.out R Q _).mono ?_
      rintro e w3 ⟨rfl, hx⟩
      replace ex1 := Ext.step ex1 hx
      clear hx hc
      go_wp2
      go_ret
      exact ⟨rfl, ex1⟩
  · have cb : (c == 0) = false := by simp [hc0]
    have HRL : R = RL := by
      rw [← HR.out, (CP.out hc0).1, (CP.out hc0).2]
      rfl
    have RR := RES'.out
    rw [if_pos hc0] at RR
    subst HRL
    clear hc0
    go_upto_region 4 with (fail)
    refine wp_FS (fun W => W.cell? ⟨w.heap.size, 0, none⟩ = some (.int .i64 1) ∧ W.cell? ⟨w.heap.size, 1, none⟩ = some (.int .i64 px) ∧ W.cell? ⟨w.heap.size, 2, none⟩ = some (.int .i64 py) ∧ W.cell? ⟨w.heap.size, 3, none⟩ = some (.int .i64 qx) ∧ W.cell? ⟨w.heap.size, 4, none⟩ = some (.int .i64 qy) ∧ W.cell? ⟨w.heap.size, 5, none⟩ = some (.int .i64 ex) ∧ W.cell? ⟨w.heap.size, 6, none⟩ = some (.int .i64 ey) ∧ W.cell? ⟨w.heap.size + 1, 0, none⟩ = some (.int .i64 1) ∧ W.cell? ⟨w.heap.size + 1, 1, none⟩ = some (.int .i64 rx) ∧ W.cell? ⟨w.heap.size + 1, 2, none⟩ = some (.int .i64 ry) ∧ W.cell? ⟨w.heap.size + 1, 3, none⟩ = some (.int .i64 sx) ∧ W.cell? ⟨w.heap.size + 1, 4, none⟩ = some (.int .i64 sy) ∧ W.cell? ⟨w.heap.size + 1, 5, none⟩ = some (.int .i64 fx) ∧ W.cell? ⟨w.heap.size + 1, 6, none⟩ = some (.int .i64 fy)) ?_
    repeat (first | refine F_s ?_ | refine F_r ?_)
    (refine F_call (v := .int .i64 s1) (by rfl) (by rfl) ?_ ?_; (· (intro W hW; (try dsimp only at hW); go_simp; refine (S1.out _).mono ?_; rintro e w' ⟨rfl, hx⟩; exact ⟨_, rfl, rfl, hx⟩))); refine F_put ?_
    repeat (first | refine F_s ?_ | refine F_r ?_)
    (refine F_call (v := .int .i64 s2) (by rfl) (by rfl) ?_ ?_; (· (intro W hW; (try dsimp only at hW); go_simp; refine (S2.out _).mono ?_; rintro e w' ⟨rfl, hx⟩; exact ⟨_, rfl, rfl, hx⟩))); refine F_put ?_
    repeat (first | refine F_s ?_ | refine F_r ?_)
    rintro W2 ⟨hx, hc'⟩
    replace ex1 := Ext.step ex1 hx
    have hsz2 := hx.size
    clear hx hc
    go_upto_region 5 with (fail)
    refine wp_FS (fun W => W.cell? ⟨w.heap.size, 0, none⟩ = some (.int .i64 1) ∧ W.cell? ⟨w.heap.size, 1, none⟩ = some (.int .i64 px) ∧ W.cell? ⟨w.heap.size, 2, none⟩ = some (.int .i64 py) ∧ W.cell? ⟨w.heap.size, 3, none⟩ = some (.int .i64 qx) ∧ W.cell? ⟨w.heap.size, 4, none⟩ = some (.int .i64 qy) ∧ W.cell? ⟨w.heap.size, 5, none⟩ = some (.int .i64 ex) ∧ W.cell? ⟨w.heap.size, 6, none⟩ = some (.int .i64 ey) ∧ W.cell? ⟨w.heap.size + 1, 0, none⟩ = some (.int .i64 1) ∧ W.cell? ⟨w.heap.size + 1, 1, none⟩ = some (.int .i64 rx) ∧ W.cell? ⟨w.heap.size + 1, 2, none⟩ = some (.int .i64 ry) ∧ W.cell? ⟨w.heap.size + 1, 3, none⟩ = some (.int .i64 sx) ∧ W.cell? ⟨w.heap.size + 1, 4, none⟩ = some (.int .i64 sy) ∧ W.cell? ⟨w.heap.size + 1, 5, none⟩ = some (.int .i64 fx) ∧ W.cell? ⟨w.heap.size + 1, 6, none⟩ = some (.int .i64 fy)) ?_
    repeat (first | refine F_s ?_ | refine F_r ?_)
    (refine F_call (v := .int .i64 s3) (by rfl) (by rfl) ?_ ?_; (· (intro W hW; (try dsimp only at hW); go_simp; refine (S3.out _).mono ?_; rintro e w' ⟨rfl, hx⟩; exact ⟨_, rfl, rfl, hx⟩))); refine F_put ?_
    repeat (first | refine F_s ?_ | refine F_r ?_)
    (refine F_call (v := .int .i64 s4) (by rfl) (by rfl) ?_ ?_; (· (intro W hW; (try dsimp only at hW); go_simp; refine (S4.out _).mono ?_; rintro e w' ⟨rfl, hx⟩; exact ⟨_, rfl, rfl, hx⟩))); refine F_put ?_
    repeat (first | refine F_s ?_ | refine F_r ?_)
    rintro W3 ⟨hx, hc⟩
    replace ex1 := Ext.step ex1 hx
    clear hx hc hc'
    by_cases u0 : 0 < u
    · have ub : decide (u ≤ 0) = false := by rw [decide_eq_false_iff_not]; omega
      rw [if_pos u0] at RR
      subst RR
      clear u0
      go_wp2
      go_ret
      exact ⟨rfl, ex1⟩
    · have ub : decide (u ≤ 0) = true := by rw [decide_eq_true_eq]; omega
      rw [if_neg u0] at RR
      clear u0
      by_cases v0 : 0 < v
      · have vb : decide (v ≤ 0) = false := by rw [decide_eq_false_iff_not]; omega
        rw [if_pos v0] at RR
        subst RR
        clear v0
        go_wp2
        go_ret
        exact ⟨rfl, ex1⟩
      · have vb : decide (v ≤ 0) = true := by rw [decide_eq_true_eq]; omega
        rw [if_neg v0] at RR
        subst RR
        clear v0
        go_wp2
        go_ret
        exact ⟨rfl, ex1⟩
end Go.Proofs.YtmmhiiiaccldmaaGreat

namespace Go.Proofs.YtmmhiiiaccldmaaGreat
open Go.RowKit

def b01 (b : Bool) : Int := if b then 1 else 0
theorem sideZ_zero (x y z : Int) : sideZ x y 0 = sideZ x z 0 := by
  have e (b : Int) : sgn b * sgn (0 : Int) = 0 := by rw [show sgn (0 : Int) = 0 by decide, Int.mul_zero]
  unfold sideZ
  rw [e, e, Int.mul_zero, if_pos (Int.le_refl 0), if_pos (Int.le_refl 0)]
theorem goodS_zero (s t : Int) (l : List (Int × Int)) : goodS 0 s l = goodS 0 t l := by
  unfold goodS
  congr 1
  funext p
  rw [sideZ_zero p.1 (s * p.2) (t * p.2)]
theorem b01_bd (b : Bool) : 0 ≤ b01 b ∧ b01 b ≤ 1 := by cases b <;> decide
theorem digs_len (d : Int) : (digs d.natAbs).length = 0 ↔ d = 0 := by
  constructor
  · intro h
    have h2 := val_digs d.natAbs
    rw [List.eq_nil_of_length_eq_zero h] at h2
    have h3 : d.natAbs = 0 := h2.symm
    omega
  · rintro rfl
    show (digs 0).length = 0
    rw [digs_zero]
    rfl
/-- The count, in the order of the reference. -/
theorem countZ_ref {d : Int} {l : List (Int × Int)} {a b : Bool} (ha : goodS d (-1) l = a) (hb : goodS d 1 l = b) :
    countZ d l = if d < 0 then 0 else if d = 0 then b01 a else b01 a + b01 b := by
  have fl : ∀ (s : Sgn) (c : Bool), goodS d s.1 l = c → countL d l [s] = b01 c := by
    intro s c h
    unfold countL b01
    cases c <;> simp [h]
  have fm := fl sM a ha
  have fp := fl sP b hb
  unfold countZ signL
  by_cases h : d < 0
  · rw [if_pos h, if_pos (decide_eq_true h)]
    rfl
  · rw [if_neg h, if_neg (by simp; omega)]
    by_cases h0 : d = 0
    · subst h0
      rw [if_pos rfl, if_pos ((digs_len 0).2 rfl)]
      rw [fp, ← hb, goodS_zero 1 (-1), ha]
    · rw [if_neg h0, if_neg (fun h1 => h0 ((digs_len d).1 h1))]
      have : countL d l [sP, sM] = countL d l ([sP] ++ [sM]) := rfl
      rw [this, countL_snoc, fp]
      show b01 b + (if goodS d (-1) l then 1 else 0) = _
      rw [ha]
      unfold b01
      omega
end Go.Proofs.YtmmhiiiaccldmaaGreat
