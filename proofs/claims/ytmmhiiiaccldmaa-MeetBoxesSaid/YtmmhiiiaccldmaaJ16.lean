/- Contract: meet.figured. -/
import Derived.Test.YtmmhiiiaccldmaaJ15
import Derived.Test.YtmmhiiiaccldmaaJ09
set_option linter.unusedVariables false
set_option linter.unusedSimpArgs false

namespace Go.Proofs.Ytmmhiiiaccldmaa
open Go.RowKit
attribute [local go_sem] Gives givesU

theorem rad_pos {e : Ed} (h : e.ok = true) (hk : ¬ e.k = 1) : 0 < radZ e := by
  have hq : ((e.ax - e.cx == 0) != (e.ay - e.cy == 0)) = true := by
    simp only [Ed.ok, Bool.and_eq_true, if_neg hk] at h
    have h2 := h.2
    split at h2
    · simp only [Ed.quarter, quarterB, Bool.and_eq_true] at h2; exact h2.1
    · split at h2
      · simp only [Ed.quarter, quarterB, Bool.and_eq_true] at h2; exact h2.1
      · cases h2
  have hkb : (e.k == 1) = false := by simpa using hk
  unfold radZ
  rw [h, hkb]
  simp only [Bool.not_false, Bool.and_true, if_true]
  by_cases h1 : e.ax - e.cx = 0
  · by_cases h2 : e.ay - e.cy = 0
    · simp [h1, h2] at hq
    · omega
  · omega
theorem rad_le {e : Ed} (h : e.ok = true) : radZ e ≤ 134217728 := by
  obtain ⟨⟨h1, h2⟩, _, h5, h6⟩ := ok_right h
  unfold radZ
  unfold Co at *
  split <;> omega
theorem tdiv_bd {x r m : Int} (h : -m ≤ x ∧ x ≤ m) : -m ≤ x.tdiv r ∧ x.tdiv r ≤ m := by
  have h3 : (x.tdiv r).natAbs ≤ x.natAbs := by rw [Int.natAbs_tdiv]; exact Nat.div_le_self _ _
  omega

set_option maxRecDepth 100000 in
set_option maxHeartbeats 4000000 in
theorem figured_arc (k ax ay bx by' cx cy : Int) (w : World) (hok : (Ed.mk k ax ay bx by' cx cy).ok = true) (hk : ¬ k = 1) :
    Calls Try.prog 27 #[.agg #[.int .i64 k, .int .i64 ax, .int .i64 ay, .int .i64 bx, .int .i64 by', .int .i64 cx, .int .i64 cy]] w fun e w' => e = .returned (.iface 69 (.agg #[.int .i64 cx, .int .i64 cy, .int .i64 (radZ (Ed.mk k ax ay bx by' cx cy)), .int .i64 ((ax - cx).tdiv (radZ (Ed.mk k ax ay bx by' cx cy))), .int .i64 ((ay - cy).tdiv (radZ (Ed.mk k ax ay bx by' cx cy))), .int .i64 ((bx - cx).tdiv (radZ (Ed.mk k ax ay bx by' cx cy))), .int .i64 ((by' - cy).tdiv (radZ (Ed.mk k ax ay bx by' cx cy)))])) ∧ Ext w w' := by
  obtain ⟨⟨h1, h2⟩, ⟨h3, h4⟩, h5, h6⟩ := ok_right hok
  simp only at h1 h2 h3 h4 h5 h6
  have hr0 := rad_pos hok hk
  have hr1 := rad_le hok
  have RC := fun w => edge_Radius k ax ay bx by' cx cy w
  obtain ⟨r, R⟩ : ∃ r, Hid (radZ (Ed.mk k ax ay bx by' cx cy) = r) := ⟨_, rfl⟩
  rw [R.out] at hr0 hr1 RC ⊢
  have RC := Lib.hid RC
  have SA := Lib.hid (fun w => vec_Sub ax ay cx cy w (h1.sub h5).i64 (h2.sub h6).i64)
  have SB := Lib.hid (fun w => vec_Sub bx by' cx cy w (h3.sub h5).i64 (h4.sub h6).i64)
  have t1 := tdiv_bd (r := r) (show -134217728 ≤ ax - cx ∧ ax - cx ≤ 134217728 from h1.sub h5)
  have t2 := tdiv_bd (r := r) (show -134217728 ≤ ay - cy ∧ ay - cy ≤ 134217728 from h2.sub h6)
  have t3 := tdiv_bd (r := r) (show -134217728 ≤ bx - cx ∧ bx - cx ≤ 134217728 from h3.sub h5)
  have t4 := tdiv_bd (r := r) (show -134217728 ≤ by' - cy ∧ by' - cy ≤ 134217728 from h4.sub h6)
  have q1 : IntKind.i64.wrap ((ax - cx).tdiv r) = (ax - cx).tdiv r := wrap_in (by unfold I64; omega)
  have q2 : IntKind.i64.wrap ((ay - cy).tdiv r) = (ay - cy).tdiv r := wrap_in (by unfold I64; omega)
  have q3 : IntKind.i64.wrap ((bx - cx).tdiv r) = (bx - cx).tdiv r := wrap_in (by unfold I64; omega)
  have q4 : IntKind.i64.wrap ((by' - cy).tdiv r) = (by' - cy).tdiv r := wrap_in (by unfold I64; omega)
  have kb : (k == 1) = false := by simpa using hk
  have rb : (r == 0) = false := by rw [beq_eq_false_iff_ne]; omega
  have rne : r ≠ 0 := by omega
  clear hok hk h1 h2 h3 h4 h5 h6 t1 t2 t3 t4
  go_enter Try.func27, Try.ntmps27
  go_wp2_with fail
  refine (RC.out _).mono ?_
  rintro e w1 ⟨rfl, hx⟩
  have hx0 : Ext w w1 := Ext.step (by (repeat (first | exact Below.refl _ _ | assumption | refine Below.drewN ?_ _ | refine Below.drew ?_ | refine Below.setCell ?_ (by first | exact Nat.le_refl _ | (simp; done) | (simp; omega) | omega) _ | refine Below.alloc ?_ (by first | exact Nat.le_refl _ | (simp; done) | (simp; omega) | omega) _))) hx
  have hs0 := hx0.size
  have hz_w1 : w.heap.size + 1 ≤ w1.heap.size := Nat.le_trans (by first | omega | (simp; done) | (simp; omega)) hx.size
  have hl_w1_0 : w.heap.size < w1.heap.size := Nat.lt_of_lt_of_le (by omega) hz_w1
  have hk_w1_0 : ∀ o, w1.cell? ⟨w.heap.size, o, none⟩ = _ := fun o => hx.cell (p := ⟨w.heap.size, o, none⟩) (show w.heap.size < _ from (by first | omega | (simp; done) | (simp; omega)))
  have hf_w1_0 : ∀ o, w1.frozen? ⟨w.heap.size, o, none⟩ = _ := fun o => hx.frozen (p := ⟨w.heap.size, o, none⟩) (show w.heap.size < _ from (by first | omega | (simp; done) | (simp; omega)))
  clear hx
  go_wp2_with fail
  have hKeep : FKeep (w1.heap.size) (fun W => Ext w W ∧ w1.heap.size ≤ W.heap.size ∧ W.cell? ⟨w.heap.size, 0, none⟩ = some (.int .i64 k) ∧ W.cell? ⟨w.heap.size, 1, none⟩ = some (.int .i64 ax) ∧ W.cell? ⟨w.heap.size, 2, none⟩ = some (.int .i64 ay) ∧ W.cell? ⟨w.heap.size, 3, none⟩ = some (.int .i64 bx) ∧ W.cell? ⟨w.heap.size, 4, none⟩ = some (.int .i64 by') ∧ W.cell? ⟨w.heap.size, 5, none⟩ = some (.int .i64 cx) ∧ W.cell? ⟨w.heap.size, 6, none⟩ = some (.int .i64 cy)) := (by intro W W' h hb; obtain ⟨hx, hz, hc⟩ := h; have hbc : ∀ b o, b < _ → W'.cell? ⟨b, o, none⟩ = W.cell? ⟨b, o, none⟩ := fun b o h => hb.cell (p := ⟨b, o, none⟩) h; refine ⟨hx.trans (hb.mono (by omega)), Nat.le_trans hz hb.size, ?_⟩; (try dsimp only at hc ⊢); simp (disch := omega) only [hbc]; exact hc)
  first | refine wp_region_K (w1.heap.size) (fun W => Ext w W ∧ w1.heap.size ≤ W.heap.size ∧ W.cell? ⟨w.heap.size, 0, none⟩ = some (.int .i64 k) ∧ W.cell? ⟨w.heap.size, 1, none⟩ = some (.int .i64 ax) ∧ W.cell? ⟨w.heap.size, 2, none⟩ = some (.int .i64 ay) ∧ W.cell? ⟨w.heap.size, 3, none⟩ = some (.int .i64 bx) ∧ W.cell? ⟨w.heap.size, 4, none⟩ = some (.int .i64 by') ∧ W.cell? ⟨w.heap.size, 5, none⟩ = some (.int .i64 cx) ∧ W.cell? ⟨w.heap.size, 6, none⟩ = some (.int .i64 cy)) (by kernel_rfl) (by kernel_rfl) ?_ hKeep (fun _ h => h.2.1) ?_ | refine wp_region_Ks (w1.heap.size) (fun W => Ext w W ∧ w1.heap.size ≤ W.heap.size ∧ W.cell? ⟨w.heap.size, 0, none⟩ = some (.int .i64 k) ∧ W.cell? ⟨w.heap.size, 1, none⟩ = some (.int .i64 ax) ∧ W.cell? ⟨w.heap.size, 2, none⟩ = some (.int .i64 ay) ∧ W.cell? ⟨w.heap.size, 3, none⟩ = some (.int .i64 bx) ∧ W.cell? ⟨w.heap.size, 4, none⟩ = some (.int .i64 by') ∧ W.cell? ⟨w.heap.size, 5, none⟩ = some (.int .i64 cx) ∧ W.cell? ⟨w.heap.size, 6, none⟩ = some (.int .i64 cy)) ?_ hKeep (fun _ h => h.2.1) ?_
  · refine ⟨by (repeat (first | exact Below.refl _ _ | assumption | refine Below.drewN ?_ _ | refine Below.drew ?_ | refine Below.setCell ?_ (by first | exact Nat.le_refl _ | (simp; done) | (simp; omega) | omega) _ | refine Below.alloc ?_ (by first | exact Nat.le_refl _ | (simp; done) | (simp; omega) | omega) _)), by first | omega | (simp; done) | (simp; omega), ?_⟩
    go_simp
  repeat (first | (refine F_skip (by rfl) ?_; simp only [Act.put, List.setIfInBounds_toArray, List.set_cons_zero, List.set_cons_succ]) | (refine F_run (v := ?_) (by rfl) ?_ ?_; rotate_left; (· (intro W hW; (try dsimp only at hW); go_simp; try with_reducible rfl)); simp only [Act.put, List.setIfInBounds_toArray, List.set_cons_zero, List.set_cons_succ]))
  (refine F_call (v := .agg #[.int .i64 (ax-cx), .int .i64 (ay-cy)]) (by rfl) (by rfl) ?_ ?_; (· (intro W hW; (try dsimp only at hW); go_simp; refine (SA.out _).mono ?_; rintro e w' ⟨rfl, hx⟩; exact ⟨_, rfl, rfl, hx⟩))); simp only [Act.put, List.setIfInBounds_toArray, List.set_cons_zero, List.set_cons_succ]
  repeat (first | (refine F_skip (by rfl) ?_; simp only [Act.put, List.setIfInBounds_toArray, List.set_cons_zero, List.set_cons_succ]) | (refine F_run (v := ?_) (by rfl) ?_ ?_; rotate_left; (· (intro W hW; (try dsimp only at hW); go_simp; try with_reducible rfl)); simp only [Act.put, List.setIfInBounds_toArray, List.set_cons_zero, List.set_cons_succ]))
  (refine F_call (v := .agg #[.int .i64 (bx-cx), .int .i64 (by'-cy)]) (by rfl) (by rfl) ?_ ?_; (· (intro W hW; (try dsimp only at hW); go_simp; refine (SB.out _).mono ?_; rintro e w' ⟨rfl, hx⟩; exact ⟨_, rfl, rfl, hx⟩))); simp only [Act.put, List.setIfInBounds_toArray, List.set_cons_zero, List.set_cons_succ]
  repeat (first | (refine F_skip (by rfl) ?_; simp only [Act.put, List.setIfInBounds_toArray, List.set_cons_zero, List.set_cons_succ]) | (refine F_run (v := ?_) (by rfl) ?_ ?_; rotate_left; (· (intro W hW; (try dsimp only at hW); go_simp; try with_reducible rfl)); simp only [Act.put, List.setIfInBounds_toArray, List.set_cons_zero, List.set_cons_succ]))
  refine F_alloc (.cells #[.int .i64 0, .int .i64 0] 25) (by rfl) (by rfl) (by intro W hW; go_simp) ?_
  intro g hg
  simp only [List.mem_cons, List.mem_range, not_or, Nat.not_lt] at hg
  simp only [Act.put, List.setIfInBounds_toArray, List.set_cons_zero, List.set_cons_succ]
  refine F_alloc (.cells #[.int .i64 0, .int .i64 0] 25) (by rfl) (by rfl) (by intro W hW; go_simp) ?_
  intro g2 hg2
  simp only [List.mem_cons, List.mem_range, not_or, Nat.not_lt] at hg2
  simp only [Act.put, List.setIfInBounds_toArray, List.set_cons_zero, List.set_cons_succ]
  obtain ⟨hgg, hg2⟩ := hg2
  have hgg' := Ne.symm hgg
  refine F_store2 (fun W => (Ext w W ∧ w1.heap.size ≤ W.heap.size ∧ W.cell? ⟨w.heap.size, 0, none⟩ = some (.int .i64 k) ∧ W.cell? ⟨w.heap.size, 1, none⟩ = some (.int .i64 ax) ∧ W.cell? ⟨w.heap.size, 2, none⟩ = some (.int .i64 ay) ∧ W.cell? ⟨w.heap.size, 3, none⟩ = some (.int .i64 bx) ∧ W.cell? ⟨w.heap.size, 4, none⟩ = some (.int .i64 by') ∧ W.cell? ⟨w.heap.size, 5, none⟩ = some (.int .i64 cx) ∧ W.cell? ⟨w.heap.size, 6, none⟩ = some (.int .i64 cy)) ∧ W.heap[g2]? = some (.cells #[.int .i64 0, .int .i64 0] 25)) g (.int .i64 0) (.int .i64 0) (.int .i64 (ax - cx)) (.int .i64 (ay - cy)) 25 (by rfl) (by rfl) (by intro W c0 c1 cf; go_simp) (fun W hW => ⟨⟨hW.1.1, hW.2⟩, hW.1.2⟩) ?_ ?_ ?_ ?_
  · repeat (first | exact hRKS | exact RK.keep hKeep (by assumption) | exact RK.obj (by assumption) | exact RK.nr (by intro z h; cases h) (by intro z h; cases h) | refine RK.and ?_ ?_)
  · repeat (first | exact hSM | exact hKeep.mono (fun _ h => h.2.1) | exact fmono_obj _ _ | exact fmono_nr _ _ _ _ _ | refine FMono.and ?_ ?_)
  · (intro W h; first | exact h | exact h.1 | exact h.1.1 | exact h.1.1.1 | exact h.1.1.1.1)
  simp only [Act.put, List.setIfInBounds_toArray, List.set_cons_zero, List.set_cons_succ]
  refine F_store2 (fun W => (Ext w W ∧ w1.heap.size ≤ W.heap.size ∧ W.cell? ⟨w.heap.size, 0, none⟩ = some (.int .i64 k) ∧ W.cell? ⟨w.heap.size, 1, none⟩ = some (.int .i64 ax) ∧ W.cell? ⟨w.heap.size, 2, none⟩ = some (.int .i64 ay) ∧ W.cell? ⟨w.heap.size, 3, none⟩ = some (.int .i64 bx) ∧ W.cell? ⟨w.heap.size, 4, none⟩ = some (.int .i64 by') ∧ W.cell? ⟨w.heap.size, 5, none⟩ = some (.int .i64 cx) ∧ W.cell? ⟨w.heap.size, 6, none⟩ = some (.int .i64 cy)) ∧ W.heap[g]? = some (.cells #[.int .i64 (ax - cx), .int .i64 (ay - cy)] 25)) g2 (.int .i64 0) (.int .i64 0) (.int .i64 (bx - cx)) (.int .i64 (by' - cy)) 25 (by rfl) (by rfl) (by intro W c0 c1 cf; go_simp) (fun W hW => ⟨⟨hW.1.1.1, hW.1.2⟩, hW.1.1.2⟩) ?_ ?_ ?_ ?_
  · repeat (first | exact hRKS | exact RK.keep hKeep (by assumption) | exact RK.obj (by assumption) | exact RK.nr (by intro z h; cases h) (by intro z h; cases h) | refine RK.and ?_ ?_)
  · repeat (first | exact hSM | exact hKeep.mono (fun _ h => h.2.1) | exact fmono_obj _ _ | exact fmono_nr _ _ _ _ _ | refine FMono.and ?_ ?_)
  · (intro W h; first | exact h | exact h.1 | exact h.1.1 | exact h.1.1.1 | exact h.1.1.1.1)
  simp only [Act.put, List.setIfInBounds_toArray, List.set_cons_zero, List.set_cons_succ]
  repeat (first | (refine F_skip (by rfl) ?_; simp only [Act.put, List.setIfInBounds_toArray, List.set_cons_zero, List.set_cons_succ]) | (refine F_run (v := ?_) (by rfl) ?_ ?_; rotate_left; (· (intro W hW; (try dsimp only at hW); go_simp; try with_reducible rfl)); simp only [Act.put, List.setIfInBounds_toArray, List.set_cons_zero, List.set_cons_succ]))
  rintro W ⟨⟨⟨⟨hx, hz, hc⟩, b1⟩, b2⟩, _⟩
  obtain ⟨c0, c1, _, hl1⟩ := pt_block b1
  obtain ⟨e0, e1, _, hl2⟩ := pt_block b2
  have hl3 : w.heap.size < W.heap.size := by omega
  clear b1 b2
  go_wp2_with fail
  first | refine wp_region_FC (fun W => W.cell? ⟨w.heap.size, 0, none⟩ = some (.int .i64 k) ∧ W.cell? ⟨w.heap.size, 1, none⟩ = some (.int .i64 ax) ∧ W.cell? ⟨w.heap.size, 2, none⟩ = some (.int .i64 ay) ∧ W.cell? ⟨w.heap.size, 3, none⟩ = some (.int .i64 bx) ∧ W.cell? ⟨w.heap.size, 4, none⟩ = some (.int .i64 by') ∧ W.cell? ⟨w.heap.size, 5, none⟩ = some (.int .i64 cx) ∧ W.cell? ⟨w.heap.size, 6, none⟩ = some (.int .i64 cy) ∧ W.cell? ⟨g, 0, none⟩ = some (.int .i64 (ax-cx)) ∧ W.cell? ⟨g, 1, none⟩ = some (.int .i64 (ay-cy)) ∧ W.cell? ⟨g2, 0, none⟩ = some (.int .i64 (bx-cx)) ∧ W.cell? ⟨g2, 1, none⟩ = some (.int .i64 (by'-cy))) (by kernel_rfl) (by kernel_rfl) ?_ ?_ ?_ | refine wp_region_FCs (fun W => W.cell? ⟨w.heap.size, 0, none⟩ = some (.int .i64 k) ∧ W.cell? ⟨w.heap.size, 1, none⟩ = some (.int .i64 ax) ∧ W.cell? ⟨w.heap.size, 2, none⟩ = some (.int .i64 ay) ∧ W.cell? ⟨w.heap.size, 3, none⟩ = some (.int .i64 bx) ∧ W.cell? ⟨w.heap.size, 4, none⟩ = some (.int .i64 by') ∧ W.cell? ⟨w.heap.size, 5, none⟩ = some (.int .i64 cx) ∧ W.cell? ⟨w.heap.size, 6, none⟩ = some (.int .i64 cy) ∧ W.cell? ⟨g, 0, none⟩ = some (.int .i64 (ax-cx)) ∧ W.cell? ⟨g, 1, none⟩ = some (.int .i64 (ay-cy)) ∧ W.cell? ⟨g2, 0, none⟩ = some (.int .i64 (bx-cx)) ∧ W.cell? ⟨g2, 1, none⟩ = some (.int .i64 (by'-cy))) ?_ ?_ ?_
  · go_simp
  · (intro W W' h hx hb; have hs := hx.size; (try simp at hs); have hbc : ∀ b o, b < W.heap.size → W'.cell? ⟨b, o, none⟩ = W.cell? ⟨b, o, none⟩ := fun b o h => hb.cell (p := ⟨b, o, none⟩) h; (try dsimp only at h ⊢); simp (disch := omega) only [hbc]; exact h)
  repeat (first | (refine F_skip (by rfl) ?_; simp only [Act.put, List.setIfInBounds_toArray, List.set_cons_zero, List.set_cons_succ]) | (refine F_run (v := ?_) (by rfl) ?_ ?_; rotate_left; (· (intro W hW; (try dsimp only at hW); go_simp; try with_reducible rfl)); simp only [Act.put, List.setIfInBounds_toArray, List.set_cons_zero, List.set_cons_succ]))
  rintro W2 ⟨hx2, hc2⟩
  have hx3 : Ext w W2 := Ext.step hx hx2
  clear hc2 hx2
  go_wp2
  go_ret
  exact ⟨rfl, hx3⟩

set_option maxRecDepth 100000 in
set_option maxHeartbeats 1000000 in
theorem figured_point (ax ay cx cy : Int) (w : World) :
    Calls Try.prog 27 #[.agg #[.int .i64 1, .int .i64 ax, .int .i64 ay, .int .i64 ax, .int .i64 ay, .int .i64 cx, .int .i64 cy]] w fun e w' => e = .returned (.iface 63 (.agg #[.int .i64 ax, .int .i64 ay])) ∧ Ext w w' := by
  have heq := eql_pt
  go_enter Try.func27, Try.ntmps27
  go_wp2
  go_ret
  exact ⟨rfl, by (repeat (first | exact Below.refl _ _ | assumption | refine Below.drewN ?_ _ | refine Below.drew ?_ | refine Below.setCell ?_ (by first | exact Nat.le_refl _ | (simp; done) | (simp; omega) | omega) _ | refine Below.alloc ?_ (by first | exact Nat.le_refl _ | (simp; done) | (simp; omega) | omega) _))⟩
set_option maxRecDepth 100000 in
set_option maxHeartbeats 1000000 in
theorem figured_line (ax ay bx by' cx cy : Int) (w : World) (h : ¬ (ax = bx ∧ ay = by')) :
    Calls Try.prog 27 #[.agg #[.int .i64 1, .int .i64 ax, .int .i64 ay, .int .i64 bx, .int .i64 by', .int .i64 cx, .int .i64 cy]] w fun e w' => e = .returned (.iface 65 (.agg #[.int .i64 ax, .int .i64 ay, .int .i64 bx, .int .i64 by'])) ∧ Ext w w' := by
  have hb : (ax == bx && ay == by') = false := by
    rw [Bool.eq_false_iff]
    intro h2
    simp at h2
    exact h h2
  have heq : ∀ w : World, (binOp .eql 25 (.agg #[.int .i64 ax, .int .i64 ay]) (.agg #[.int .i64 bx, .int .i64 by'])).run Try.prog w = .ok (.bool false) w := fun w => by rw [eql_pt, hb]
  clear h hb
  go_enter Try.func27, Try.ntmps27
  go_wp2
  go_ret
  exact ⟨rfl, by (repeat (first | exact Below.refl _ _ | assumption | refine Below.drewN ?_ _ | refine Below.drew ?_ | refine Below.setCell ?_ (by first | exact Nat.le_refl _ | (simp; done) | (simp; omega) | omega) _ | refine Below.alloc ?_ (by first | exact Nat.le_refl _ | (simp; done) | (simp; omega) | omega) _))⟩

end Go.Proofs.Ytmmhiiiaccldmaa
