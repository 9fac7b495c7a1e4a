/- Contracts: edge.On. -/
import Derived.Test.YtmmhiiiaccldmaaJ14
set_option linter.unusedVariables false
set_option linter.unusedSimpArgs false

namespace Go.Proofs.Ytmmhiiiaccldmaa
open Go.RowKit
attribute [local go_sem] Gives givesU

def inB (x0 y0 x1 y1 px py : Int) : Bool := decide (x0 ≤ px) && (decide (px ≤ x1) && (decide (y0 ≤ py) && decide (py ≤ y1)))
/-- Whether a point lies on an edge. -/
def onE (e : Ed) (px py : Int) : Bool :=
  e.ok && (inB (min e.ax e.bx) (min e.ay e.by') (max e.ax e.bx) (max e.ay e.by') px py && (if e.k = 1 then sideI ((e.bx - e.ax) * (py - e.ay) - (e.by' - e.ay) * (px - e.ax)) == 0 else powerI (px - e.cx) (py - e.cy) (e.ax - e.cx) (e.ay - e.cy) == 0))

set_option maxRecDepth 100000 in
set_option maxHeartbeats 2000000 in
theorem edge_On1 (px py x0 y0 x1 y1 : Int) (B : Nat) (w : World) (hB : B < w.heap.size) (c0 : w.cell? ⟨B, 0, none⟩ = some (.int .i64 x0)) (c1 : w.cell? ⟨B, 1, none⟩ = some (.int .i64 y0)) (c2 : w.cell? ⟨B, 2, none⟩ = some (.int .i64 x1)) (c3 : w.cell? ⟨B, 3, none⟩ = some (.int .i64 y1)) :
    Calls Try.prog 34 #[.agg #[.int .i64 px, .int .i64 py], .pointer (some ⟨B, 0, none⟩)] w fun e w' => e = .returned (.bool (inB x0 y0 x1 y1 px py)) ∧ Ext w w' := by
  go_enter Try.func34, Try.ntmps34
  go_wp2
  all_goals
    go_ret
    exact ⟨ret_bool (Bool.eq_iff_iff.2 (by simp [inB]; omega)), by (repeat (first | exact Below.refl _ _ | assumption | refine Below.drewN ?_ _ | refine Below.drew ?_ | refine Below.setCell ?_ (by first | exact Nat.le_refl _ | (simp; done) | (simp; omega) | omega) _ | refine Below.alloc ?_ (by first | exact Nat.le_refl _ | (simp; done) | (simp; omega) | omega) _))⟩

theorem onE_bad {e : Ed} {px py : Int} (h : e.ok = false) : onE e px py = false := by simp [onE, h]

set_option maxRecDepth 100000 in
set_option maxHeartbeats 2000000 in
theorem edge_On_bad (k ax ay bx by' cx cy : Int) (px py : Int) (w : World) (hok : (Ed.mk k ax ay bx by' cx cy).ok = false) :
    Calls Try.prog 18 #[.agg #[.int .i64 k, .int .i64 ax, .int .i64 ay, .int .i64 bx, .int .i64 by', .int .i64 cx, .int .i64 cy], .agg #[.int .i64 px, .int .i64 py]] w fun e w' => e = .returned (.bool false) ∧ Ext w w' := by
  have OF := fun w => edge_of k ax ay bx by' cx cy w
  rw [hok] at OF
  clear hok
  rcases fam_cases k with ⟨f, g, h', e⟩ | e
  all_goals
    rw [e] at OF
    have OF := Lib.hid OF
    clear e
    go_enter Try.func18, Try.ntmps18
    go_wp2_with fail
    refine (OF.out _).mono ?_
    rintro e w1 ⟨rfl, hx⟩
    have hx0 : Ext w w1 := Ext.step (by (repeat (first | exact Below.refl _ _ | assumption | refine Below.drewN ?_ _ | refine Below.drew ?_ | refine Below.setCell ?_ (by first | exact Nat.le_refl _ | (simp; done) | (simp; omega) | omega) _ | refine Below.alloc ?_ (by first | exact Nat.le_refl _ | (simp; done) | (simp; omega) | omega) _))) hx
    have hs0 := hx0.size
    have hz_w1 : w.heap.size + 2 ≤ w1.heap.size := Nat.le_trans (by first | omega | (simp; done) | (simp; omega)) hx.size
    have hl_w1_0 : w.heap.size < w1.heap.size := Nat.lt_of_lt_of_le (by omega) hz_w1
    have hk_w1_0 : ∀ o, w1.cell? ⟨w.heap.size, o, none⟩ = _ := fun o => hx.cell (p := ⟨w.heap.size, o, none⟩) (show w.heap.size < _ from (by first | omega | (simp; done) | (simp; omega)))
    have hf_w1_0 : ∀ o, w1.frozen? ⟨w.heap.size, o, none⟩ = _ := fun o => hx.frozen (p := ⟨w.heap.size, o, none⟩) (show w.heap.size < _ from (by first | omega | (simp; done) | (simp; omega)))
    have hl_w1_1 : w.heap.size + 1 < w1.heap.size := Nat.lt_of_lt_of_le (by omega) hz_w1
    have hk_w1_1 : ∀ o, w1.cell? ⟨w.heap.size + 1, o, none⟩ = _ := fun o => hx.cell (p := ⟨w.heap.size + 1, o, none⟩) (show w.heap.size + 1 < _ from (by first | omega | (simp; done) | (simp; omega)))
    have hf_w1_1 : ∀ o, w1.frozen? ⟨w.heap.size + 1, o, none⟩ = _ := fun o => hx.frozen (p := ⟨w.heap.size + 1, o, none⟩) (show w.heap.size + 1 < _ from (by first | omega | (simp; done) | (simp; omega)))
    clear hx
    go_wp2_with fail
    refine (edge_Box _ _ _ _ _ _ _ _).mono ?_
    rintro e w2 ⟨rfl, hx⟩
    have hx2 : Ext w w2 := Ext.step (by (repeat (first | exact Below.refl _ _ | assumption | refine Below.drewN ?_ _ | refine Below.drew ?_ | refine Below.setCell ?_ (by first | exact Nat.le_refl _ | (simp; done) | (simp; omega) | omega) _ | refine Below.alloc ?_ (by first | exact Nat.le_refl _ | (simp; done) | (simp; omega) | omega) _))) hx
    have hs2 := hx2.size
    clear hx
    go_wp2
    go_ret
    exact ⟨rfl, by (repeat (first | exact Below.refl _ _ | assumption | refine Below.drewN ?_ _ | refine Below.drew ?_ | refine Below.setCell ?_ (by first | exact Nat.le_refl _ | (simp; done) | (simp; omega) | omega) _ | refine Below.alloc ?_ (by first | exact Nat.le_refl _ | (simp; done) | (simp; omega) | omega) _))⟩
theorem in_co {ax ay bx by' px py : Int} (hax : Co ax) (hay : Co ay) (hbx : Co bx) (hby : Co by') (h : inB (min ax bx) (min ay by') (max ax bx) (max ay by') px py = true) : Co px ∧ Co py := by
  simp only [inB, Bool.and_eq_true, decide_eq_true_eq] at h
  unfold Co at *
  omega
set_option maxRecDepth 100000 in
set_option maxHeartbeats 4000000 in
theorem edge_On_1 (ax ay bx by' cx cy px py : Int) (w : World) (hok : (Ed.mk 1 ax ay bx by' cx cy).ok = true) :
    Calls Try.prog 18 #[.agg #[.int .i64 1, .int .i64 ax, .int .i64 ay, .int .i64 bx, .int .i64 by', .int .i64 cx, .int .i64 cy], .agg #[.int .i64 px, .int .i64 py]] w fun e w' => e = .returned (.bool (onE (Ed.mk 1 ax ay bx by' cx cy) px py)) ∧ Ext w w' := by
  have OF := fun w => edge_of 1 ax ay bx by' cx cy w
  obtain ⟨⟨hax, hay⟩, ⟨hbx, hby⟩, hcx, hcy⟩ := ok_right hok
  simp only at hax hay hbx hby hcx hcy
  rw [hok, fam1] at OF
  have OF := Lib.hid OF
  have IN := @in_co ax ay bx by' px py hax hay hbx hby
  have ONC := fun (h : Co px ∧ Co py) (w : World) => edge_straight 1 ax ay bx by' cx cy px py w hax hay hbx hby hcx hcy h.1 h.2
  have RES : Hid (onE (Ed.mk 1 ax ay bx by' cx cy) px py = (inB (min ax bx) (min ay by') (max ax bx) (max ay by') px py && (sideI ((bx - ax) * (py - ay) - (by' - ay) * (px - ax)) == 0))) := by
    show onE _ px py = _
    simp [onE, hok]
  have BX := Lib.hid (fun w => edge_Box 1 ax ay bx by' cx cy w)
  clear hok hax hay hbx hby hcx hcy
  obtain ⟨b0, B0⟩ : ∃ b, Hid (min ax bx = b) := ⟨_, rfl⟩
  obtain ⟨b1, B1⟩ : ∃ b, Hid (min ay by' = b) := ⟨_, rfl⟩
  obtain ⟨b2, B2⟩ : ∃ b, Hid (max ax bx = b) := ⟨_, rfl⟩
  obtain ⟨b3, B3⟩ : ∃ b, Hid (max ay by' = b) := ⟨_, rfl⟩
  rw [B0.out, B1.out, B2.out, B3.out] at IN RES BX
  go_enter Try.func18, Try.ntmps18
  go_wp2_with fail
  refine (OF.out _).mono ?_
  rintro e w1 ⟨rfl, hx⟩
  have hx0 : Ext w w1 := Ext.step (by (repeat (first | exact Below.refl _ _ | assumption | refine Below.drewN ?_ _ | refine Below.drew ?_ | refine Below.setCell ?_ (by first | exact Nat.le_refl _ | (simp; done) | (simp; omega) | omega) _ | refine Below.alloc ?_ (by first | exact Nat.le_refl _ | (simp; done) | (simp; omega) | omega) _))) hx
  have hs0 := hx0.size
  have hz_w1 : w.heap.size + 2 ≤ w1.heap.size := Nat.le_trans (by first | omega | (simp; done) | (simp; omega)) hx.size
  have hl_w1_0 : w.heap.size < w1.heap.size := Nat.lt_of_lt_of_le (by omega) hz_w1
  have hk_w1_0 : ∀ o, w1.cell? ⟨w.heap.size, o, none⟩ = _ := fun o => hx.cell (p := ⟨w.heap.size, o, none⟩) (show w.heap.size < _ from (by first | omega | (simp; done) | (simp; omega)))
  have hf_w1_0 : ∀ o, w1.frozen? ⟨w.heap.size, o, none⟩ = _ := fun o => hx.frozen (p := ⟨w.heap.size, o, none⟩) (show w.heap.size < _ from (by first | omega | (simp; done) | (simp; omega)))
  have hl_w1_1 : w.heap.size + 1 < w1.heap.size := Nat.lt_of_lt_of_le (by omega) hz_w1
  have hk_w1_1 : ∀ o, w1.cell? ⟨w.heap.size + 1, o, none⟩ = _ := fun o => hx.cell (p := ⟨w.heap.size + 1, o, none⟩) (show w.heap.size + 1 < _ from (by first | omega | (simp; done) | (simp; omega)))
  have hf_w1_1 : ∀ o, w1.frozen? ⟨w.heap.size + 1, o, none⟩ = _ := fun o => hx.frozen (p := ⟨w.heap.size + 1, o, none⟩) (show w.heap.size + 1 < _ from (by first | omega | (simp; done) | (simp; omega)))
  clear hx
  go_wp2_with fail
  refine (BX.out _).mono ?_
  rintro e w2 ⟨rfl, hx⟩
  have hx2 : Ext w w2 := Ext.step (by (repeat (first | exact Below.refl _ _ | assumption | refine Below.drewN ?_ _ | refine Below.drew ?_ | refine Below.setCell ?_ (by first | exact Nat.le_refl _ | (simp; done) | (simp; omega) | omega) _ | refine Below.alloc ?_ (by first | exact Nat.le_refl _ | (simp; done) | (simp; omega) | omega) _))) hx
  have hs2 := hx.size
  simp at hs2
  have g0 : ∀ o, w2.cell? ⟨w.heap.size, o, none⟩ = _ := fun o => hx.cell (p := ⟨w.heap.size, o, none⟩) (by simp; omega)
  have g1 : ∀ o, w2.cell? ⟨w.heap.size + 1, o, none⟩ = _ := fun o => hx.cell (p := ⟨w.heap.size + 1, o, none⟩) (by simp; omega)
  have g2 : ∀ o, w2.cell? ⟨w1.heap.size, o, none⟩ = _ := fun o => hx.cell (p := ⟨w1.heap.size, o, none⟩) (by simp)
  have h0 : w.heap.size < w2.heap.size := by omega
  have h1 : w.heap.size + 1 < w2.heap.size := by omega
  have h2 : w1.heap.size < w2.heap.size := by omega
  clear hx
  go_upto_region 4 with (fail)
  have O1 := fun (W : World) hB c0 c1 c2 c3 => edge_On1 px py b0 b1 b2 b3 w2.heap.size W hB c0 c1 c2 c3
  cases hin : inB b0 b1 b2 b3 px py with
  | false =>
    rw [hin] at O1 RES
    have O1 := Lib.hid O1
    clear hin IN ONC
    first | refine wp_region_FC (fun W => W.cell? ⟨w.heap.size, 0, none⟩ = some (.int .i64 1) ∧ W.cell? ⟨w.heap.size, 1, none⟩ = some (.int .i64 ax) ∧ W.cell? ⟨w.heap.size, 2, none⟩ = some (.int .i64 ay) ∧ W.cell? ⟨w.heap.size, 3, none⟩ = some (.int .i64 bx) ∧ W.cell? ⟨w.heap.size, 4, none⟩ = some (.int .i64 by') ∧ W.cell? ⟨w.heap.size, 5, none⟩ = some (.int .i64 cx) ∧ W.cell? ⟨w.heap.size, 6, none⟩ = some (.int .i64 cy) ∧ W.cell? ⟨w.heap.size + 1, 0, none⟩ = some (.int .i64 px) ∧ W.cell? ⟨w.heap.size + 1, 1, none⟩ = some (.int .i64 py) ∧ W.cell? ⟨w1.heap.size, 0, none⟩ = some (.func (.func 55) #[] #[]) ∧ W.cell? ⟨w1.heap.size, 1, none⟩ = some (.func (.func 56) #[] #[]) ∧ W.cell? ⟨w2.heap.size, 0, none⟩ = some (.int .i64 b0) ∧ W.cell? ⟨w2.heap.size, 1, none⟩ = some (.int .i64 b1) ∧ W.cell? ⟨w2.heap.size, 2, none⟩ = some (.int .i64 b2) ∧ W.cell? ⟨w2.heap.size, 3, none⟩ = some (.int .i64 b3)) (by kernel_rfl) (by kernel_rfl) ?_ ?_ ?_ | refine wp_region_FCs (fun W => W.cell? ⟨w.heap.size, 0, none⟩ = some (.int .i64 1) ∧ W.cell? ⟨w.heap.size, 1, none⟩ = some (.int .i64 ax) ∧ W.cell? ⟨w.heap.size, 2, none⟩ = some (.int .i64 ay) ∧ W.cell? ⟨w.heap.size, 3, none⟩ = some (.int .i64 bx) ∧ W.cell? ⟨w.heap.size, 4, none⟩ = some (.int .i64 by') ∧ W.cell? ⟨w.heap.size, 5, none⟩ = some (.int .i64 cx) ∧ W.cell? ⟨w.heap.size, 6, none⟩ = some (.int .i64 cy) ∧ W.cell? ⟨w.heap.size + 1, 0, none⟩ = some (.int .i64 px) ∧ W.cell? ⟨w.heap.size + 1, 1, none⟩ = some (.int .i64 py) ∧ W.cell? ⟨w1.heap.size, 0, none⟩ = some (.func (.func 55) #[] #[]) ∧ W.cell? ⟨w1.heap.size, 1, none⟩ = some (.func (.func 56) #[] #[]) ∧ W.cell? ⟨w2.heap.size, 0, none⟩ = some (.int .i64 b0) ∧ W.cell? ⟨w2.heap.size, 1, none⟩ = some (.int .i64 b1) ∧ W.cell? ⟨w2.heap.size, 2, none⟩ = some (.int .i64 b2) ∧ W.cell? ⟨w2.heap.size, 3, none⟩ = some (.int .i64 b3)) ?_ ?_ ?_
    · go_simp
    · (intro W W' h hx hb; have hs := hx.size; (try simp at hs); have hbc : ∀ b o, b < W.heap.size → W'.cell? ⟨b, o, none⟩ = W.cell? ⟨b, o, none⟩ := fun b o h => hb.cell (p := ⟨b, o, none⟩) h; (try dsimp only at h ⊢); simp (disch := omega) only [hbc]; exact h)
    repeat (first | (refine F_skip (by rfl) ?_; simp only [Act.put, List.setIfInBounds_toArray, List.set_cons_zero, List.set_cons_succ]) | (refine F_run (v := ?_) (by rfl) ?_ ?_; rotate_left; (· (intro W hW; (try dsimp only at hW); go_simp; try with_reducible rfl)); simp only [Act.put, List.setIfInBounds_toArray, List.set_cons_zero, List.set_cons_succ]))
    (refine F_call (v := .bool false) (by rfl) (by rfl) ?_ ?_; (· (intro W hW; (try dsimp only at hW); go_simp; refine (O1.out _ (by have := hW.1.size; simp at this; omega) (by go_simp) (by go_simp) (by go_simp) (by go_simp)).mono ?_; rintro e w' ⟨rfl, hx⟩; exact ⟨_, rfl, rfl, hx⟩))); simp only [Act.put, List.setIfInBounds_toArray, List.set_cons_zero, List.set_cons_succ]
    repeat (first | (refine F_skip (by rfl) ?_; simp only [Act.put, List.setIfInBounds_toArray, List.set_cons_zero, List.set_cons_succ]) | (refine F_run (v := ?_) (by rfl) ?_ ?_; rotate_left; (· (intro W hW; (try dsimp only at hW); go_simp; try with_reducible rfl)); simp only [Act.put, List.setIfInBounds_toArray, List.set_cons_zero, List.set_cons_succ]))
    rintro W ⟨hx, hc⟩
    clear hc
    have hx3 : Ext w W := Ext.step (by (repeat (first | exact Below.refl _ _ | assumption | refine Below.drewN ?_ _ | refine Below.drew ?_ | refine Below.setCell ?_ (by first | exact Nat.le_refl _ | (simp; done) | (simp; omega) | omega) _ | refine Below.alloc ?_ (by first | exact Nat.le_refl _ | (simp; done) | (simp; omega) | omega) _))) hx
    clear hx
    go_wp2
    go_ret
    exact ⟨by rw [RES.out]; rfl, hx3⟩
  | true =>
    rw [hin] at O1 RES
    have O1 := Lib.hid O1
    have ONC := Lib.hid (ONC (IN hin))
    clear hin IN
    first | refine wp_region_FC (fun W => W.cell? ⟨w.heap.size, 0, none⟩ = some (.int .i64 1) ∧ W.cell? ⟨w.heap.size, 1, none⟩ = some (.int .i64 ax) ∧ W.cell? ⟨w.heap.size, 2, none⟩ = some (.int .i64 ay) ∧ W.cell? ⟨w.heap.size, 3, none⟩ = some (.int .i64 bx) ∧ W.cell? ⟨w.heap.size, 4, none⟩ = some (.int .i64 by') ∧ W.cell? ⟨w.heap.size, 5, none⟩ = some (.int .i64 cx) ∧ W.cell? ⟨w.heap.size, 6, none⟩ = some (.int .i64 cy) ∧ W.cell? ⟨w.heap.size + 1, 0, none⟩ = some (.int .i64 px) ∧ W.cell? ⟨w.heap.size + 1, 1, none⟩ = some (.int .i64 py) ∧ W.cell? ⟨w1.heap.size, 0, none⟩ = some (.func (.func 55) #[] #[]) ∧ W.cell? ⟨w1.heap.size, 1, none⟩ = some (.func (.func 56) #[] #[]) ∧ W.cell? ⟨w2.heap.size, 0, none⟩ = some (.int .i64 b0) ∧ W.cell? ⟨w2.heap.size, 1, none⟩ = some (.int .i64 b1) ∧ W.cell? ⟨w2.heap.size, 2, none⟩ = some (.int .i64 b2) ∧ W.cell? ⟨w2.heap.size, 3, none⟩ = some (.int .i64 b3)) (by kernel_rfl) (by kernel_rfl) ?_ ?_ ?_ | refine wp_region_FCs (fun W => W.cell? ⟨w.heap.size, 0, none⟩ = some (.int .i64 1) ∧ W.cell? ⟨w.heap.size, 1, none⟩ = some (.int .i64 ax) ∧ W.cell? ⟨w.heap.size, 2, none⟩ = some (.int .i64 ay) ∧ W.cell? ⟨w.heap.size, 3, none⟩ = some (.int .i64 bx) ∧ W.cell? ⟨w.heap.size, 4, none⟩ = some (.int .i64 by') ∧ W.cell? ⟨w.heap.size, 5, none⟩ = some (.int .i64 cx) ∧ W.cell? ⟨w.heap.size, 6, none⟩ = some (.int .i64 cy) ∧ W.cell? ⟨w.heap.size + 1, 0, none⟩ = some (.int .i64 px) ∧ W.cell? ⟨w.heap.size + 1, 1, none⟩ = some (.int .i64 py) ∧ W.cell? ⟨w1.heap.size, 0, none⟩ = some (.func (.func 55) #[] #[]) ∧ W.cell? ⟨w1.heap.size, 1, none⟩ = some (.func (.func 56) #[] #[]) ∧ W.cell? ⟨w2.heap.size, 0, none⟩ = some (.int .i64 b0) ∧ W.cell? ⟨w2.heap.size, 1, none⟩ = some (.int .i64 b1) ∧ W.cell? ⟨w2.heap.size, 2, none⟩ = some (.int .i64 b2) ∧ W.cell? ⟨w2.heap.size, 3, none⟩ = some (.int .i64 b3)) ?_ ?_ ?_
    · go_simp
    · (intro W W' h hx hb; have hs := hx.size; (try simp at hs); have hbc : ∀ b o, b < W.heap.size → W'.cell? ⟨b, o, none⟩ = W.cell? ⟨b, o, none⟩ := fun b o h => hb.cell (p := ⟨b, o, none⟩) h; (try dsimp only at h ⊢); simp (disch := omega) only [hbc]; exact h)
    repeat (first | (refine F_skip (by rfl) ?_; simp only [Act.put, List.setIfInBounds_toArray, List.set_cons_zero, List.set_cons_succ]) | (refine F_run (v := ?_) (by rfl) ?_ ?_; rotate_left; (· (intro W hW; (try dsimp only at hW); go_simp; try with_reducible rfl)); simp only [Act.put, List.setIfInBounds_toArray, List.set_cons_zero, List.set_cons_succ]))
    (refine F_call (v := .bool true) (by rfl) (by rfl) ?_ ?_; (· (intro W hW; (try dsimp only at hW); go_simp; refine (O1.out _ (by have := hW.1.size; simp at this; omega) (by go_simp) (by go_simp) (by go_simp) (by go_simp)).mono ?_; rintro e w' ⟨rfl, hx⟩; exact ⟨_, rfl, rfl, hx⟩))); simp only [Act.put, List.setIfInBounds_toArray, List.set_cons_zero, List.set_cons_succ]
    repeat (first | (refine F_skip (by rfl) ?_; simp only [Act.put, List.setIfInBounds_toArray, List.set_cons_zero, List.set_cons_succ]) | (refine F_run (v := ?_) (by rfl) ?_ ?_; rotate_left; (· (intro W hW; (try dsimp only at hW); go_simp; try with_reducible rfl)); simp only [Act.put, List.setIfInBounds_toArray, List.set_cons_zero, List.set_cons_succ]))
    (refine F_call (v := .bool (sideI ((bx - ax) * (py - ay) - (by' - ay) * (px - ax)) == 0)) (by rfl) (by rfl) ?_ ?_; (· (intro W hW; (try dsimp only at hW); go_simp; refine (ONC.out _).mono ?_; rintro e w' ⟨rfl, hx⟩; exact ⟨_, rfl, rfl, hx⟩))); simp only [Act.put, List.setIfInBounds_toArray, List.set_cons_zero, List.set_cons_succ]
    repeat (first | (refine F_skip (by rfl) ?_; simp only [Act.put, List.setIfInBounds_toArray, List.set_cons_zero, List.set_cons_succ]) | (refine F_run (v := ?_) (by rfl) ?_ ?_; rotate_left; (· (intro W hW; (try dsimp only at hW); go_simp; try with_reducible rfl)); simp only [Act.put, List.setIfInBounds_toArray, List.set_cons_zero, List.set_cons_succ]))
    rintro W ⟨hx, hc⟩
    clear hc
    have hx3 : Ext w W := Ext.step (by (repeat (first | exact Below.refl _ _ | assumption | refine Below.drewN ?_ _ | refine Below.drew ?_ | refine Below.setCell ?_ (by first | exact Nat.le_refl _ | (simp; done) | (simp; omega) | omega) _ | refine Below.alloc ?_ (by first | exact Nat.le_refl _ | (simp; done) | (simp; omega) | omega) _))) hx
    clear hx
    go_wp2
    go_ret
    exact ⟨by rw [RES.out]; rfl, hx3⟩

set_option maxRecDepth 100000 in
set_option maxHeartbeats 4000000 in
theorem edge_On_2 (ax ay bx by' cx cy px py : Int) (w : World) (hok : (Ed.mk 2 ax ay bx by' cx cy).ok = true) :
    Calls Try.prog 18 #[.agg #[.int .i64 2, .int .i64 ax, .int .i64 ay, .int .i64 bx, .int .i64 by', .int .i64 cx, .int .i64 cy], .agg #[.int .i64 px, .int .i64 py]] w fun e w' => e = .returned (.bool (onE (Ed.mk 2 ax ay bx by' cx cy) px py)) ∧ Ext w w' := by
  have OF := fun w => edge_of 2 ax ay bx by' cx cy w
  obtain ⟨⟨hax, hay⟩, ⟨hbx, hby⟩, hcx, hcy⟩ := ok_right hok
  simp only at hax hay hbx hby hcx hcy
  rw [hok, fam2] at OF
  have OF := Lib.hid OF
  have IN := @in_co ax ay bx by' px py hax hay hbx hby
  have ONC := fun (h : Co px ∧ Co py) (w : World) => edge_round 2 ax ay bx by' cx cy px py w hax hay hbx hby hcx hcy h.1 h.2
  have RES : Hid (onE (Ed.mk 2 ax ay bx by' cx cy) px py = (inB (min ax bx) (min ay by') (max ax bx) (max ay by') px py && (powerI (px - cx) (py - cy) (ax - cx) (ay - cy) == 0))) := by
    show onE _ px py = _
    simp [onE, hok]
  have BX := Lib.hid (fun w => edge_Box 2 ax ay bx by' cx cy w)
  clear hok hax hay hbx hby hcx hcy
  obtain ⟨b0, B0⟩ : ∃ b, Hid (min ax bx = b) := ⟨_, rfl⟩
  obtain ⟨b1, B1⟩ : ∃ b, Hid (min ay by' = b) := ⟨_, rfl⟩
  obtain ⟨b2, B2⟩ : ∃ b, Hid (max ax bx = b) := ⟨_, rfl⟩
  obtain ⟨b3, B3⟩ : ∃ b, Hid (max ay by' = b) := ⟨_, rfl⟩
  rw [B0.out, B1.out, B2.out, B3.out] at IN RES BX
  go_enter Try.func18, Try.ntmps18
  go_wp2_with fail
  refine (OF.out _).mono ?_
  rintro e w1 ⟨rfl, hx⟩
  have hx0 : Ext w w1 := Ext.step (by (repeat (first | exact Below.refl _ _ | assumption | refine Below.drewN ?_ _ | refine Below.drew ?_ | refine Below.setCell ?_ (by first | exact Nat.le_refl _ | (simp; done) | (simp; omega) | omega) _ | refine Below.alloc ?_ (by first | exact Nat.le_refl _ | (simp; done) | (simp; omega) | omega) _))) hx
  have hs0 := hx0.size
  have hz_w1 : w.heap.size + 2 ≤ w1.heap.size := Nat.le_trans (by first | omega | (simp; done) | (simp; omega)) hx.size
  have hl_w1_0 : w.heap.size < w1.heap.size := Nat.lt_of_lt_of_le (by omega) hz_w1
  have hk_w1_0 : ∀ o, w1.cell? ⟨w.heap.size, o, none⟩ = _ := fun o => hx.cell (p := ⟨w.heap.size, o, none⟩) (show w.heap.size < _ from (by first | omega | (simp; done) | (simp; omega)))
  have hf_w1_0 : ∀ o, w1.frozen? ⟨w.heap.size, o, none⟩ = _ := fun o => hx.frozen (p := ⟨w.heap.size, o, none⟩) (show w.heap.size < _ from (by first | omega | (simp; done) | (simp; omega)))
  have hl_w1_1 : w.heap.size + 1 < w1.heap.size := Nat.lt_of_lt_of_le (by omega) hz_w1
  have hk_w1_1 : ∀ o, w1.cell? ⟨w.heap.size + 1, o, none⟩ = _ := fun o => hx.cell (p := ⟨w.heap.size + 1, o, none⟩) (show w.heap.size + 1 < _ from (by first | omega | (simp; done) | (simp; omega)))
  have hf_w1_1 : ∀ o, w1.frozen? ⟨w.heap.size + 1, o, none⟩ = _ := fun o => hx.frozen (p := ⟨w.heap.size + 1, o, none⟩) (show w.heap.size + 1 < _ from (by first | omega | (simp; done) | (simp; omega)))
  clear hx
  go_wp2_with fail
  refine (BX.out _).mono ?_
  rintro e w2 ⟨rfl, hx⟩
  have hx2 : Ext w w2 := Ext.step (by (repeat (first | exact Below.refl _ _ | assumption | refine Below.drewN ?_ _ | refine Below.drew ?_ | refine Below.setCell ?_ (by first | exact Nat.le_refl _ | (simp; done) | (simp; omega) | omega) _ | refine Below.alloc ?_ (by first | exact Nat.le_refl _ | (simp; done) | (simp; omega) | omega) _))) hx
  have hs2 := hx.size
  simp at hs2
  have g0 : ∀ o, w2.cell? ⟨w.heap.size, o, none⟩ = _ := fun o => hx.cell (p := ⟨w.heap.size, o, none⟩) (by simp; omega)
  have g1 : ∀ o, w2.cell? ⟨w.heap.size + 1, o, none⟩ = _ := fun o => hx.cell (p := ⟨w.heap.size + 1, o, none⟩) (by simp; omega)
  have g2 : ∀ o, w2.cell? ⟨w1.heap.size, o, none⟩ = _ := fun o => hx.cell (p := ⟨w1.heap.size, o, none⟩) (by simp)
  have h0 : w.heap.size < w2.heap.size := by omega
  have h1 : w.heap.size + 1 < w2.heap.size := by omega
  have h2 : w1.heap.size < w2.heap.size := by omega
  clear hx
  go_upto_region 4 with (fail)
  have O1 := fun (W : World) hB c0 c1 c2 c3 => edge_On1 px py b0 b1 b2 b3 w2.heap.size W hB c0 c1 c2 c3
  cases hin : inB b0 b1 b2 b3 px py with
  | false =>
    rw [hin] at O1 RES
    have O1 := Lib.hid O1
    clear hin IN ONC
    first | refine wp_region_FC (fun W => W.cell? ⟨w.heap.size, 0, none⟩ = some (.int .i64 2) ∧ W.cell? ⟨w.heap.size, 1, none⟩ = some (.int .i64 ax) ∧ W.cell? ⟨w.heap.size, 2, none⟩ = some (.int .i64 ay) ∧ W.cell? ⟨w.heap.size, 3, none⟩ = some (.int .i64 bx) ∧ W.cell? ⟨w.heap.size, 4, none⟩ = some (.int .i64 by') ∧ W.cell? ⟨w.heap.size, 5, none⟩ = some (.int .i64 cx) ∧ W.cell? ⟨w.heap.size, 6, none⟩ = some (.int .i64 cy) ∧ W.cell? ⟨w.heap.size + 1, 0, none⟩ = some (.int .i64 px) ∧ W.cell? ⟨w.heap.size + 1, 1, none⟩ = some (.int .i64 py) ∧ W.cell? ⟨w1.heap.size, 0, none⟩ = some (.func (.func 58) #[] #[]) ∧ W.cell? ⟨w1.heap.size, 1, none⟩ = some (.func (.func 59) #[] #[]) ∧ W.cell? ⟨w2.heap.size, 0, none⟩ = some (.int .i64 b0) ∧ W.cell? ⟨w2.heap.size, 1, none⟩ = some (.int .i64 b1) ∧ W.cell? ⟨w2.heap.size, 2, none⟩ = some (.int .i64 b2) ∧ W.cell? ⟨w2.heap.size, 3, none⟩ = some (.int .i64 b3)) (by kernel_rfl) (by kernel_rfl) ?_ ?_ ?_ | refine wp_region_FCs (fun W => W.cell? ⟨w.heap.size, 0, none⟩ = some (.int .i64 2) ∧ W.cell? ⟨w.heap.size, 1, none⟩ = some (.int .i64 ax) ∧ W.cell? ⟨w.heap.size, 2, none⟩ = some (.int .i64 ay) ∧ W.cell? ⟨w.heap.size, 3, none⟩ = some (.int .i64 bx) ∧ W.cell? ⟨w.heap.size, 4, none⟩ = some (.int .i64 by') ∧ W.cell? ⟨w.heap.size, 5, none⟩ = some (.int .i64 cx) ∧ W.cell? ⟨w.heap.size, 6, none⟩ = some (.int .i64 cy) ∧ W.cell? ⟨w.heap.size + 1, 0, none⟩ = some (.int .i64 px) ∧ W.cell? ⟨w.heap.size + 1, 1, none⟩ = some (.int .i64 py) ∧ W.cell? ⟨w1.heap.size, 0, none⟩ = some (.func (.func 58) #[] #[]) ∧ W.cell? ⟨w1.heap.size, 1, none⟩ = some (.func (.func 59) #[] #[]) ∧ W.cell? ⟨w2.heap.size, 0, none⟩ = some (.int .i64 b0) ∧ W.cell? ⟨w2.heap.size, 1, none⟩ = some (.int .i64 b1) ∧ W.cell? ⟨w2.heap.size, 2, none⟩ = some (.int .i64 b2) ∧ W.cell? ⟨w2.heap.size, 3, none⟩ = some (.int .i64 b3)) ?_ ?_ ?_
    · go_simp
    · (intro W W' h hx hb; have hs := hx.size; (try simp at hs); have hbc : ∀ b o, b < W.heap.size → W'.cell? ⟨b, o, none⟩ = W.cell? ⟨b, o, none⟩ := fun b o h => hb.cell (p := ⟨b, o, none⟩) h; (try dsimp only at h ⊢); simp (disch := omega) only [hbc]; exact h)
    repeat (first | (refine F_skip (by rfl) ?_; simp only [Act.put, List.setIfInBounds_toArray, List.set_cons_zero, List.set_cons_succ]) | (refine F_run (v := ?_) (by rfl) ?_ ?_; rotate_left; (· (intro W hW; (try dsimp only at hW); go_simp; try with_reducible rfl)); simp only [Act.put, List.setIfInBounds_toArray, List.set_cons_zero, List.set_cons_succ]))
    (refine F_call (v := .bool false) (by rfl) (by rfl) ?_ ?_; (· (intro W hW; (try dsimp only at hW); go_simp; refine (O1.out _ (by have := hW.1.size; simp at this; omega) (by go_simp) (by go_simp) (by go_simp) (by go_simp)).mono ?_; rintro e w' ⟨rfl, hx⟩; exact ⟨_, rfl, rfl, hx⟩))); simp only [Act.put, List.setIfInBounds_toArray, List.set_cons_zero, List.set_cons_succ]
    repeat (first | (refine F_skip (by rfl) ?_; simp only [Act.put, List.setIfInBounds_toArray, List.set_cons_zero, List.set_cons_succ]) | (refine F_run (v := ?_) (by rfl) ?_ ?_; rotate_left; (· (intro W hW; (try dsimp only at hW); go_simp; try with_reducible rfl)); simp only [Act.put, List.setIfInBounds_toArray, List.set_cons_zero, List.set_cons_succ]))
    rintro W ⟨hx, hc⟩
    clear hc
    have hx3 : Ext w W := Ext.step (by (repeat (first | exact Below.refl _ _ | assumption | refine Below.drewN ?_ _ | refine Below.drew ?_ | refine Below.setCell ?_ (by first | exact Nat.le_refl _ | (simp; done) | (simp; omega) | omega) _ | refine Below.alloc ?_ (by first | exact Nat.le_refl _ | (simp; done) | (simp; omega) | omega) _))) hx
    clear hx
    go_wp2
    go_ret
    exact ⟨by rw [RES.out]; rfl, hx3⟩
  | true =>
    rw [hin] at O1 RES
    have O1 := Lib.hid O1
    have ONC := Lib.hid (ONC (IN hin))
    clear hin IN
    first | refine wp_region_FC (fun W => W.cell? ⟨w.heap.size, 0, none⟩ = some (.int .i64 2) ∧ W.cell? ⟨w.heap.size, 1, none⟩ = some (.int .i64 ax) ∧ W.cell? ⟨w.heap.size, 2, none⟩ = some (.int .i64 ay) ∧ W.cell? ⟨w.heap.size, 3, none⟩ = some (.int .i64 bx) ∧ W.cell? ⟨w.heap.size, 4, none⟩ = some (.int .i64 by') ∧ W.cell? ⟨w.heap.size, 5, none⟩ = some (.int .i64 cx) ∧ W.cell? ⟨w.heap.size, 6, none⟩ = some (.int .i64 cy) ∧ W.cell? ⟨w.heap.size + 1, 0, none⟩ = some (.int .i64 px) ∧ W.cell? ⟨w.heap.size + 1, 1, none⟩ = some (.int .i64 py) ∧ W.cell? ⟨w1.heap.size, 0, none⟩ = some (.func (.func 58) #[] #[]) ∧ W.cell? ⟨w1.heap.size, 1, none⟩ = some (.func (.func 59) #[] #[]) ∧ W.cell? ⟨w2.heap.size, 0, none⟩ = some (.int .i64 b0) ∧ W.cell? ⟨w2.heap.size, 1, none⟩ = some (.int .i64 b1) ∧ W.cell? ⟨w2.heap.size, 2, none⟩ = some (.int .i64 b2) ∧ W.cell? ⟨w2.heap.size, 3, none⟩ = some (.int .i64 b3)) (by kernel_rfl) (by kernel_rfl) ?_ ?_ ?_ | refine wp_region_FCs (fun W => W.cell? ⟨w.heap.size, 0, none⟩ = some (.int .i64 2) ∧ W.cell? ⟨w.heap.size, 1, none⟩ = some (.int .i64 ax) ∧ W.cell? ⟨w.heap.size, 2, none⟩ = some (.int .i64 ay) ∧ W.cell? ⟨w.heap.size, 3, none⟩ = some (.int .i64 bx) ∧ W.cell? ⟨w.heap.size, 4, none⟩ = some (.int .i64 by') ∧ W.cell? ⟨w.heap.size, 5, none⟩ = some (.int .i64 cx) ∧ W.cell? ⟨w.heap.size, 6, none⟩ = some (.int .i64 cy) ∧ W.cell? ⟨w.heap.size + 1, 0, none⟩ = some (.int .i64 px) ∧ W.cell? ⟨w.heap.size + 1, 1, none⟩ = some (.int .i64 py) ∧ W.cell? ⟨w1.heap.size, 0, none⟩ = some (.func (.func 58) #[] #[]) ∧ W.cell? ⟨w1.heap.size, 1, none⟩ = some (.func (.func 59) #[] #[]) ∧ W.cell? ⟨w2.heap.size, 0, none⟩ = some (.int .i64 b0) ∧ W.cell? ⟨w2.heap.size, 1, none⟩ = some (.int .i64 b1) ∧ W.cell? ⟨w2.heap.size, 2, none⟩ = some (.int .i64 b2) ∧ W.cell? ⟨w2.heap.size, 3, none⟩ = some (.int .i64 b3)) ?_ ?_ ?_
    · go_simp
    · (intro W W' h hx hb; have hs := hx.size; (try simp at hs); have hbc : ∀ b o, b < W.heap.size → W'.cell? ⟨b, o, none⟩ = W.cell? ⟨b, o, none⟩ := fun b o h => hb.cell (p := ⟨b, o, none⟩) h; (try dsimp only at h ⊢); simp (disch := omega) only [hbc]; exact h)
    repeat (first | (refine F_skip (by rfl) ?_; simp only [Act.put, List.setIfInBounds_toArray, List.set_cons_zero, List.set_cons_succ]) | (refine F_run (v := ?_) (by rfl) ?_ ?_; rotate_left; (· (intro W hW; (try dsimp only at hW); go_simp; try with_reducible rfl)); simp only [Act.put, List.setIfInBounds_toArray, List.set_cons_zero, List.set_cons_succ]))
    (refine F_call (v := .bool true) (by rfl) (by rfl) ?_ ?_; (· (intro W hW; (try dsimp only at hW); go_simp; refine (O1.out _ (by have := hW.1.size; simp at this; omega) (by go_simp) (by go_simp) (by go_simp) (by go_simp)).mono ?_; rintro e w' ⟨rfl, hx⟩; exact ⟨_, rfl, rfl, hx⟩))); simp only [Act.put, List.setIfInBounds_toArray, List.set_cons_zero, List.set_cons_succ]
    repeat (first | (refine F_skip (by rfl) ?_; simp only [Act.put, List.setIfInBounds_toArray, List.set_cons_zero, List.set_cons_succ]) | (refine F_run (v := ?_) (by rfl) ?_ ?_; rotate_left; (· (intro W hW; (try dsimp only at hW); go_simp; try with_reducible rfl)); simp only [Act.put, List.setIfInBounds_toArray, List.set_cons_zero, List.set_cons_succ]))
    (refine F_call (v := .bool (powerI (px - cx) (py - cy) (ax - cx) (ay - cy) == 0)) (by rfl) (by rfl) ?_ ?_; (· (intro W hW; (try dsimp only at hW); go_simp; refine (ONC.out _).mono ?_; rintro e w' ⟨rfl, hx⟩; exact ⟨_, rfl, rfl, hx⟩))); simp only [Act.put, List.setIfInBounds_toArray, List.set_cons_zero, List.set_cons_succ]
    repeat (first | (refine F_skip (by rfl) ?_; simp only [Act.put, List.setIfInBounds_toArray, List.set_cons_zero, List.set_cons_succ]) | (refine F_run (v := ?_) (by rfl) ?_ ?_; rotate_left; (· (intro W hW; (try dsimp only at hW); go_simp; try with_reducible rfl)); simp only [Act.put, List.setIfInBounds_toArray, List.set_cons_zero, List.set_cons_succ]))
    rintro W ⟨hx, hc⟩
    clear hc
    have hx3 : Ext w W := Ext.step (by (repeat (first | exact Below.refl _ _ | assumption | refine Below.drewN ?_ _ | refine Below.drew ?_ | refine Below.setCell ?_ (by first | exact Nat.le_refl _ | (simp; done) | (simp; omega) | omega) _ | refine Below.alloc ?_ (by first | exact Nat.le_refl _ | (simp; done) | (simp; omega) | omega) _))) hx
    clear hx
    go_wp2
    go_ret
    exact ⟨by rw [RES.out]; rfl, hx3⟩

set_option maxRecDepth 100000 in
set_option maxHeartbeats 4000000 in
theorem edge_On_3 (ax ay bx by' cx cy px py : Int) (w : World) (hok : (Ed.mk 3 ax ay bx by' cx cy).ok = true) :
    Calls Try.prog 18 #[.agg #[.int .i64 3, .int .i64 ax, .int .i64 ay, .int .i64 bx, .int .i64 by', .int .i64 cx, .int .i64 cy], .agg #[.int .i64 px, .int .i64 py]] w fun e w' => e = .returned (.bool (onE (Ed.mk 3 ax ay bx by' cx cy) px py)) ∧ Ext w w' := by
  have OF := fun w => edge_of 3 ax ay bx by' cx cy w
  obtain ⟨⟨hax, hay⟩, ⟨hbx, hby⟩, hcx, hcy⟩ := ok_right hok
  simp only at hax hay hbx hby hcx hcy
  rw [hok, fam3] at OF
  have OF := Lib.hid OF
  have IN := @in_co ax ay bx by' px py hax hay hbx hby
  have ONC := fun (h : Co px ∧ Co py) (w : World) => edge_round 3 ax ay bx by' cx cy px py w hax hay hbx hby hcx hcy h.1 h.2
  have RES : Hid (onE (Ed.mk 3 ax ay bx by' cx cy) px py = (inB (min ax bx) (min ay by') (max ax bx) (max ay by') px py && (powerI (px - cx) (py - cy) (ax - cx) (ay - cy) == 0))) := by
    show onE _ px py = _
    simp [onE, hok]
  have BX := Lib.hid (fun w => edge_Box 3 ax ay bx by' cx cy w)
  clear hok hax hay hbx hby hcx hcy
  obtain ⟨b0, B0⟩ : ∃ b, Hid (min ax bx = b) := ⟨_, rfl⟩
  obtain ⟨b1, B1⟩ : ∃ b, Hid (min ay by' = b) := ⟨_, rfl⟩
  obtain ⟨b2, B2⟩ : ∃ b, Hid (max ax bx = b) := ⟨_, rfl⟩
  obtain ⟨b3, B3⟩ : ∃ b, Hid (max ay by' = b) := ⟨_, rfl⟩
  rw [B0.out, B1.out, B2.out, B3.out] at IN RES BX
  go_enter Try.func18, Try.ntmps18
  go_wp2_with fail
  refine (OF.out _).mono ?_
  rintro e w1 ⟨rfl, hx⟩
  have hx0 : Ext w w1 := Ext.step (by (repeat (first | exact Below.refl _ _ | assumption | refine Below.drewN ?_ _ | refine Below.drew ?_ | refine Below.setCell ?_ (by first | exact Nat.le_refl _ | (simp; done) | (simp; omega) | omega) _ | refine Below.alloc ?_ (by first | exact Nat.le_refl _ | (simp; done) | (simp; omega) | omega) _))) hx
  have hs0 := hx0.size
  have hz_w1 : w.heap.size + 2 ≤ w1.heap.size := Nat.le_trans (by first | omega | (simp; done) | (simp; omega)) hx.size
  have hl_w1_0 : w.heap.size < w1.heap.size := Nat.lt_of_lt_of_le (by omega) hz_w1
  have hk_w1_0 : ∀ o, w1.cell? ⟨w.heap.size, o, none⟩ = _ := fun o => hx.cell (p := ⟨w.heap.size, o, none⟩) (show w.heap.size < _ from (by first | omega | (simp; done) | (simp; omega)))
  have hf_w1_0 : ∀ o, w1.frozen? ⟨w.heap.size, o, none⟩ = _ := fun o => hx.frozen (p := ⟨w.heap.size, o, none⟩) (show w.heap.size < _ from (by first | omega | (simp; done) | (simp; omega)))
  have hl_w1_1 : w.heap.size + 1 < w1.heap.size := Nat.lt_of_lt_of_le (by omega) hz_w1
  have hk_w1_1 : ∀ o, w1.cell? ⟨w.heap.size + 1, o, none⟩ = _ := fun o => hx.cell (p := ⟨w.heap.size + 1, o, none⟩) (show w.heap.size + 1 < _ from (by first | omega | (simp; done) | (simp; omega)))
  have hf_w1_1 : ∀ o, w1.frozen? ⟨w.heap.size + 1, o, none⟩ = _ := fun o => hx.frozen (p := ⟨w.heap.size + 1, o, none⟩) (show w.heap.size + 1 < _ from (by first | omega | (simp; done) | (simp; omega)))
  clear hx
  go_wp2_with fail
  refine (BX.out _).mono ?_
  rintro e w2 ⟨rfl, hx⟩
  have hx2 : Ext w w2 := Ext.step (by (repeat (first | exact Below.refl _ _ | assumption | refine Below.drewN ?_ _ | refine Below.drew ?_ | refine Below.setCell ?_ (by first | exact Nat.le_refl _ | (simp; done) | (simp; omega) | omega) _ | refine Below.alloc ?_ (by first | exact Nat.le_refl _ | (simp; done) | (simp; omega) | omega) _))) hx
  have hs2 := hx.size
  simp at hs2
  have g0 : ∀ o, w2.cell? ⟨w.heap.size, o, none⟩ = _ := fun o => hx.cell (p := ⟨w.heap.size, o, none⟩) (by simp; omega)
  have g1 : ∀ o, w2.cell? ⟨w.heap.size + 1, o, none⟩ = _ := fun o => hx.cell (p := ⟨w.heap.size + 1, o, none⟩) (by simp; omega)
  have g2 : ∀ o, w2.cell? ⟨w1.heap.size, o, none⟩ = _ := fun o => hx.cell (p := ⟨w1.heap.size, o, none⟩) (by simp)
  have h0 : w.heap.size < w2.heap.size := by omega
  have h1 : w.heap.size + 1 < w2.heap.size := by omega
  have h2 : w1.heap.size < w2.heap.size := by omega
  clear hx
  go_upto_region 4 with (fail)
  have O1 := fun (W : World) hB c0 c1 c2 c3 => edge_On1 px py b0 b1 b2 b3 w2.heap.size W hB c0 c1 c2 c3
  cases hin : inB b0 b1 b2 b3 px py with
  | false =>
    rw [hin] at O1 RES
    have O1 := Lib.hid O1
    clear hin IN ONC
    first | refine wp_region_FC (fun W => W.cell? ⟨w.heap.size, 0, none⟩ = some (.int .i64 3) ∧ W.cell? ⟨w.heap.size, 1, none⟩ = some (.int .i64 ax) ∧ W.cell? ⟨w.heap.size, 2, none⟩ = some (.int .i64 ay) ∧ W.cell? ⟨w.heap.size, 3, none⟩ = some (.int .i64 bx) ∧ W.cell? ⟨w.heap.size, 4, none⟩ = some (.int .i64 by') ∧ W.cell? ⟨w.heap.size, 5, none⟩ = some (.int .i64 cx) ∧ W.cell? ⟨w.heap.size, 6, none⟩ = some (.int .i64 cy) ∧ W.cell? ⟨w.heap.size + 1, 0, none⟩ = some (.int .i64 px) ∧ W.cell? ⟨w.heap.size + 1, 1, none⟩ = some (.int .i64 py) ∧ W.cell? ⟨w1.heap.size, 0, none⟩ = some (.func (.func 61) #[] #[]) ∧ W.cell? ⟨w1.heap.size, 1, none⟩ = some (.func (.func 59) #[] #[]) ∧ W.cell? ⟨w2.heap.size, 0, none⟩ = some (.int .i64 b0) ∧ W.cell? ⟨w2.heap.size, 1, none⟩ = some (.int .i64 b1) ∧ W.cell? ⟨w2.heap.size, 2, none⟩ = some (.int .i64 b2) ∧ W.cell? ⟨w2.heap.size, 3, none⟩ = some (.int .i64 b3)) (by kernel_rfl) (by kernel_rfl) ?_ ?_ ?_ | refine wp_region_FCs (fun W => W.cell? ⟨w.heap.size, 0, none⟩ = some (.int .i64 3) ∧ W.cell? ⟨w.heap.size, 1, none⟩ = some (.int .i64 ax) ∧ W.cell? ⟨w.heap.size, 2, none⟩ = some (.int .i64 ay) ∧ W.cell? ⟨w.heap.size, 3, none⟩ = some (.int .i64 bx) ∧ W.cell? ⟨w.heap.size, 4, none⟩ = some (.int .i64 by') ∧ W.cell? ⟨w.heap.size, 5, none⟩ = some (.int .i64 cx) ∧ W.cell? ⟨w.heap.size, 6, none⟩ = some (.int .i64 cy) ∧ W.cell? ⟨w.heap.size + 1, 0, none⟩ = some (.int .i64 px) ∧ W.cell? ⟨w.heap.size + 1, 1, none⟩ = some (.int .i64 py) ∧ W.cell? ⟨w1.heap.size, 0, none⟩ = some (.func (.func 61) #[] #[]) ∧ W.cell? ⟨w1.heap.size, 1, none⟩ = some (.func (.func 59) #[] #[]) ∧ W.cell? ⟨w2.heap.size, 0, none⟩ = some (.int .i64 b0) ∧ W.cell? ⟨w2.heap.size, 1, none⟩ = some (.int .i64 b1) ∧ W.cell? ⟨w2.heap.size, 2, none⟩ = some (.int .i64 b2) ∧ W.cell? ⟨w2.heap.size, 3, none⟩ = some (.int .i64 b3)) ?_ ?_ ?_
    · go_simp
    · (intro W W' h hx hb; have hs := hx.size; (try simp at hs); have hbc : ∀ b o, b < W.heap.size → W'.cell? ⟨b, o, none⟩ = W.cell? ⟨b, o, none⟩ := fun b o h => hb.cell (p := ⟨b, o, none⟩) h; (try dsimp only at h ⊢); simp (disch := omega) only [hbc]; exact h)
    repeat (first | (refine F_skip (by rfl) ?_; simp only [Act.put, List.setIfInBounds_toArray, List.set_cons_zero, List.set_cons_succ]) | (refine F_run (v := ?_) (by rfl) ?_ ?_; rotate_left; (· (intro W hW; (try dsimp only at hW); go_simp; try with_reducible rfl)); simp only [Act.put, List.setIfInBounds_toArray, List.set_cons_zero, List.set_cons_succ]))
    (refine F_call (v := .bool false) (by rfl) (by rfl) ?_ ?_; (· (intro W hW; (try dsimp only at hW); go_simp; refine (O1.out _ (by have := hW.1.size; simp at this; omega) (by go_simp) (by go_simp) (by go_simp) (by go_simp)).mono ?_; rintro e w' ⟨rfl, hx⟩; exact ⟨_, rfl, rfl, hx⟩))); simp only [Act.put, List.setIfInBounds_toArray, List.set_cons_zero, List.set_cons_succ]
    repeat (first | (refine F_skip (by rfl) ?_; simp only [Act.put, List.setIfInBounds_toArray, List.set_cons_zero, List.set_cons_succ]) | (refine F_run (v := ?_) (by rfl) ?_ ?_; rotate_left; (· (intro W hW; (try dsimp only at hW); go_simp; try with_reducible rfl)); simp only [Act.put, List.setIfInBounds_toArray, List.set_cons_zero, List.set_cons_succ]))
    rintro W ⟨hx, hc⟩
    clear hc
    have hx3 : Ext w W := Ext.step (by (repeat (first | exact Below.refl _ _ | assumption | refine Below.drewN ?_ _ | refine Below.drew ?_ | refine Below.setCell ?_ (by first | exact Nat.le_refl _ | (simp; done) | (simp; omega) | omega) _ | refine Below.alloc ?_ (by first | exact Nat.le_refl _ | (simp; done) | (simp; omega) | omega) _))) hx
    clear hx
    go_wp2
    go_ret
    exact ⟨by rw [RES.out]; rfl, hx3⟩
  | true =>
    rw [hin] at O1 RES
    have O1 := Lib.hid O1
    have ONC := Lib.hid (ONC (IN hin))
    clear hin IN
    first | refine wp_region_FC (fun W => W.cell? ⟨w.heap.size, 0, none⟩ = some (.int .i64 3) ∧ W.cell? ⟨w.heap.size, 1, none⟩ = some (.int .i64 ax) ∧ W.cell? ⟨w.heap.size, 2, none⟩ = some (.int .i64 ay) ∧ W.cell? ⟨w.heap.size, 3, none⟩ = some (.int .i64 bx) ∧ W.cell? ⟨w.heap.size, 4, none⟩ = some (.int .i64 by') ∧ W.cell? ⟨w.heap.size, 5, none⟩ = some (.int .i64 cx) ∧ W.cell? ⟨w.heap.size, 6, none⟩ = some (.int .i64 cy) ∧ W.cell? ⟨w.heap.size + 1, 0, none⟩ = some (.int .i64 px) ∧ W.cell? ⟨w.heap.size + 1, 1, none⟩ = some (.int .i64 py) ∧ W.cell? ⟨w1.heap.size, 0, none⟩ = some (.func (.func 61) #[] #[]) ∧ W.cell? ⟨w1.heap.size, 1, none⟩ = some (.func (.func 59) #[] #[]) ∧ W.cell? ⟨w2.heap.size, 0, none⟩ = some (.int .i64 b0) ∧ W.cell? ⟨w2.heap.size, 1, none⟩ = some (.int .i64 b1) ∧ W.cell? ⟨w2.heap.size, 2, none⟩ = some (.int .i64 b2) ∧ W.cell? ⟨w2.heap.size, 3, none⟩ = some (.int .i64 b3)) (by kernel_rfl) (by kernel_rfl) ?_ ?_ ?_ | refine wp_region_FCs (fun W => W.cell? ⟨w.heap.size, 0, none⟩ = some (.int .i64 3) ∧ W.cell? ⟨w.heap.size, 1, none⟩ = some (.int .i64 ax) ∧ W.cell? ⟨w.heap.size, 2, none⟩ = some (.int .i64 ay) ∧ W.cell? ⟨w.heap.size, 3, none⟩ = some (.int .i64 bx) ∧ W.cell? ⟨w.heap.size, 4, none⟩ = some (.int .i64 by') ∧ W.cell? ⟨w.heap.size, 5, none⟩ = some (.int .i64 cx) ∧ W.cell? ⟨w.heap.size, 6, none⟩ = some (.int .i64 cy) ∧ W.cell? ⟨w.heap.size + 1, 0, none⟩ = some (.int .i64 px) ∧ W.cell? ⟨w.heap.size + 1, 1, none⟩ = some (.int .i64 py) ∧ W.cell? ⟨w1.heap.size, 0, none⟩ = some (.func (.func 61) #[] #[]) ∧ W.cell? ⟨w1.heap.size, 1, none⟩ = some (.func (.func 59) #[] #[]) ∧ W.cell? ⟨w2.heap.size, 0, none⟩ = some (.int .i64 b0) ∧ W.cell? ⟨w2.heap.size, 1, none⟩ = some (.int .i64 b1) ∧ W.cell? ⟨w2.heap.size, 2, none⟩ = some (.int .i64 b2) ∧ W.cell? ⟨w2.heap.size, 3, none⟩ = some (.int .i64 b3)) ?_ ?_ ?_
    · go_simp
    · (intro W W' h hx hb; have hs := hx.size; (try simp at hs); have hbc : ∀ b o, b < W.heap.size → W'.cell? ⟨b, o, none⟩ = W.cell? ⟨b, o, none⟩ := fun b o h => hb.cell (p := ⟨b, o, none⟩) h; (try dsimp only at h ⊢); simp (disch := omega) only [hbc]; exact h)
    repeat (first | (refine F_skip (by rfl) ?_; simp only [Act.put, List.setIfInBounds_toArray, List.set_cons_zero, List.set_cons_succ]) | (refine F_run (v := ?_) (by rfl) ?_ ?_; rotate_left; (· (intro W hW; (try dsimp only at hW); go_simp; try with_reducible rfl)); simp only [Act.put, List.setIfInBounds_toArray, List.set_cons_zero, List.set_cons_succ]))
    (refine F_call (v := .bool true) (by rfl) (by rfl) ?_ ?_; (· (intro W hW; (try dsimp only at hW); go_simp; refine (O1.out _ (by have := hW.1.size; simp at this; omega) (by go_simp) (by go_simp) (by go_simp) (by go_simp)).mono ?_; rintro e w' ⟨rfl, hx⟩; exact ⟨_, rfl, rfl, hx⟩))); simp only [Act.put, List.setIfInBounds_toArray, List.set_cons_zero, List.set_cons_succ]
    repeat (first | (refine F_skip (by rfl) ?_; simp only [Act.put, List.setIfInBounds_toArray, List.set_cons_zero, List.set_cons_succ]) | (refine F_run (v := ?_) (by rfl) ?_ ?_; rotate_left; (· (intro W hW; (try dsimp only at hW); go_simp; try with_reducible rfl)); simp only [Act.put, List.setIfInBounds_toArray, List.set_cons_zero, List.set_cons_succ]))
    (refine F_call (v := .bool (powerI (px - cx) (py - cy) (ax - cx) (ay - cy) == 0)) (by rfl) (by rfl) ?_ ?_; (· (intro W hW; (try dsimp only at hW); go_simp; refine (ONC.out _).mono ?_; rintro e w' ⟨rfl, hx⟩; exact ⟨_, rfl, rfl, hx⟩))); simp only [Act.put, List.setIfInBounds_toArray, List.set_cons_zero, List.set_cons_succ]
    repeat (first | (refine F_skip (by rfl) ?_; simp only [Act.put, List.setIfInBounds_toArray, List.set_cons_zero, List.set_cons_succ]) | (refine F_run (v := ?_) (by rfl) ?_ ?_; rotate_left; (· (intro W hW; (try dsimp only at hW); go_simp; try with_reducible rfl)); simp only [Act.put, List.setIfInBounds_toArray, List.set_cons_zero, List.set_cons_succ]))
    rintro W ⟨hx, hc⟩
    clear hc
    have hx3 : Ext w W := Ext.step (by (repeat (first | exact Below.refl _ _ | assumption | refine Below.drewN ?_ _ | refine Below.drew ?_ | refine Below.setCell ?_ (by first | exact Nat.le_refl _ | (simp; done) | (simp; omega) | omega) _ | refine Below.alloc ?_ (by first | exact Nat.le_refl _ | (simp; done) | (simp; omega) | omega) _))) hx
    clear hx
    go_wp2
    go_ret
    exact ⟨by rw [RES.out]; rfl, hx3⟩

theorem edge_On (k ax ay bx by' cx cy : Int) (px py : Int) (w : World) :
    Calls Try.prog 18 #[.agg #[.int .i64 k, .int .i64 ax, .int .i64 ay, .int .i64 bx, .int .i64 by', .int .i64 cx, .int .i64 cy], .agg #[.int .i64 px, .int .i64 py]] w fun e w' => e = .returned (.bool (onE (Ed.mk k ax ay bx by' cx cy) px py)) ∧ Ext w w' := by
  cases hok : (Ed.mk k ax ay bx by' cx cy).ok
  · rw [onE_bad hok]; exact edge_On_bad k ax ay bx by' cx cy px py w hok
  by_cases k1 : k = 1
  · subst k1; exact edge_On_1 ax ay bx by' cx cy px py w hok
  by_cases k2 : k = 2
  · subst k2; exact edge_On_2 ax ay bx by' cx cy px py w hok
  by_cases k3 : k = 3
  · subst k3; exact edge_On_3 ax ay bx by' cx cy px py w hok
  · simp [Ed.ok, k1, k2, k3] at hok
end Go.Proofs.Ytmmhiiiaccldmaa
