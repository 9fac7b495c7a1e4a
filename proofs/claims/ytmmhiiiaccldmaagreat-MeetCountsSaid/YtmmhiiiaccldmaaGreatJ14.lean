/- Contracts: edge.On. | Contract: meet.figured. -/
import Derived.Test.YtmmhiiiaccldmaaGreatJ13
import Derived.Test.YtmmhiiiaccldmaaGreatJ09
set_option linter.unusedVariables false
set_option linter.unusedSimpArgs false

namespace Go.Proofs.YtmmhiiiaccldmaaGreat
open Go.RowKit
attribute [local go_sem] Gives givesU

def inB (x0 y0 x1 y1 px py : Int) : Bool := decide (x0 ≤ px) && (decide (px ≤ x1) && (decide (y0 ≤ py) && decide (py ≤ y1)))
/-- Whether a point lies on an edge. -/
def onE (e : Ed) (px py : Int) : Bool :=
  e.ok && (inB (min e.ax e.bx) (min e.ay e.by') (max e.ax e.bx) (max e.ay e.by') px py && (if e.k = 1 then sideI ((e.bx - e.ax) * (py - e.ay) - (e.by' - e.ay) * (px - e.ax)) == 0 else powerI (px - e.cx) (py - e.cy) (e.ax - e.cx) (e.ay - e.cy) == 0))

set_option maxRecDepth 100000 in
set_option maxHeartbeats 2000000 in
theorem edge_On1 (px py x0 y0 x1 y1 : Int) (B : Nat) (w : World) (hB : B < w.heap.size) (c0 : w.cell? ⟨B, 0, none⟩ = some (.int .i64 x0)) (c1 : w.cell? ⟨B, 1, none⟩ = some (.int .i64 y0)) (c2 : w.cell? ⟨B, 2, none⟩ = some (.int .i64 x1)) (c3 : w.cell? ⟨B, 3, none⟩ = some (.int .i64 y1)) :
    Calls Tryz.prog 37 #[.agg #[.int .i64 px, .int .i64 py], .pointer (some ⟨B, 0, none⟩)] w fun e w' => e = .returned (.bool (inB x0 y0 x1 y1 px py)) ∧ Ext w w' := by
  go_enter Tryz.func37, Tryz.ntmps37
  go_wp2
  all_goals
    go_ret
    exact ⟨ret_bool (Bool.eq_iff_iff.2 (by simp [inB]; omega)), bxx⟩

theorem onE_bad {e : Ed} {px py : Int} (h : e.ok = false) : onE e px py = false := by simp [onE, h]

set_option maxRecDepth 100000 in
set_option maxHeartbeats 2000000 in
theorem edge_On_bad (k ax ay bx by' cx cy : Int) (px py : Int) (w : World) (hok : (Ed.mk k ax ay bx by' cx cy).ok = false) :
    Calls Tryz.prog 19 #[.agg #[.int .i64 k, .int .i64 ax, .int .i64 ay, .int .i64 bx, .int .i64 by', .int .i64 cx, .int .i64 cy], .agg #[.int .i64 px, .int .i64 py]] w fun e w' => e = .returned (.bool false) ∧ Ext w w' := by
  have OF := fun w => edge_of k ax ay bx by' cx cy w
  rw [hok] at OF
  clear hok
  rcases fam_cases k with ⟨f, g, h', e⟩ | e
  all_goals
    rw [e] at OF
    have OF := Lib.hid OF
    clear e
    go_enter Tryz.func19, Tryz.ntmps19
    go_wp2_with fail
    refine (OF.out _).mono ?_
    rintro e w1 ⟨rfl, hx⟩
    have hx0 : Ext w w1 := Ext.step bxx hx
    have hs0 := hx0.size
    have hz_w1 : w.heap.size + 2 ≤ w1.heap.size := Nat.le_trans omm hx.size
    obtain ⟨hl_w1_0, hk_w1_0, hf_w1_0⟩ := extK hx (w.heap.size)
    obtain ⟨hl_w1_1, hk_w1_1, hf_w1_1⟩ := extK hx (w.heap.size + 1)
    clear hx
    go_wp2_with fail
    refine (edge_Box _ _ _ _ _ _ _ _).mono ?_
    rintro e w2 ⟨rfl, hx⟩
    have hx2 : Ext w w2 := Ext.step bxx hx
    have hs2 := hx2.size
    clear hx
    go_wp2
    go_ret
    exact ⟨rfl, bxx⟩
theorem in_co {ax ay bx by' px py : Int} (hax : Co ax) (hay : Co ay) (hbx : Co bx) (hby : Co by') (h : inB (min ax bx) (min ay by') (max ax bx) (max ay by') px py = true) : Co px ∧ Co py := by
  simp only [inB, Bool.and_eq_true, decide_eq_true_eq] at h
  unfold Co at *
  omega
set_option maxRecDepth 100000 in
set_option maxHeartbeats 4000000 in
theorem edge_On_1 (ax ay bx by' cx cy px py : Int) (w : World) (hok : (Ed.mk 1 ax ay bx by' cx cy).ok = true) :
    Calls Tryz.prog 19 #[.agg #[.int .i64 1, .int .i64 ax, .int .i64 ay, .int .i64 bx, .int .i64 by', .int .i64 cx, .int .i64 cy], .agg #[.int .i64 px, .int .i64 py]] w fun e w' => e = .returned (.bool (onE (Ed.mk 1 ax ay bx by' cx cy) px py)) ∧ Ext w w' := by
  have OF := fun w => edge_of 1 ax ay bx by' cx cy w
  obtain ⟨⟨hax, hay⟩, ⟨hbx, hby⟩, hcx, hcy⟩ := ok_right hok
  simp only at hax hay hbx hby hcx hcy
  rw [hok, fam1] at OF
  have OF := Lib.hid OF
  have IN := @in_co ax ay bx by' px py hax hay hbx hby
  have ONC := fun (h : Co px ∧ Co py) (w : World) => edge_straight 1 ax ay bx by' cx cy px py w hax hay hbx hby hcx hcy h.1 h.2
  have RES : Hid (onE (Ed.mk 1 ax ay bx by' cx cy) px py = (inB (min ax bx) (min ay by') (max ax bx) (max ay by') px py && (sideI ((bx - ax) * (py - ay) - (by' - ay) * (px - ax)) == 0))) := by
    show onE _ px py = _
    simp [onE, hok]
  have BX := Lib.hid (fun w => edge_Box 1 ax ay bx by' cx cy w)
  clear hok hax hay hbx hby hcx hcy
  obtain ⟨b0, B0⟩ : ∃ b, Hid (min ax bx = b) := ⟨_, rfl⟩
  obtain ⟨b1, B1⟩ : ∃ b, Hid (min ay by' = b) := ⟨_, rfl⟩
  obtain ⟨b2, B2⟩ : ∃ b, Hid (max ax bx = b) := ⟨_, rfl⟩
  obtain ⟨b3, B3⟩ : ∃ b, Hid (max ay by' = b) := ⟨_, rfl⟩
  rw [B0.out, B1.out, B2.out, B3.out] at IN RES BX
  go_enter Tryz.func19, Tryz.ntmps19
  go_wp2_with fail
  refine (OF.out _).mono ?_
  rintro e w1 ⟨rfl, hx⟩
  have hx0 : Ext w w1 := Ext.step bxx hx
  have hs0 := hx0.size
  have hz_w1 : w.heap.size + 2 ≤ w1.heap.size := Nat.le_trans omm hx.size
  obtain ⟨hl_w1_0, hk_w1_0, hf_w1_0⟩ := extK hx (w.heap.size)
  obtain ⟨hl_w1_1, hk_w1_1, hf_w1_1⟩ := extK hx (w.heap.size + 1)
  clear hx
  go_wp2_with fail
  refine (BX.out _).mono ?_
  rintro e w2 ⟨rfl, hx⟩
  have hx2 : Ext w w2 := Ext.step bxx hx
  have hs2 := hx.size
  simp at hs2
  have g0 : ∀ o, w2.cell? ⟨w.heap.size, o, none⟩ = _ := fun o => hx.cell (p := ⟨w.heap.size, o, none⟩) (by simp; omega)
  have g1 : ∀ o, w2.cell? ⟨w.heap.size + 1, o, none⟩ = _ := fun o => hx.cell (p := ⟨w.heap.size + 1, o, none⟩) (by simp; omega)
  have g2 : ∀ o, w2.cell? ⟨w1.heap.size, o, none⟩ = _ := fun o => hx.cell (p := ⟨w1.heap.size, o, none⟩) (by simp)
  have h0 : w.heap.size < w2.heap.size := by omega
  have h1 : w.heap.size + 1 < w2.heap.size := by omega
  have h2 : w1.heap.size < w2.heap.size := by omega
  clear hx
  go_upto_region 4 with (fail)
  have O1 := fun (W : World) hB c0 c1 c2 c3 => edge_On1 px py b0 b1 b2 b3 w2.heap.size W hB c0 c1 c2 c3
  cases hin : inB b0 b1 b2 b3 px py with
  | false =>
    rw [hin] at O1 RES
    have O1 := Lib.hid O1
    clear hin IN ONC
    refine wp_FS (fun W => W.cell? ⟨w.heap.size, 0, none⟩ = some (.int .i64 1) ∧ W.cell? ⟨w.heap.size, 1, none⟩ = some (.int .i64 ax) ∧ W.cell? ⟨w.heap.size, 2, none⟩ = some (.int .i64 ay) ∧ W.cell? ⟨w.heap.size, 3, none⟩ = some (.int .i64 bx) ∧ W.cell? ⟨w.heap.size, 4, none⟩ = some (.int .i64 by') ∧ W.cell? ⟨w.heap.size, 5, none⟩ = some (.int .i64 cx) ∧ W.cell? ⟨w.heap.size, 6, none⟩ = some (.int .i64 cy) ∧ W.cell? ⟨w.heap.size + 1, 0, none⟩ = some (.int .i64 px) ∧ W.cell? ⟨w.heap.size + 1, 1, none⟩ = some (.int .i64 py) ∧ W.cell? ⟨w1.heap.size, 0, none⟩ = some (.func (.func 72) #[] #[]) ∧ W.cell? ⟨w1.heap.size, 1, none⟩ = some (.func (.func 73) #[] #[]) ∧ W.cell? ⟨w2.heap.size, 0, none⟩ = some (.int .i64 b0) ∧ W.cell? ⟨w2.heap.size, 1, none⟩ = some (.int .i64 b1) ∧ W.cell? ⟨w2.heap.size, 2, none⟩ = some (.int .i64 b2) ∧ W.cell? ⟨w2.heap.size, 3, none⟩ = some (.int .i64 b3)) ?_
    repeat (first | refine F_s ?_ | refine F_r ?_)
    (refine F_call (v := .bool false) (by rfl) (by rfl) ?_ ?_; (· (intro W hW; (try dsimp only at hW); go_simp; refine (O1.out _ (by have := hW.1.size; simp at this; omega) (by go_simp) (by go_simp) (by go_simp) (by go_simp)).mono ?_; rintro e w' ⟨rfl, hx⟩; exact ⟨_, rfl, rfl, hx⟩))); refine F_put ?_
    repeat (first | refine F_s ?_ | refine F_r ?_)
    rintro W ⟨hx, hc⟩
    clear hc
    have hx3 : Ext w W := Ext.step bxx hx
    clear hx
    go_wp2
    go_ret
    exact ⟨by rw [RES.out]; rfl, hx3⟩
  | true =>
    rw [hin] at O1 RES
    have O1 := Lib.hid O1
    have ONC := Lib.hid (ONC (IN hin))
    clear hin IN
    refine wp_FS (fun W => W.cell? ⟨w.heap.size, 0, none⟩ = some (.int .i64 1) ∧ W.cell? ⟨w.heap.size, 1, none⟩ = some (.int .i64 ax) ∧ W.cell? ⟨w.heap.size, 2, none⟩ = some (.int .i64 ay) ∧ W.cell? ⟨w.heap.size, 3, none⟩ = some (.int .i64 bx) ∧ W.cell? ⟨w.heap.size, 4, none⟩ = some (.int .i64 by') ∧ W.cell? ⟨w.heap.size, 5, none⟩ = some (.int .i64 cx) ∧ W.cell? ⟨w.heap.size, 6, none⟩ = some (.int .i64 cy) ∧ W.cell? ⟨w.heap.size + 1, 0, none⟩ = some (.int .i64 px) ∧ W.cell? ⟨w.heap.size + 1, 1, none⟩ = some (.int .i64 py) ∧ W.cell? ⟨w1.heap.size, 0, none⟩ = some (.func (.func 72) #[] #[]) ∧ W.cell? ⟨w1.heap.size, 1, none⟩ = some (.func (.func 73) #[] #[]) ∧ W.cell? ⟨w2.heap.size, 0, none⟩ = some (.int .i64 b0) ∧ W.cell? ⟨w2.heap.size, 1, none⟩ = some (.int .i64 b1) ∧ W.cell? ⟨w2.heap.size, 2, none⟩ = some (.int .i64 b2) ∧ W.cell? ⟨w2.heap.size, 3, none⟩ = some (.int .i64 b3)) ?_
    repeat (first | refine F_s ?_ | refine F_r ?_)
    (refine F_call (v := .bool true) (by rfl) (by rfl) ?_ ?_; (· (intro W hW; (try dsimp only at hW); go_simp; refine (O1.out _ (by have := hW.1.size; simp at this; omega) (by go_simp) (by go_simp) (by go_simp) (by go_simp)).mono ?_; rintro e w' ⟨rfl, hx⟩; exact ⟨_, rfl, rfl, hx⟩))); refine F_put ?_
    repeat (first | refine F_s ?_ | refine F_r ?_)
    (refine F_call (v := .bool (sideI ((bx - ax) * (py - ay) - (by' - ay) * (px - ax)) == 0)) (by rfl) (by rfl) ?_ ?_; (· (intro W hW; (try dsimp only at hW); go_simp; refine (ONC.out _).mono ?_; rintro e w' ⟨rfl, hx⟩; exact ⟨_, rfl, rfl, hx⟩))); refine F_put ?_
    repeat (first | refine F_s ?_ | refine F_r ?_)
    rintro W ⟨hx, hc⟩
    clear hc
    have hx3 : Ext w W := Ext.step bxx hx
    clear hx
    go_wp2
    go_ret
    exact ⟨by rw [RES.out]; rfl, hx3⟩

set_option maxRecDepth 100000 in
set_option maxHeartbeats 4000000 in
theorem edge_On_2 (ax ay bx by' cx cy px py : Int) (w : World) (hok : (Ed.mk 2 ax ay bx by' cx cy).ok = true) :
    Calls Tryz.prog 19 #[.agg #[.int .i64 2, .int .i64 ax, .int .i64 ay, .int .i64 bx, .int .i64 by', .int .i64 cx, .int .i64 cy], .agg #[.int .i64 px, .int .i64 py]] w fun e w' => e = .returned (.bool (onE (Ed.mk 2 ax ay bx by' cx cy) px py)) ∧ Ext w w' := by
  have OF := fun w => edge_of 2 ax ay bx by' cx cy w
  obtain ⟨⟨hax, hay⟩, ⟨hbx, hby⟩, hcx, hcy⟩ := ok_right hok
  simp only at hax hay hbx hby hcx hcy
  rw [hok, fam2] at OF
  have OF := Lib.hid OF
  have IN := @in_co ax ay bx by' px py hax hay hbx hby
  have ONC := fun (h : Co px ∧ Co py) (w : World) => edge_round 2 ax ay bx by' cx cy px py w hax hay hbx hby hcx hcy h.1 h.2
  have RES : Hid (onE (Ed.mk 2 ax ay bx by' cx cy) px py = (inB (min ax bx) (min ay by') (max ax bx) (max ay by') px py && (powerI (px - cx) (py - cy) (ax - cx) (ay - cy) == 0))) := by
    show onE _ px py = _
    simp [onE, hok]
  have BX := Lib.hid (fun w => edge_Box 2 ax ay bx by' cx cy w)
  clear hok hax hay hbx hby hcx hcy
  obtain ⟨b0, B0⟩ : ∃ b, Hid (min ax bx = b) := ⟨_, rfl⟩
  obtain ⟨b1, B1⟩ : ∃ b, Hid (min ay by' = b) := ⟨_, rfl⟩
  obtain ⟨b2, B2⟩ : ∃ b, Hid (max ax bx = b) := ⟨_, rfl⟩
  obtain ⟨b3, B3⟩ : ∃ b, Hid (max ay by' = b) := ⟨_, rfl⟩
  rw [B0.out, B1.out, B2.out, B3.out] at IN RES BX
  go_enter Tryz.func19, Tryz.ntmps19
  go_wp2_with fail
  refine (OF.out _).mono ?_
  rintro e w1 ⟨rfl, hx⟩
  have hx0 : Ext w w1 := Ext.step bxx hx
  have hs0 := hx0.size
  have hz_w1 : w.heap.size + 2 ≤ w1.heap.size := Nat.le_trans omm hx.size
  obtain ⟨hl_w1_0, hk_w1_0, hf_w1_0⟩ := extK hx (w.heap.size)
  obtain ⟨hl_w1_1, hk_w1_1, hf_w1_1⟩ := extK hx (w.heap.size + 1)
  clear hx
  go_wp2_with fail
  refine (BX.out _).mono ?_
  rintro e w2 ⟨rfl, hx⟩
  have hx2 : Ext w w2 := Ext.step bxx hx
  have hs2 := hx.size
  simp at hs2
  have g0 : ∀ o, w2.cell? ⟨w.heap.size, o, none⟩ = _ := fun o => hx.cell (p := ⟨w.heap.size, o, none⟩) (by simp; omega)
  have g1 : ∀ o, w2.cell? ⟨w.heap.size + 1, o, none⟩ = _ := fun o => hx.cell (p := ⟨w.heap.size + 1, o, none⟩) (by simp; omega)
  have g2 : ∀ o, w2.cell? ⟨w1.heap.size, o, none⟩ = _ := fun o => hx.cell (p := ⟨w1.heap.size, o, none⟩) (by simp)
  have h0 : w.heap.size < w2.heap.size := by omega
  have h1 : w.heap.size + 1 < w2.heap.size := by omega
  have h2 : w1.heap.size < w2.heap.size := by omega
  clear hx
  go_upto_region 4 with (fail)
  have O1 := fun (W : World) hB c0 c1 c2 c3 => edge_On1 px py b0 b1 b2 b3 w2.heap.size W hB c0 c1 c2 c3
  cases hin : inB b0 b1 b2 b3 px py with
  | false =>
    rw [hin] at O1 RES
    have O1 := Lib.hid O1
    clear hin IN ONC
    refine wp_FS (fun W => W.cell? ⟨w.heap.size, 0, none⟩ = some (.int .i64 2) ∧ W.cell? ⟨w.heap.size, 1, none⟩ = some (.int .i64 ax) ∧ W.cell? ⟨w.heap.size, 2, none⟩ = some (.int .i64 ay) ∧ W.cell? ⟨w.heap.size, 3, none⟩ = some (.int .i64 bx) ∧ W.cell? ⟨w.heap.size, 4, none⟩ = some (.int .i64 by') ∧ W.cell? ⟨w.heap.size, 5, none⟩ = some (.int .i64 cx) ∧ W.cell? ⟨w.heap.size, 6, none⟩ = some (.int .i64 cy) ∧ W.cell? ⟨w.heap.size + 1, 0, none⟩ = some (.int .i64 px) ∧ W.cell? ⟨w.heap.size + 1, 1, none⟩ = some (.int .i64 py) ∧ W.cell? ⟨w1.heap.size, 0, none⟩ = some (.func (.func 75) #[] #[]) ∧ W.cell? ⟨w1.heap.size, 1, none⟩ = some (.func (.func 76) #[] #[]) ∧ W.cell? ⟨w2.heap.size, 0, none⟩ = some (.int .i64 b0) ∧ W.cell? ⟨w2.heap.size, 1, none⟩ = some (.int .i64 b1) ∧ W.cell? ⟨w2.heap.size, 2, none⟩ = some (.int .i64 b2) ∧ W.cell? ⟨w2.heap.size, 3, none⟩ = some (.int .i64 b3)) ?_
    repeat (first | refine F_s ?_ | refine F_r ?_)
    (refine F_call (v := .bool false) (by rfl) (by rfl) ?_ ?_; (· (intro W hW; (try dsimp only at hW); go_simp; refine (O1.out _ (by have := hW.1.size; simp at this; omega) (by go_simp) (by go_simp) (by go_simp) (by go_simp)).mono ?_; rintro e w' ⟨rfl, hx⟩; exact ⟨_, rfl, rfl, hx⟩))); refine F_put ?_
    repeat (first | refine F_s ?_ | refine F_r ?_)
    rintro W ⟨hx, hc⟩
    clear hc
    have hx3 : Ext w W := Ext.step bxx hx
    clear hx
    go_wp2
    go_ret
    exact ⟨by rw [RES.out]; rfl, hx3⟩
  | true =>
    rw [hin] at O1 RES
    have O1 := Lib.hid O1
    have ONC := Lib.hid (ONC (IN hin))
    clear hin IN
    refine wp_FS (fun W => W.cell? ⟨w.heap.size, 0, none⟩ = some (.int .i64 2) ∧ W.cell? ⟨w.heap.size, 1, none⟩ = some (.int .i64 ax) ∧ W.cell? ⟨w.heap.size, 2, none⟩ = some (.int .i64 ay) ∧ W.cell? ⟨w.heap.size, 3, none⟩ = some (.int .i64 bx) ∧ W.cell? ⟨w.heap.size, 4, none⟩ = some (.int .i64 by') ∧ W.cell? ⟨w.heap.size, 5, none⟩ = some (.int .i64 cx) ∧ W.cell? ⟨w.heap.size, 6, none⟩ = some (.int .i64 cy) ∧ W.cell? ⟨w.heap.size + 1, 0, none⟩ = some (.int .i64 px) ∧ W.cell? ⟨w.heap.size + 1, 1, none⟩ = some (.int .i64 py) ∧ W.cell? ⟨w1.heap.size, 0, none⟩ = some (.func (.func 75) #[] #[]) ∧ W.cell? ⟨w1.heap.size, 1, none⟩ = some (.func (.func 76) #[] #[]) ∧ W.cell? ⟨w2.heap.size, 0, none⟩ = some (.int .i64 b0) ∧ W.cell? ⟨w2.heap.size, 1, none⟩ = some (.int .i64 b1) ∧ W.cell? ⟨w2.heap.size, 2, none⟩ = some (.int .i64 b2) ∧ W.cell? ⟨w2.heap.size, 3, none⟩ = some (.int .i64 b3)) ?_
    repeat (first | refine F_s ?_ | refine F_r ?_)
    (refine F_call (v := .bool true) (by rfl) (by rfl) ?_ ?_; (· (intro W hW; (try dsimp only at hW); go_simp; refine (O1.out _ (by have := hW.1.size; simp at this; omega) (by go_simp) (by go_simp) (by go_simp) (by go_simp)).mono ?_; rintro e w' ⟨rfl, hx⟩; exact ⟨_, rfl, rfl, hx⟩))); refine F_put ?_
    repeat (first | refine F_s ?_ | refine F_r ?_)
    (refine F_call (v := .bool (powerI (px - cx) (py - cy) (ax - cx) (ay - cy) == 0)) (by rfl) (by rfl) ?_ ?_; (· (intro W hW; (try dsimp only at hW); go_simp; refine (ONC.out _).mono ?_; rintro e w' ⟨rfl, hx⟩; exact ⟨_, rfl, rfl, hx⟩))); refine F_put ?_
    repeat (first | refine F_s ?_ | refine F_r ?_)
    rintro W ⟨hx, hc⟩
    clear hc
    have hx3 : Ext w W := Ext.step bxx hx
    clear hx
    go_wp2
    go_ret
    exact ⟨by rw [RES.out]; rfl, hx3⟩

set_option maxRecDepth 100000 in
set_option maxHeartbeats 4000000 in
theorem edge_On_3 (ax ay bx by' cx cy px py : Int) (w : World) (hok : (Ed.mk 3 ax ay bx by' cx cy).ok = true) :
    Calls Tryz.prog 19 #[.agg #[.int .i64 3, .int .i64 ax, .int .i64 ay, .int .i64 bx, .int .i64 by', .int .i64 cx, .int .i64 cy], .agg #[.int .i64 px, .int .i64 py]] w fun e w' => e = .returned (.bool (onE (Ed.mk 3 ax ay bx by' cx cy) px py)) ∧ Ext w w' := by
  have OF := fun w => edge_of 3 ax ay bx by' cx cy w
  obtain ⟨⟨hax, hay⟩, ⟨hbx, hby⟩, hcx, hcy⟩ := ok_right hok
  simp only at hax hay hbx hby hcx hcy
  rw [hok, fam3] at OF
  have OF := Lib.hid OF
  have IN := @in_co ax ay bx by' px py hax hay hbx hby
  have ONC := fun (h : Co px ∧ Co py) (w : World) => edge_round 3 ax ay bx by' cx cy px py w hax hay hbx hby hcx hcy h.1 h.2
  have RES : Hid (onE (Ed.mk 3 ax ay bx by' cx cy) px py = (inB (min ax bx) (min ay by') (max ax bx) (max ay by') px py && (powerI (px - cx) (py - cy) (ax - cx) (ay - cy) == 0))) := by
    show onE _ px py = _
    simp [onE, hok]
  have BX := Lib.hid (fun w => edge_Box 3 ax ay bx by' cx cy w)
  clear hok hax hay hbx hby hcx hcy
  obtain ⟨b0, B0⟩ : ∃ b, Hid (min ax bx = b) := ⟨_, rfl⟩
  obtain ⟨b1, B1⟩ : ∃ b, Hid (min ay by' = b) := ⟨_, rfl⟩
  obtain ⟨b2, B2⟩ : ∃ b, Hid (max ax bx = b) := ⟨_, rfl⟩
  obtain ⟨b3, B3⟩ : ∃ b, Hid (max ay by' = b) := ⟨_, rfl⟩
  rw [B0.out, B1.out, B2.out, B3.out] at IN RES BX
  go_enter Tryz.func19, Tryz.ntmps19
  go_wp2_with fail
  refine (OF.out _).mono ?_
  rintro e w1 ⟨rfl, hx⟩
  have hx0 : Ext w w1 := Ext.step bxx hx
  have hs0 := hx0.size
  have hz_w1 : w.heap.size + 2 ≤ w1.heap.size := Nat.le_trans omm hx.size
  obtain ⟨hl_w1_0, hk_w1_0, hf_w1_0⟩ := extK hx (w.heap.size)
  obtain ⟨hl_w1_1, hk_w1_1, hf_w1_1⟩ := extK hx (w.heap.size + 1)
  clear hx
  go_wp2_with fail
  refine (BX.out _).mono ?_
  rintro e w2 ⟨rfl, hx⟩
  have hx2 : Ext w w2 := Ext.step bxx hx
  have hs2 := hx.size
  simp at hs2
  have g0 : ∀ o, w2.cell? ⟨w.heap.size, o, none⟩ = _ := fun o => hx.cell (p := ⟨w.heap.size, o, none⟩) (by simp; omega)
  have g1 : ∀ o, w2.cell? ⟨w.heap.size + 1, o, none⟩ = _ := fun o => hx.cell (p := ⟨w.heap.size + 1, o, none⟩) (by simp; omega)
  have g2 : ∀ o, w2.cell? ⟨w1.heap.size, o, none⟩ = _ := fun o => hx.cell (p := ⟨w1.heap.size, o, none⟩) (by simp)
  have h0 : w.heap.size < w2.heap.size := by omega
  have h1 : w.heap.size + 1 < w2.heap.size := by omega
  have h2 : w1.heap.size < w2.heap.size := by omega
  clear hx
  go_upto_region 4 with (fail)
  have O1 := fun (W : World) hB c0 c1 c2 c3 => edge_On1 px py b0 b1 b2 b3 w2.heap.size W hB c0 c1 c2 c3
  cases hin : inB b0 b1 b2 b3 px py with
  | false =>
    rw [hin] at O1 RES
    have O1 := Lib.hid O1
    clear hin IN ONC
    refine wp_FS (fun W => W.cell? ⟨w.heap.size, 0, none⟩ = some (.int .i64 3) ∧ W.cell? ⟨w.heap.size, 1, none⟩ = some (.int .i64 ax) ∧ W.cell? ⟨w.heap.size, 2, none⟩ = some (.int .i64 ay) ∧ W.cell? ⟨w.heap.size, 3, none⟩ = some (.int .i64 bx) ∧ W.cell? ⟨w.heap.size, 4, none⟩ = some (.int .i64 by') ∧ W.cell? ⟨w.heap.size, 5, none⟩ = some (.int .i64 cx) ∧ W.cell? ⟨w.heap.size, 6, none⟩ = some (.int .i64 cy) ∧ W.cell? ⟨w.heap.size + 1, 0, none⟩ = some (.int .i64 px) ∧ W.cell? ⟨w.heap.size + 1, 1, none⟩ = some (.int .i64 py) ∧ W.cell? ⟨w1.heap.size, 0, none⟩ = some (.func (.func 78) #[] #[]) ∧ W.cell? ⟨w1.heap.size, 1, none⟩ = some (.func (.func 76) #[] #[]) ∧ W.cell? ⟨w2.heap.size, 0, none⟩ = some (.int .i64 b0) ∧ W.cell? ⟨w2.heap.size, 1, none⟩ = some (.int .i64 b1) ∧ W.cell? ⟨w2.heap.size, 2, none⟩ = some (.int .i64 b2) ∧ W.cell? ⟨w2.heap.size, 3, none⟩ = some (.int .i64 b3)) ?_
    repeat (first | refine F_s ?_ | refine F_r ?_)
    (refine F_call (v := .bool false) (by rfl) (by rfl) ?_ ?_; (· (intro W hW; (try dsimp only at hW); go_simp; refine (O1.out _ (by have := hW.1.size; simp at this; omega) (by go_simp) (by go_simp) (by go_simp) (by go_simp)).mono ?_; rintro e w' ⟨rfl, hx⟩; exact ⟨_, rfl, rfl, hx⟩))); refine F_put ?_
    repeat (first | refine F_s ?_ | refine F_r ?_)
    rintro W ⟨hx, hc⟩
    clear hc
    have hx3 : Ext w W := Ext.step bxx hx
    clear hx
    go_wp2
    go_ret
    exact ⟨by rw [RES.out]; rfl, hx3⟩
  | true =>
    rw [hin] at O1 RES
    have O1 := Lib.hid O1
    have ONC := Lib.hid (ONC (IN hin))
    clear hin IN
    refine wp_FS (fun W => W.cell? ⟨w.heap.size, 0, none⟩ = some (.int .i64 3) ∧ W.cell? ⟨w.heap.size, 1, none⟩ = some (.int .i64 ax) ∧ W.cell? ⟨w.heap.size, 2, none⟩ = some (.int .i64 ay) ∧ W.cell? ⟨w.heap.size, 3, none⟩ = some (.int .i64 bx) ∧ W.cell? ⟨w.heap.size, 4, none⟩ = some (.int .i64 by') ∧ W.cell? ⟨w.heap.size, 5, none⟩ = some (.int .i64 cx) ∧ W.cell? ⟨w.heap.size, 6, none⟩ = some (.int .i64 cy) ∧ W.cell? ⟨w.heap.size + 1, 0, none⟩ = some (.int .i64 px) ∧ W.cell? ⟨w.heap.size + 1, 1, none⟩ = some (.int .i64 py) ∧ W.cell? ⟨w1.heap.size, 0, none⟩ = some (.func (.func 78) #[] #[]) ∧ W.cell? ⟨w1.heap.size, 1, none⟩ = some (.func (.func 76) #[] #[]) ∧ W.cell? ⟨w2.heap.size, 0, none⟩ = some (.int .i64 b0) ∧ W.cell? ⟨w2.heap.size, 1, none⟩ = some (.int .i64 b1) ∧ W.cell? ⟨w2.heap.size, 2, none⟩ = some (.int .i64 b2) ∧ W.cell? ⟨w2.heap.size, 3, none⟩ = some (.int .i64 b3)) ?_
    repeat (first | refine F_s ?_ | refine F_r ?_)
    (refine F_call (v := .bool true) (by rfl) (by rfl) ?_ ?_; (· (intro W hW; (try dsimp only at hW); go_simp; refine (O1.out _ (by have := hW.1.size; simp at this; omega) (by go_simp) (by go_simp) (by go_simp) (by go_simp)).mono ?_; rintro e w' ⟨rfl, hx⟩; exact ⟨_, rfl, rfl, hx⟩))); refine F_put ?_
    repeat (first | refine F_s ?_ | refine F_r ?_)
    (refine F_call (v := .bool (powerI (px - cx) (py - cy) (ax - cx) (ay - cy) == 0)) (by rfl) (by rfl) ?_ ?_; (· (intro W hW; (try dsimp only at hW); go_simp; refine (ONC.out _).mono ?_; rintro e w' ⟨rfl, hx⟩; exact ⟨_, rfl, rfl, hx⟩))); refine F_put ?_
    repeat (first | refine F_s ?_ | refine F_r ?_)
    rintro W ⟨hx, hc⟩
    clear hc
    have hx3 : Ext w W := Ext.step bxx hx
    clear hx
    go_wp2
    go_ret
    exact ⟨by rw [RES.out]; rfl, hx3⟩

theorem edge_On (k ax ay bx by' cx cy : Int) (px py : Int) (w : World) :
    Calls Tryz.prog 19 #[.agg #[.int .i64 k, .int .i64 ax, .int .i64 ay, .int .i64 bx, .int .i64 by', .int .i64 cx, .int .i64 cy], .agg #[.int .i64 px, .int .i64 py]] w fun e w' => e = .returned (.bool (onE (Ed.mk k ax ay bx by' cx cy) px py)) ∧ Ext w w' := by
  cases hok : (Ed.mk k ax ay bx by' cx cy).ok
  · rw [onE_bad hok]; exact edge_On_bad k ax ay bx by' cx cy px py w hok
  by_cases k1 : k = 1
  · subst k1; exact edge_On_1 ax ay bx by' cx cy px py w hok
  by_cases k2 : k = 2
  · subst k2; exact edge_On_2 ax ay bx by' cx cy px py w hok
  by_cases k3 : k = 3
  · subst k3; exact edge_On_3 ax ay bx by' cx cy px py w hok
  · simp [Ed.ok, k1, k2, k3] at hok
end Go.Proofs.YtmmhiiiaccldmaaGreat

namespace Go.Proofs.YtmmhiiiaccldmaaGreat
open Go.RowKit
attribute [local go_sem] Gives givesU

theorem rad_pos {e : Ed} (h : e.ok = true) (hk : ¬ e.k = 1) : 0 < radZ e := by
  have hq : ((e.ax - e.cx == 0) != (e.ay - e.cy == 0)) = true := by
    simp only [Ed.ok, Bool.and_eq_true, if_neg hk] at h
    have h2 := h.2
    split at h2
    · simp only [Ed.quarter, quarterB, Bool.and_eq_true] at h2; exact h2.1
    · split at h2
      · simp only [Ed.quarter, quarterB, Bool.and_eq_true] at h2; exact h2.1
      · cases h2
  have hkb : (e.k == 1) = false := by simpa using hk
  unfold radZ
  rw [h, hkb]
  simp only [Bool.not_false, Bool.and_true, if_true]
  by_cases h1 : e.ax - e.cx = 0
  · by_cases h2 : e.ay - e.cy = 0
    · simp [h1, h2] at hq
    · omega
  · omega
theorem rad_le {e : Ed} (h : e.ok = true) : radZ e ≤ 134217728 := by
  obtain ⟨⟨h1, h2⟩, _, h5, h6⟩ := ok_right h
  unfold radZ
  unfold Co at *
  split <;> omega
theorem tdiv_bd {x r m : Int} (h : -m ≤ x ∧ x ≤ m) : -m ≤ x.tdiv r ∧ x.tdiv r ≤ m := by
  have h3 : (x.tdiv r).natAbs ≤ x.natAbs := by rw [Int.natAbs_tdiv]; exact Nat.div_le_self _ _
  omega

set_option maxRecDepth 100000 in
set_option maxHeartbeats 4000000 in
theorem figured_arc (k ax ay bx by' cx cy : Int) (w : World) (hok : (Ed.mk k ax ay bx by' cx cy).ok = true) (hk : ¬ k = 1) :
    Calls Tryz.prog 18 #[.agg #[.int .i64 k, .int .i64 ax, .int .i64 ay, .int .i64 bx, .int .i64 by', .int .i64 cx, .int .i64 cy]] w fun e w' => e = .returned (.iface 62 (.agg #[.int .i64 cx, .int .i64 cy, .int .i64 (radZ (Ed.mk k ax ay bx by' cx cy)), .int .i64 ((ax - cx).tdiv (radZ (Ed.mk k ax ay bx by' cx cy))), .int .i64 ((ay - cy).tdiv (radZ (Ed.mk k ax ay bx by' cx cy))), .int .i64 ((bx - cx).tdiv (radZ (Ed.mk k ax ay bx by' cx cy))), .int .i64 ((by' - cy).tdiv (radZ (Ed.mk k ax ay bx by' cx cy)))])) ∧ Ext w w' := by
  obtain ⟨⟨h1, h2⟩, ⟨h3, h4⟩, h5, h6⟩ := ok_right hok
  simp only at h1 h2 h3 h4 h5 h6
  have hr0 := rad_pos hok hk
  have hr1 := rad_le hok
  have RC := fun w => edge_Radius k ax ay bx by' cx cy w
  obtain ⟨r, R⟩ : ∃ r, Hid (radZ (Ed.mk k ax ay bx by' cx cy) = r) := ⟨_, rfl⟩
  rw [R.out] at hr0 hr1 RC ⊢
  have RC := Lib.hid RC
  have SA := Lib.hid (fun w => vec_Sub ax ay cx cy w (h1.sub h5).i64 (h2.sub h6).i64)
  have SB := Lib.hid (fun w => vec_Sub bx by' cx cy w (h3.sub h5).i64 (h4.sub h6).i64)
  have t1 := tdiv_bd (r := r) (show -134217728 ≤ ax - cx ∧ ax - cx ≤ 134217728 from h1.sub h5)
  have t2 := tdiv_bd (r := r) (show -134217728 ≤ ay - cy ∧ ay - cy ≤ 134217728 from h2.sub h6)
  have t3 := tdiv_bd (r := r) (show -134217728 ≤ bx - cx ∧ bx - cx ≤ 134217728 from h3.sub h5)
  have t4 := tdiv_bd (r := r) (show -134217728 ≤ by' - cy ∧ by' - cy ≤ 134217728 from h4.sub h6)
  have q1 : IntKind.i64.wrap ((ax - cx).tdiv r) = (ax - cx).tdiv r := wrap_in (by unfold I64; omega)
  have q2 : IntKind.i64.wrap ((ay - cy).tdiv r) = (ay - cy).tdiv r := wrap_in (by unfold I64; omega)
  have q3 : IntKind.i64.wrap ((bx - cx).tdiv r) = (bx - cx).tdiv r := wrap_in (by unfold I64; omega)
  have q4 : IntKind.i64.wrap ((by' - cy).tdiv r) = (by' - cy).tdiv r := wrap_in (by unfold I64; omega)
  have kb : (k == 1) = false := by simpa using hk
  have rb : (r == 0) = false := by rw [beq_eq_false_iff_ne]; omega
  have rne : r ≠ 0 := by omega
  clear hok hk h1 h2 h3 h4 h5 h6 t1 t2 t3 t4
  go_enter Tryz.func18, Tryz.ntmps18
  go_wp2_with fail
  refine (RC.out _).mono ?_
  rintro e w1 ⟨rfl, hx⟩
  have hx0 : Ext w w1 := Ext.step bxx hx
  have hs0 := hx0.size
  have hz_w1 : w.heap.size + 1 ≤ w1.heap.size := Nat.le_trans omm hx.size
  obtain ⟨hl_w1_0, hk_w1_0, hf_w1_0⟩ := extK hx (w.heap.size)
  clear hx
  go_wp2_with fail
  refine wp_KB (w1.heap.size) (fun W => Ext w W ∧ w1.heap.size ≤ W.heap.size ∧ W.cell? ⟨w.heap.size, 0, none⟩ = some (.int .i64 k) ∧ W.cell? ⟨w.heap.size, 1, none⟩ = some (.int .i64 ax) ∧ W.cell? ⟨w.heap.size, 2, none⟩ = some (.int .i64 ay) ∧ W.cell? ⟨w.heap.size, 3, none⟩ = some (.int .i64 bx) ∧ W.cell? ⟨w.heap.size, 4, none⟩ = some (.int .i64 by') ∧ W.cell? ⟨w.heap.size, 5, none⟩ = some (.int .i64 cx) ∧ W.cell? ⟨w.heap.size, 6, none⟩ = some (.int .i64 cy)) ?_
  intro hKeep
  repeat (first | refine F_s ?_ | refine F_r ?_)
  (refine F_call (v := .agg #[.int .i64 (ax-cx), .int .i64 (ay-cy)]) (by rfl) (by rfl) ?_ ?_; (· (intro W hW; (try dsimp only at hW); go_simp; refine (SA.out _).mono ?_; rintro e w' ⟨rfl, hx⟩; exact ⟨_, rfl, rfl, hx⟩))); refine F_put ?_
  repeat (first | refine F_s ?_ | refine F_r ?_)
  (refine F_call (v := .agg #[.int .i64 (bx-cx), .int .i64 (by'-cy)]) (by rfl) (by rfl) ?_ ?_; (· (intro W hW; (try dsimp only at hW); go_simp; refine (SB.out _).mono ?_; rintro e w' ⟨rfl, hx⟩; exact ⟨_, rfl, rfl, hx⟩))); refine F_put ?_
  repeat (first | refine F_s ?_ | refine F_r ?_)
  refine F_al ?_
  intro g hg
  simp only [List.mem_cons, List.mem_range, not_or, Nat.not_lt] at hg
  refine F_al ?_
  intro g2 hg2
  simp only [List.mem_cons, List.mem_range, not_or, Nat.not_lt] at hg2
  obtain ⟨hgg, hg2⟩ := hg2
  have hgg' := Ne.symm hgg
  refine F_w (fun W => _ ∧ W.heap[g2]? = some (.cells #[.int .i64 0, .int .i64 0] 25)) (fun W hW => ⟨⟨hW.1.1, hW.2⟩, hW.1.2⟩) ?_
  refine F_w (fun W => _ ∧ W.heap[g]? = some (.cells #[.int .i64 (ax - cx), .int .i64 (ay - cy)] 25)) (fun W hW => ⟨⟨hW.1.1.1, hW.1.2⟩, hW.1.1.2⟩) ?_
  repeat (first | refine F_s ?_ | refine F_r ?_)
  rintro W ⟨⟨⟨⟨hx, hz, hc⟩, b1⟩, b2⟩, _⟩
  obtain ⟨c0, c1, _, hl1⟩ := pt_block b1
  obtain ⟨e0, e1, _, hl2⟩ := pt_block b2
  have hl3 : w.heap.size < W.heap.size := by omega
  clear b1 b2
  go_wp2_with fail
  refine wp_FS (fun W => W.cell? ⟨w.heap.size, 0, none⟩ = some (.int .i64 k) ∧ W.cell? ⟨w.heap.size, 1, none⟩ = some (.int .i64 ax) ∧ W.cell? ⟨w.heap.size, 2, none⟩ = some (.int .i64 ay) ∧ W.cell? ⟨w.heap.size, 3, none⟩ = some (.int .i64 bx) ∧ W.cell? ⟨w.heap.size, 4, none⟩ = some (.int .i64 by') ∧ W.cell? ⟨w.heap.size, 5, none⟩ = some (.int .i64 cx) ∧ W.cell? ⟨w.heap.size, 6, none⟩ = some (.int .i64 cy) ∧ W.cell? ⟨g, 0, none⟩ = some (.int .i64 (ax-cx)) ∧ W.cell? ⟨g, 1, none⟩ = some (.int .i64 (ay-cy)) ∧ W.cell? ⟨g2, 0, none⟩ = some (.int .i64 (bx-cx)) ∧ W.cell? ⟨g2, 1, none⟩ = some (.int .i64 (by'-cy))) ?_
  repeat (first | refine F_s ?_ | refine F_r ?_)
  rintro W2 ⟨hx2, hc2⟩
  have hx3 : Ext w W2 := Ext.step hx hx2
  clear hc2 hx2
  go_wp2
  go_ret
  exact ⟨rfl, hx3⟩

set_option maxRecDepth 100000 in
set_option maxHeartbeats 1000000 in
theorem figured_point (ax ay cx cy : Int) (w : World) :
    Calls Tryz.prog 18 #[.agg #[.int .i64 1, .int .i64 ax, .int .i64 ay, .int .i64 ax, .int .i64 ay, .int .i64 cx, .int .i64 cy]] w fun e w' => e = .returned (.iface 55 (.agg #[.int .i64 ax, .int .i64 ay])) ∧ Ext w w' := by
  have heq := eql_pt
  go_enter Tryz.func18, Tryz.ntmps18
  go_wp2
  go_ret
  exact ⟨rfl, bxx⟩
set_option maxRecDepth 100000 in
set_option maxHeartbeats 1000000 in
theorem figured_line (ax ay bx by' cx cy : Int) (w : World) (h : ¬ (ax = bx ∧ ay = by')) :
    Calls Tryz.prog 18 #[.agg #[.int .i64 1, .int .i64 ax, .int .i64 ay, .int .i64 bx, .int .i64 by', .int .i64 cx, .int .i64 cy]] w fun e w' => e = .returned (.iface 58 (.agg #[.int .i64 ax, .int .i64 ay, .int .i64 bx, .int .i64 by'])) ∧ Ext w w' := by
  have hb : (ax == bx && ay == by') = false := by
    rw [Bool.eq_false_iff]
    intro h2
    simp at h2
    exact h h2
  have heq : ∀ w : World, (binOp .eql 25 (.agg #[.int .i64 ax, .int .i64 ay]) (.agg #[.int .i64 bx, .int .i64 by'])).run Tryz.prog w = .ok (.bool false) w := fun w => by rw [eql_pt, hb]
  clear h hb
  go_enter Tryz.func18, Tryz.ntmps18
  go_wp2
  go_ret
  exact ⟨rfl, bxx⟩

end Go.Proofs.YtmmhiiiaccldmaaGreat
