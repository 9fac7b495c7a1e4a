/- Contract: meet.bothLines. -/
import Derived.Test.YtmmhiiiaccldmaaJ15
import Derived.Test.YtmmhiiiaccldmaaJ09
set_option linter.unusedVariables false
set_option linter.unusedSimpArgs false

namespace Go.Proofs.Ytmmhiiiaccldmaa
open Go.RowKit
attribute [local go_sem] Gives givesU

/-- The cross product of q - p and r - p. -/
def crI (px py qx qy rx ry : Int) : Int := (qx - px) * (ry - py) - (qy - py) * (rx - px)
/-- How many points two lines have in common: p to q, and r to s. -/
def linesZ (px py qx qy rx ry sx sy : Int) : Int :=
  if (qx - px) * (sy - ry) - (qy - py) * (sx - rx) ≠ 0 then
    if 0 < sideI (crI px py qx qy rx ry) * sideI (crI px py qx qy sx sy) then 0
    else if 0 < sideI (crI rx ry sx sy px py) * sideI (crI rx ry sx sy qx qy) then 0 else 1
  else if sideI (crI px py qx qy rx ry) ≠ 0 then 0
  else if max 0 (min ((rx - px) * (qx - px) + (ry - py) * (qy - py)) ((sx - px) * (qx - px) + (sy - py) * (qy - py))) < min ((qx - px) * (qx - px) + (qy - py) * (qy - py)) (max ((rx - px) * (qx - px) + (ry - py) * (qy - py)) ((sx - px) * (qx - px) + (sy - py) * (qy - py))) then -1
  else if max 0 (min ((rx - px) * (qx - px) + (ry - py) * (qy - py)) ((sx - px) * (qx - px) + (sy - py) * (qy - py))) = min ((qx - px) * (qx - px) + (qy - py) * (qy - py)) (max ((rx - px) * (qx - px) + (ry - py) * (qy - py)) ((sx - px) * (qx - px) + (sy - py) * (qy - py))) then 1 else 0

theorem sideI_bd (n : Int) : -1 ≤ sideI n ∧ sideI n ≤ 1 := by unfold sideI; (repeat' split) <;> omega
theorem side_any (px py qx qy rx ry : Int) (h1 : Co px) (h2 : Co py) (h3 : Co qx) (h4 : Co qy) (h5 : Co rx) (h6 : Co ry) (w : World) :
    Calls Try.prog 39 #[.agg #[.int .i64 px, .int .i64 py], .agg #[.int .i64 qx, .int .i64 qy], .agg #[.int .i64 rx, .int .i64 ry]] w fun e w' => e = .returned (.int .i64 (sideI (crI px py qx qy rx ry))) ∧ Ext w w' :=
  vec_Side px py qx qy rx ry w (h3.sub h1).i64 (h4.sub h2).i64 (h5.sub h1).i64 (h6.sub h2).i64 ((h3.sub h1).mul64 (h6.sub h2)) ((h4.sub h2).mul64 (h5.sub h1)) ((h3.sub h1).cross (h6.sub h2) (h4.sub h2) (h5.sub h1))

theorem run_max2 {P : Program} {w : World} (ts : Array TypeId) (t : TypeId) (x y : Int) : (Builtin.max_ ts t #[.int .i64 x, .int .i64 y]).run P w = .ok (.int .i64 (max x y)) w := by
  have h : (Builtin.max_ ts t #[.int .i64 x, .int .i64 y]).run P w = .ok (.int .i64 (if y > x then y else x)) w := by
    simp [Builtin.max_, Builtin.max2]
  rw [h]
  congr 2
  split <;> omega
theorem run_min2 {P : Program} {w : World} (ts : Array TypeId) (t : TypeId) (x y : Int) : (Builtin.min_ ts t #[.int .i64 x, .int .i64 y]).run P w = .ok (.int .i64 (min x y)) w := by
  have h : (Builtin.min_ ts t #[.int .i64 x, .int .i64 y]).run P w = .ok (.int .i64 (if y < x then y else x)) w := by
    simp [Builtin.min_, Builtin.min2]
  rw [h]
  congr 2
  split <;> omega

set_option maxRecDepth 100000 in
set_option maxHeartbeats 4000000 in
theorem meet_bothLines (px py qx qy rx ry sx sy : Int) (w : World) (h1 : Co px) (h2 : Co py) (h3 : Co qx) (h4 : Co qy) (h5 : Co rx) (h6 : Co ry) (h7 : Co sx) (h8 : Co sy) :
    Calls Try.prog 28 #[.agg #[.int .i64 px, .int .i64 py, .int .i64 qx, .int .i64 qy], .agg #[.int .i64 rx, .int .i64 ry, .int .i64 sx, .int .i64 sy]] w fun e w' => e = .returned (.int .i64 (linesZ px py qx qy rx ry sx sy)) ∧ Ext w w' := by
  have SD := Lib.hid (fun w => vec_Sub qx qy px py w (h3.sub h1).i64 (h4.sub h2).i64)
  have SE := Lib.hid (fun w => vec_Sub sx sy rx ry w (h7.sub h5).i64 (h8.sub h6).i64)
  have CR := fun w => vec_Cross (qx - px) (qy - py) (sx - rx) (sy - ry) w ((h3.sub h1).mul64 (h8.sub h6)) ((h4.sub h2).mul64 (h7.sub h5)) ((h3.sub h1).cross (h8.sub h6) (h4.sub h2) (h7.sub h5))
  have S1 := side_any px py qx qy rx ry h1 h2 h3 h4 h5 h6
  have S2 := side_any px py qx qy sx sy h1 h2 h3 h4 h7 h8
  have S3 := side_any rx ry sx sy px py h5 h6 h7 h8 h1 h2
  have S4 := side_any rx ry sx sy qx qy h5 h6 h7 h8 h3 h4
  have RP := Lib.hid (fun w => vec_Sub rx ry px py w (h5.sub h1).i64 (h6.sub h2).i64)
  have SP := Lib.hid (fun w => vec_Sub sx sy px py w (h7.sub h1).i64 (h8.sub h2).i64)
  have D1 := fun w => vec_Dot (rx - px) (ry - py) (qx - px) (qy - py) w ((h5.sub h1).mul64 (h3.sub h1)) ((h6.sub h2).mul64 (h4.sub h2)) ((h5.sub h1).dot (h3.sub h1) (h6.sub h2) (h4.sub h2))
  have D2 := fun w => vec_Dot (sx - px) (sy - py) (qx - px) (qy - py) w ((h7.sub h1).mul64 (h3.sub h1)) ((h8.sub h2).mul64 (h4.sub h2)) ((h7.sub h1).dot (h3.sub h1) (h8.sub h2) (h4.sub h2))
  have D3 := fun w => vec_Dot (qx - px) (qy - py) (qx - px) (qy - py) w ((h3.sub h1).mul64 (h3.sub h1)) ((h4.sub h2).mul64 (h4.sub h2)) ((h3.sub h1).dot (h3.sub h1) (h4.sub h2) (h4.sub h2))
  obtain ⟨R, RES⟩ : ∃ R, Hid (linesZ px py qx qy rx ry sx sy = R) := ⟨_, rfl⟩
  have RES' := RES.out
  unfold linesZ at RES'
  obtain ⟨s1, B1⟩ : ∃ s, Hid (sideI (crI px py qx qy rx ry) = s) := ⟨_, rfl⟩
  obtain ⟨s2, B2⟩ : ∃ s, Hid (sideI (crI px py qx qy sx sy) = s) := ⟨_, rfl⟩
  obtain ⟨s3, B3⟩ : ∃ s, Hid (sideI (crI rx ry sx sy px py) = s) := ⟨_, rfl⟩
  obtain ⟨s4, B4⟩ : ∃ s, Hid (sideI (crI rx ry sx sy qx qy) = s) := ⟨_, rfl⟩
  have b1 := sideI_bd (crI px py qx qy rx ry)
  have b2 := sideI_bd (crI px py qx qy sx sy)
  have b3 := sideI_bd (crI rx ry sx sy px py)
  have b4 := sideI_bd (crI rx ry sx sy qx qy)
  rw [B1.out] at b1 S1
  rw [B2.out] at b2 S2
  rw [B3.out] at b3 S3
  rw [B4.out] at b4 S4
  obtain ⟨c, C⟩ : ∃ c, Hid ((qx - px) * (sy - ry) - (qy - py) * (sx - rx) = c) := ⟨_, rfl⟩
  obtain ⟨d1, E1⟩ : ∃ c, Hid ((rx - px) * (qx - px) + (ry - py) * (qy - py) = c) := ⟨_, rfl⟩
  obtain ⟨d2, E2⟩ : ∃ c, Hid ((sx - px) * (qx - px) + (sy - py) * (qy - py) = c) := ⟨_, rfl⟩
  obtain ⟨d3, E3⟩ : ∃ c, Hid ((qx - px) * (qx - px) + (qy - py) * (qy - py) = c) := ⟨_, rfl⟩
  rw [C.out] at CR
  rw [E1.out] at D1
  rw [E2.out] at D2
  rw [E3.out] at D3
  rw [B1.out, B2.out, B3.out, B4.out, C.out, E1.out, E2.out, E3.out] at RES'
  have m1 := unit_mul b1 b2
  have m2 := unit_mul b3 b4
  obtain ⟨u, U⟩ : ∃ u, Hid (s1 * s2 = u) := ⟨_, rfl⟩
  obtain ⟨v, V⟩ : ∃ u, Hid (s3 * s4 = u) := ⟨_, rfl⟩
  rw [U.out] at m1 RES'
  rw [V.out] at m2 RES'
  have hu : IntKind.i64.wrap (s1 * s2) = u := by rw [U.out]; exact wrap_in (by unfold I64; omega)
  have hv : IntKind.i64.wrap (s3 * s4) = v := by rw [V.out]; exact wrap_in (by unfold I64; omega)
  have CR := Lib.hid CR
  have S1 := Lib.hid S1
  have S2 := Lib.hid S2
  have S3 := Lib.hid S3
  have S4 := Lib.hid S4
  have D1 := Lib.hid D1
  have D2 := Lib.hid D2
  have D3 := Lib.hid D3
  have RES' := Lib.hid RES'
  rw [RES.out]
  clear h1 h2 h3 h4 h5 h6 h7 h8 b1 b2 b3 b4
  have hmax := @run_max2 Try.prog
  have hmin := @run_min2 Try.prog
  go_enter Try.func28, Try.ntmps28
  go_wp2_with fail
  refine (SD.out _).mono ?_
  rintro e w1 ⟨rfl, hx⟩
  have hx0 : Ext w w1 := Ext.step (by (repeat (first | exact Below.refl _ _ | assumption | refine Below.drewN ?_ _ | refine Below.drew ?_ | refine Below.setCell ?_ (by first | exact Nat.le_refl _ | (simp; done) | (simp; omega) | omega) _ | refine Below.alloc ?_ (by first | exact Nat.le_refl _ | (simp; done) | (simp; omega) | omega) _))) hx
  have hs0 := hx0.size
  have hz_w1 : w.heap.size + 2 ≤ w1.heap.size := Nat.le_trans (by first | omega | (simp; done) | (simp; omega)) hx.size
  have hl_w1_0 : w.heap.size < w1.heap.size := Nat.lt_of_lt_of_le (by omega) hz_w1
  have hk_w1_0 : ∀ o, w1.cell? ⟨w.heap.size, o, none⟩ = _ := fun o => hx.cell (p := ⟨w.heap.size, o, none⟩) (show w.heap.size < _ from (by first | omega | (simp; done) | (simp; omega)))
  have hf_w1_0 : ∀ o, w1.frozen? ⟨w.heap.size, o, none⟩ = _ := fun o => hx.frozen (p := ⟨w.heap.size, o, none⟩) (show w.heap.size < _ from (by first | omega | (simp; done) | (simp; omega)))
  have hl_w1_1 : w.heap.size + 1 < w1.heap.size := Nat.lt_of_lt_of_le (by omega) hz_w1
  have hk_w1_1 : ∀ o, w1.cell? ⟨w.heap.size + 1, o, none⟩ = _ := fun o => hx.cell (p := ⟨w.heap.size + 1, o, none⟩) (show w.heap.size + 1 < _ from (by first | omega | (simp; done) | (simp; omega)))
  have hf_w1_1 : ∀ o, w1.frozen? ⟨w.heap.size + 1, o, none⟩ = _ := fun o => hx.frozen (p := ⟨w.heap.size + 1, o, none⟩) (show w.heap.size + 1 < _ from (by first | omega | (simp; done) | (simp; omega)))
  clear hx
  go_wp2_with fail
  first | refine wp_region_FC (fun W => W.cell? ⟨w.heap.size, 0, none⟩ = some (.int .i64 px) ∧ W.cell? ⟨w.heap.size, 1, none⟩ = some (.int .i64 py) ∧ W.cell? ⟨w.heap.size, 2, none⟩ = some (.int .i64 qx) ∧ W.cell? ⟨w.heap.size, 3, none⟩ = some (.int .i64 qy) ∧ W.cell? ⟨w.heap.size + 1, 0, none⟩ = some (.int .i64 rx) ∧ W.cell? ⟨w.heap.size + 1, 1, none⟩ = some (.int .i64 ry) ∧ W.cell? ⟨w.heap.size + 1, 2, none⟩ = some (.int .i64 sx) ∧ W.cell? ⟨w.heap.size + 1, 3, none⟩ = some (.int .i64 sy) ∧ W.cell? ⟨w1.heap.size, 0, none⟩ = some (.int .i64 (qx-px)) ∧ W.cell? ⟨w1.heap.size, 1, none⟩ = some (.int .i64 (qy-py))) (by kernel_rfl) (by kernel_rfl) ?_ ?_ ?_ | refine wp_region_FCs (fun W => W.cell? ⟨w.heap.size, 0, none⟩ = some (.int .i64 px) ∧ W.cell? ⟨w.heap.size, 1, none⟩ = some (.int .i64 py) ∧ W.cell? ⟨w.heap.size, 2, none⟩ = some (.int .i64 qx) ∧ W.cell? ⟨w.heap.size, 3, none⟩ = some (.int .i64 qy) ∧ W.cell? ⟨w.heap.size + 1, 0, none⟩ = some (.int .i64 rx) ∧ W.cell? ⟨w.heap.size + 1, 1, none⟩ = some (.int .i64 ry) ∧ W.cell? ⟨w.heap.size + 1, 2, none⟩ = some (.int .i64 sx) ∧ W.cell? ⟨w.heap.size + 1, 3, none⟩ = some (.int .i64 sy) ∧ W.cell? ⟨w1.heap.size, 0, none⟩ = some (.int .i64 (qx-px)) ∧ W.cell? ⟨w1.heap.size, 1, none⟩ = some (.int .i64 (qy-py))) ?_ ?_ ?_
  · go_simp
  · (intro W W' h hx hb; have hs := hx.size; (try simp at hs); have hbc : ∀ b o, b < W.heap.size → W'.cell? ⟨b, o, none⟩ = W.cell? ⟨b, o, none⟩ := fun b o h => hb.cell (p := ⟨b, o, none⟩) h; (try dsimp only at h ⊢); simp (disch := omega) only [hbc]; exact h)
  repeat (first | (refine F_skip (by rfl) ?_; simp only [Act.put, List.setIfInBounds_toArray, List.set_cons_zero, List.set_cons_succ]) | (refine F_run (v := ?_) (by rfl) ?_ ?_; rotate_left; (· (intro W hW; (try dsimp only at hW); go_simp; try with_reducible rfl)); simp only [Act.put, List.setIfInBounds_toArray, List.set_cons_zero, List.set_cons_succ]))
  (refine F_call (v := .agg #[.int .i64 (sx-rx), .int .i64 (sy-ry)]) (by rfl) (by rfl) ?_ ?_; (· (intro W hW; (try dsimp only at hW); go_simp; refine (SE.out _).mono ?_; rintro e w' ⟨rfl, hx⟩; exact ⟨_, rfl, rfl, hx⟩))); simp only [Act.put, List.setIfInBounds_toArray, List.set_cons_zero, List.set_cons_succ]
  (refine F_call (v := .int .i64 c) (by rfl) (by rfl) ?_ ?_; (· (intro W hW; (try dsimp only at hW); go_simp; refine (CR.out _).mono ?_; rintro e w' ⟨rfl, hx⟩; exact ⟨_, rfl, rfl, hx⟩))); simp only [Act.put, List.setIfInBounds_toArray, List.set_cons_zero, List.set_cons_succ]
  repeat (first | (refine F_skip (by rfl) ?_; simp only [Act.put, List.setIfInBounds_toArray, List.set_cons_zero, List.set_cons_succ]) | (refine F_run (v := ?_) (by rfl) ?_ ?_; rotate_left; (· (intro W hW; (try dsimp only at hW); go_simp; try with_reducible rfl)); simp only [Act.put, List.setIfInBounds_toArray, List.set_cons_zero, List.set_cons_succ]))
  rintro W ⟨hx, hc⟩
  have hx2 : Ext w W := Ext.step (by (repeat (first | exact Below.refl _ _ | assumption | refine Below.drewN ?_ _ | refine Below.drew ?_ | refine Below.setCell ?_ (by first | exact Nat.le_refl _ | (simp; done) | (simp; omega) | omega) _ | refine Below.alloc ?_ (by first | exact Nat.le_refl _ | (simp; done) | (simp; omega) | omega) _))) hx
  have hsz := hx.size
  simp at hsz
  clear hx
  by_cases hc0 : c = 0
  · have cb : (c == 0) = true := by simp [hc0]
    have C0 := Lib.hid hc0
    clear hc0
    by_cases hs1 : s1 = 0
    · have sb : (s1 == 0) = true := by simp [hs1]
      have Z1 := Lib.hid hs1
      clear hs1
      go_upto_region 6 with (fail)
      first | refine wp_region_FC (fun W => W.cell? ⟨w.heap.size, 0, none⟩ = some (.int .i64 px) ∧ W.cell? ⟨w.heap.size, 1, none⟩ = some (.int .i64 py) ∧ W.cell? ⟨w.heap.size, 2, none⟩ = some (.int .i64 qx) ∧ W.cell? ⟨w.heap.size, 3, none⟩ = some (.int .i64 qy) ∧ W.cell? ⟨w.heap.size + 1, 0, none⟩ = some (.int .i64 rx) ∧ W.cell? ⟨w.heap.size + 1, 1, none⟩ = some (.int .i64 ry) ∧ W.cell? ⟨w.heap.size + 1, 2, none⟩ = some (.int .i64 sx) ∧ W.cell? ⟨w.heap.size + 1, 3, none⟩ = some (.int .i64 sy) ∧ W.cell? ⟨w1.heap.size, 0, none⟩ = some (.int .i64 (qx-px)) ∧ W.cell? ⟨w1.heap.size, 1, none⟩ = some (.int .i64 (qy-py))) (by kernel_rfl) (by kernel_rfl) ?_ ?_ ?_ | refine wp_region_FCs (fun W => W.cell? ⟨w.heap.size, 0, none⟩ = some (.int .i64 px) ∧ W.cell? ⟨w.heap.size, 1, none⟩ = some (.int .i64 py) ∧ W.cell? ⟨w.heap.size, 2, none⟩ = some (.int .i64 qx) ∧ W.cell? ⟨w.heap.size, 3, none⟩ = some (.int .i64 qy) ∧ W.cell? ⟨w.heap.size + 1, 0, none⟩ = some (.int .i64 rx) ∧ W.cell? ⟨w.heap.size + 1, 1, none⟩ = some (.int .i64 ry) ∧ W.cell? ⟨w.heap.size + 1, 2, none⟩ = some (.int .i64 sx) ∧ W.cell? ⟨w.heap.size + 1, 3, none⟩ = some (.int .i64 sy) ∧ W.cell? ⟨w1.heap.size, 0, none⟩ = some (.int .i64 (qx-px)) ∧ W.cell? ⟨w1.heap.size, 1, none⟩ = some (.int .i64 (qy-py))) ?_ ?_ ?_
      · go_simp
      · (intro W W' h hx hb; have hs := hx.size; (try simp at hs); have hbc : ∀ b o, b < W.heap.size → W'.cell? ⟨b, o, none⟩ = W.cell? ⟨b, o, none⟩ := fun b o h => hb.cell (p := ⟨b, o, none⟩) h; (try dsimp only at h ⊢); simp (disch := omega) only [hbc]; exact h)
      repeat (first | (refine F_skip (by rfl) ?_; simp only [Act.put, List.setIfInBounds_toArray, List.set_cons_zero, List.set_cons_succ]) | (refine F_run (v := ?_) (by rfl) ?_ ?_; rotate_left; (· (intro W hW; (try dsimp only at hW); go_simp; try with_reducible rfl)); simp only [Act.put, List.setIfInBounds_toArray, List.set_cons_zero, List.set_cons_succ]))
      (refine F_call (v := .int .i64 s1) (by rfl) (by rfl) ?_ ?_; (· (intro W hW; (try dsimp only at hW); go_simp; refine (S1.out _).mono ?_; rintro e w' ⟨rfl, hx⟩; exact ⟨_, rfl, rfl, hx⟩))); simp only [Act.put, List.setIfInBounds_toArray, List.set_cons_zero, List.set_cons_succ]
      repeat (first | (refine F_skip (by rfl) ?_; simp only [Act.put, List.setIfInBounds_toArray, List.set_cons_zero, List.set_cons_succ]) | (refine F_run (v := ?_) (by rfl) ?_ ?_; rotate_left; (· (intro W hW; (try dsimp only at hW); go_simp; try with_reducible rfl)); simp only [Act.put, List.setIfInBounds_toArray, List.set_cons_zero, List.set_cons_succ]))
      rintro W2 ⟨hx, hc⟩
      have hx3 : Ext w W2 := Ext.step hx2 hx
      have hsz2 := hx.size
      clear hx
      go_wp2_with fail
      first | refine wp_region_FC (fun W => W.cell? ⟨w.heap.size, 0, none⟩ = some (.int .i64 px) ∧ W.cell? ⟨w.heap.size, 1, none⟩ = some (.int .i64 py) ∧ W.cell? ⟨w.heap.size, 2, none⟩ = some (.int .i64 qx) ∧ W.cell? ⟨w.heap.size, 3, none⟩ = some (.int .i64 qy) ∧ W.cell? ⟨w.heap.size + 1, 0, none⟩ = some (.int .i64 rx) ∧ W.cell? ⟨w.heap.size + 1, 1, none⟩ = some (.int .i64 ry) ∧ W.cell? ⟨w.heap.size + 1, 2, none⟩ = some (.int .i64 sx) ∧ W.cell? ⟨w.heap.size + 1, 3, none⟩ = some (.int .i64 sy) ∧ W.cell? ⟨w1.heap.size, 0, none⟩ = some (.int .i64 (qx-px)) ∧ W.cell? ⟨w1.heap.size, 1, none⟩ = some (.int .i64 (qy-py))) (by kernel_rfl) (by kernel_rfl) ?_ ?_ ?_ | refine wp_region_FCs (fun W => W.cell? ⟨w.heap.size, 0, none⟩ = some (.int .i64 px) ∧ W.cell? ⟨w.heap.size, 1, none⟩ = some (.int .i64 py) ∧ W.cell? ⟨w.heap.size, 2, none⟩ = some (.int .i64 qx) ∧ W.cell? ⟨w.heap.size, 3, none⟩ = some (.int .i64 qy) ∧ W.cell? ⟨w.heap.size + 1, 0, none⟩ = some (.int .i64 rx) ∧ W.cell? ⟨w.heap.size + 1, 1, none⟩ = some (.int .i64 ry) ∧ W.cell? ⟨w.heap.size + 1, 2, none⟩ = some (.int .i64 sx) ∧ W.cell? ⟨w.heap.size + 1, 3, none⟩ = some (.int .i64 sy) ∧ W.cell? ⟨w1.heap.size, 0, none⟩ = some (.int .i64 (qx-px)) ∧ W.cell? ⟨w1.heap.size, 1, none⟩ = some (.int .i64 (qy-py))) ?_ ?_ ?_
      · go_simp
      · (intro W W' h hx hb; have hs := hx.size; (try simp at hs); have hbc : ∀ b o, b < W.heap.size → W'.cell? ⟨b, o, none⟩ = W.cell? ⟨b, o, none⟩ := fun b o h => hb.cell (p := ⟨b, o, none⟩) h; (try dsimp only at h ⊢); simp (disch := omega) only [hbc]; exact h)
      repeat (first | (refine F_skip (by rfl) ?_; simp only [Act.put, List.setIfInBounds_toArray, List.set_cons_zero, List.set_cons_succ]) | (refine F_run (v := ?_) (by rfl) ?_ ?_; rotate_left; (· (intro W hW; (try dsimp only at hW); go_simp; try with_reducible rfl)); simp only [Act.put, List.setIfInBounds_toArray, List.set_cons_zero, List.set_cons_succ]))
      (refine F_call (v := .agg #[.int .i64 (rx-px), .int .i64 (ry-py)]) (by rfl) (by rfl) ?_ ?_; (· (intro W hW; (try dsimp only at hW); go_simp; refine (RP.out _).mono ?_; rintro e w' ⟨rfl, hx⟩; exact ⟨_, rfl, rfl, hx⟩))); simp only [Act.put, List.setIfInBounds_toArray, List.set_cons_zero, List.set_cons_succ]
      repeat (first | (refine F_skip (by rfl) ?_; simp only [Act.put, List.setIfInBounds_toArray, List.set_cons_zero, List.set_cons_succ]) | (refine F_run (v := ?_) (by rfl) ?_ ?_; rotate_left; (· (intro W hW; (try dsimp only at hW); go_simp; try with_reducible rfl)); simp only [Act.put, List.setIfInBounds_toArray, List.set_cons_zero, List.set_cons_succ]))
      (refine F_call (v := .int .i64 d1) (by rfl) (by rfl) ?_ ?_; (· (intro W hW; (try dsimp only at hW); go_simp; refine (D1.out _).mono ?_; rintro e w' ⟨rfl, hx⟩; exact ⟨_, rfl, rfl, hx⟩))); simp only [Act.put, List.setIfInBounds_toArray, List.set_cons_zero, List.set_cons_succ]
      repeat (first | (refine F_skip (by rfl) ?_; simp only [Act.put, List.setIfInBounds_toArray, List.set_cons_zero, List.set_cons_succ]) | (refine F_run (v := ?_) (by rfl) ?_ ?_; rotate_left; (· (intro W hW; (try dsimp only at hW); go_simp; try with_reducible rfl)); simp only [Act.put, List.setIfInBounds_toArray, List.set_cons_zero, List.set_cons_succ]))
      (refine F_call (v := .agg #[.int .i64 (sx-px), .int .i64 (sy-py)]) (by rfl) (by rfl) ?_ ?_; (· (intro W hW; (try dsimp only at hW); go_simp; refine (SP.out _).mono ?_; rintro e w' ⟨rfl, hx⟩; exact ⟨_, rfl, rfl, hx⟩))); simp only [Act.put, List.setIfInBounds_toArray, List.set_cons_zero, List.set_cons_succ]
      repeat (first | (refine F_skip (by rfl) ?_; simp only [Act.put, List.setIfInBounds_toArray, List.set_cons_zero, List.set_cons_succ]) | (refine F_run (v := ?_) (by rfl) ?_ ?_; rotate_left; (· (intro W hW; (try dsimp only at hW); go_simp; try with_reducible rfl)); simp only [Act.put, List.setIfInBounds_toArray, List.set_cons_zero, List.set_cons_succ]))
      (refine F_call (v := .int .i64 d2) (by rfl) (by rfl) ?_ ?_; (· (intro W hW; (try dsimp only at hW); go_simp; refine (D2.out _).mono ?_; rintro e w' ⟨rfl, hx⟩; exact ⟨_, rfl, rfl, hx⟩))); simp only [Act.put, List.setIfInBounds_toArray, List.set_cons_zero, List.set_cons_succ]
      repeat (first | (refine F_skip (by rfl) ?_; simp only [Act.put, List.setIfInBounds_toArray, List.set_cons_zero, List.set_cons_succ]) | (refine F_run (v := ?_) (by rfl) ?_ ?_; rotate_left; (· (intro W hW; (try dsimp only at hW); go_simp; try with_reducible rfl)); simp only [Act.put, List.setIfInBounds_toArray, List.set_cons_zero, List.set_cons_succ]))
      rintro W3 ⟨hx, hc⟩
      have hx4 : Ext w W3 := Ext.step hx3 hx
      have hsz3 := hx.size
      clear hx
      go_upto_region 9 with (fail)
      first | refine wp_region_FC (fun W => W.cell? ⟨w.heap.size, 0, none⟩ = some (.int .i64 px) ∧ W.cell? ⟨w.heap.size, 1, none⟩ = some (.int .i64 py) ∧ W.cell? ⟨w.heap.size, 2, none⟩ = some (.int .i64 qx) ∧ W.cell? ⟨w.heap.size, 3, none⟩ = some (.int .i64 qy) ∧ W.cell? ⟨w.heap.size + 1, 0, none⟩ = some (.int .i64 rx) ∧ W.cell? ⟨w.heap.size + 1, 1, none⟩ = some (.int .i64 ry) ∧ W.cell? ⟨w.heap.size + 1, 2, none⟩ = some (.int .i64 sx) ∧ W.cell? ⟨w.heap.size + 1, 3, none⟩ = some (.int .i64 sy) ∧ W.cell? ⟨w1.heap.size, 0, none⟩ = some (.int .i64 (qx-px)) ∧ W.cell? ⟨w1.heap.size, 1, none⟩ = some (.int .i64 (qy-py))) (by kernel_rfl) (by kernel_rfl) ?_ ?_ ?_ | refine wp_region_FCs (fun W => W.cell? ⟨w.heap.size, 0, none⟩ = some (.int .i64 px) ∧ W.cell? ⟨w.heap.size, 1, none⟩ = some (.int .i64 py) ∧ W.cell? ⟨w.heap.size, 2, none⟩ = some (.int .i64 qx) ∧ W.cell? ⟨w.heap.size, 3, none⟩ = some (.int .i64 qy) ∧ W.cell? ⟨w.heap.size + 1, 0, none⟩ = some (.int .i64 rx) ∧ W.cell? ⟨w.heap.size + 1, 1, none⟩ = some (.int .i64 ry) ∧ W.cell? ⟨w.heap.size + 1, 2, none⟩ = some (.int .i64 sx) ∧ W.cell? ⟨w.heap.size + 1, 3, none⟩ = some (.int .i64 sy) ∧ W.cell? ⟨w1.heap.size, 0, none⟩ = some (.int .i64 (qx-px)) ∧ W.cell? ⟨w1.heap.size, 1, none⟩ = some (.int .i64 (qy-py))) ?_ ?_ ?_
      · go_simp
      · (intro W W' h hx hb; have hs := hx.size; (try simp at hs); have hbc : ∀ b o, b < W.heap.size → W'.cell? ⟨b, o, none⟩ = W.cell? ⟨b, o, none⟩ := fun b o h => hb.cell (p := ⟨b, o, none⟩) h; (try dsimp only at h ⊢); simp (disch := omega) only [hbc]; exact h)
      repeat (first | (refine F_skip (by rfl) ?_; simp only [Act.put, List.setIfInBounds_toArray, List.set_cons_zero, List.set_cons_succ]) | (refine F_run (v := ?_) (by rfl) ?_ ?_; rotate_left; (· (intro W hW; (try dsimp only at hW); go_simp; try with_reducible rfl)); simp only [Act.put, List.setIfInBounds_toArray, List.set_cons_zero, List.set_cons_succ]))
      (refine F_call (v := .int .i64 d3) (by rfl) (by rfl) ?_ ?_; (· (intro W hW; (try dsimp only at hW); go_simp; refine (D3.out _).mono ?_; rintro e w' ⟨rfl, hx⟩; exact ⟨_, rfl, rfl, hx⟩))); simp only [Act.put, List.setIfInBounds_toArray, List.set_cons_zero, List.set_cons_succ]
      repeat (first | (refine F_skip (by rfl) ?_; simp only [Act.put, List.setIfInBounds_toArray, List.set_cons_zero, List.set_cons_succ]) | (refine F_run (v := ?_) (by rfl) ?_ ?_; rotate_left; (· (intro W hW; (try dsimp only at hW); go_simp; try with_reducible rfl)); simp only [Act.put, List.setIfInBounds_toArray, List.set_cons_zero, List.set_cons_succ]))
      rintro W4 ⟨hx, hc⟩
      have hx5 : Ext w W4 := Ext.step hx4 hx
      clear hx hc
      have RR := RES'.out
      rw [if_neg (fun h => h C0.out), if_neg (fun h => h Z1.out)] at RR
      obtain ⟨f, FF⟩ : ∃ f, Hid (max 0 (min d1 d2) = f) := ⟨_, rfl⟩
      obtain ⟨g, GG⟩ : ∃ f, Hid (min d3 (max d1 d2) = f) := ⟨_, rfl⟩
      rw [FF.out, GG.out] at RR
      have hf := FF.out
      have hg := GG.out
      have RR := Lib.hid RR
      by_cases q1 : f < g
      · have Q1 := Lib.hid q1
        go_wp2
        go_ret
        exact ⟨ret_int (by rw [← RR.out, if_pos Q1.out]), hx5⟩
      · by_cases q2 : f = g
        · have Q1 := Lib.hid q1
          have Q2 := Lib.hid q2
          have q1b : decide (f < g) = false := by simp; omega
          have q2b : (f == g) = true := by simp [q2]
          clear q2
          go_wp2
          go_ret
          exact ⟨ret_int (by rw [← RR.out, if_neg (Int.not_lt.2 Q1.out), if_pos Q2.out]), hx5⟩
        · have Q1 := Lib.hid q1
          have Q2 := Lib.hid q2
          have q1b : decide (f < g) = false := by simp; omega
          have q2b : (f == g) = false := by simp [q2]
          clear q2
          go_wp2
          go_ret
          exact ⟨ret_int (by rw [← RR.out, if_neg (Int.not_lt.2 Q1.out), if_neg Q2.out]), hx5⟩
    · have sb : (s1 == 0) = false := by simp [hs1]
      have Q : Hid (R = 0) := by
        show R = 0
        rw [← RES'.out, if_neg (fun h => h C0.out), if_pos hs1]
      clear hs1
      go_upto_region 6 with (fail)
      first | refine wp_region_FC (fun W => W.cell? ⟨w.heap.size, 0, none⟩ = some (.int .i64 px) ∧ W.cell? ⟨w.heap.size, 1, none⟩ = some (.int .i64 py) ∧ W.cell? ⟨w.heap.size, 2, none⟩ = some (.int .i64 qx) ∧ W.cell? ⟨w.heap.size, 3, none⟩ = some (.int .i64 qy) ∧ W.cell? ⟨w.heap.size + 1, 0, none⟩ = some (.int .i64 rx) ∧ W.cell? ⟨w.heap.size + 1, 1, none⟩ = some (.int .i64 ry) ∧ W.cell? ⟨w.heap.size + 1, 2, none⟩ = some (.int .i64 sx) ∧ W.cell? ⟨w.heap.size + 1, 3, none⟩ = some (.int .i64 sy) ∧ W.cell? ⟨w1.heap.size, 0, none⟩ = some (.int .i64 (qx-px)) ∧ W.cell? ⟨w1.heap.size, 1, none⟩ = some (.int .i64 (qy-py))) (by kernel_rfl) (by kernel_rfl) ?_ ?_ ?_ | refine wp_region_FCs (fun W => W.cell? ⟨w.heap.size, 0, none⟩ = some (.int .i64 px) ∧ W.cell? ⟨w.heap.size, 1, none⟩ = some (.int .i64 py) ∧ W.cell? ⟨w.heap.size, 2, none⟩ = some (.int .i64 qx) ∧ W.cell? ⟨w.heap.size, 3, none⟩ = some (.int .i64 qy) ∧ W.cell? ⟨w.heap.size + 1, 0, none⟩ = some (.int .i64 rx) ∧ W.cell? ⟨w.heap.size + 1, 1, none⟩ = some (.int .i64 ry) ∧ W.cell? ⟨w.heap.size + 1, 2, none⟩ = some (.int .i64 sx) ∧ W.cell? ⟨w.heap.size + 1, 3, none⟩ = some (.int .i64 sy) ∧ W.cell? ⟨w1.heap.size, 0, none⟩ = some (.int .i64 (qx-px)) ∧ W.cell? ⟨w1.heap.size, 1, none⟩ = some (.int .i64 (qy-py))) ?_ ?_ ?_
      · go_simp
      · (intro W W' h hx hb; have hs := hx.size; (try simp at hs); have hbc : ∀ b o, b < W.heap.size → W'.cell? ⟨b, o, none⟩ = W.cell? ⟨b, o, none⟩ := fun b o h => hb.cell (p := ⟨b, o, none⟩) h; (try dsimp only at h ⊢); simp (disch := omega) only [hbc]; exact h)
      repeat (first | (refine F_skip (by rfl) ?_; simp only [Act.put, List.setIfInBounds_toArray, List.set_cons_zero, List.set_cons_succ]) | (refine F_run (v := ?_) (by rfl) ?_ ?_; rotate_left; (· (intro W hW; (try dsimp only at hW); go_simp; try with_reducible rfl)); simp only [Act.put, List.setIfInBounds_toArray, List.set_cons_zero, List.set_cons_succ]))
      (refine F_call (v := .int .i64 s1) (by rfl) (by rfl) ?_ ?_; (· (intro W hW; (try dsimp only at hW); go_simp; refine (S1.out _).mono ?_; rintro e w' ⟨rfl, hx⟩; exact ⟨_, rfl, rfl, hx⟩))); simp only [Act.put, List.setIfInBounds_toArray, List.set_cons_zero, List.set_cons_succ]
      repeat (first | (refine F_skip (by rfl) ?_; simp only [Act.put, List.setIfInBounds_toArray, List.set_cons_zero, List.set_cons_succ]) | (refine F_run (v := ?_) (by rfl) ?_ ?_; rotate_left; (· (intro W hW; (try dsimp only at hW); go_simp; try with_reducible rfl)); simp only [Act.put, List.setIfInBounds_toArray, List.set_cons_zero, List.set_cons_succ]))
      rintro W2 ⟨hx, hc⟩
      have hx3 : Ext w W2 := Ext.step hx2 hx
      clear hx hc
      go_wp2
      go_ret
      exact ⟨by rw [Q.out]; rfl, hx3⟩
  · have cb : (c == 0) = false := by simp [hc0]
    have C0 := Lib.hid hc0
    clear hc0
    by_cases u0 : 0 < u
    · have ub : decide (0 < u) = true := decide_eq_true u0
      have Q : Hid (R = 0) := by
        show R = 0
        rw [← RES'.out, if_pos C0.out, if_pos u0]
      go_wp2_with fail
      first | refine wp_region_FC (fun W => W.cell? ⟨w.heap.size, 0, none⟩ = some (.int .i64 px) ∧ W.cell? ⟨w.heap.size, 1, none⟩ = some (.int .i64 py) ∧ W.cell? ⟨w.heap.size, 2, none⟩ = some (.int .i64 qx) ∧ W.cell? ⟨w.heap.size, 3, none⟩ = some (.int .i64 qy) ∧ W.cell? ⟨w.heap.size + 1, 0, none⟩ = some (.int .i64 rx) ∧ W.cell? ⟨w.heap.size + 1, 1, none⟩ = some (.int .i64 ry) ∧ W.cell? ⟨w.heap.size + 1, 2, none⟩ = some (.int .i64 sx) ∧ W.cell? ⟨w.heap.size + 1, 3, none⟩ = some (.int .i64 sy) ∧ W.cell? ⟨w1.heap.size, 0, none⟩ = some (.int .i64 (qx-px)) ∧ W.cell? ⟨w1.heap.size, 1, none⟩ = some (.int .i64 (qy-py))) (by kernel_rfl) (by kernel_rfl) ?_ ?_ ?_ | refine wp_region_FCs (fun W => W.cell? ⟨w.heap.size, 0, none⟩ = some (.int .i64 px) ∧ W.cell? ⟨w.heap.size, 1, none⟩ = some (.int .i64 py) ∧ W.cell? ⟨w.heap.size, 2, none⟩ = some (.int .i64 qx) ∧ W.cell? ⟨w.heap.size, 3, none⟩ = some (.int .i64 qy) ∧ W.cell? ⟨w.heap.size + 1, 0, none⟩ = some (.int .i64 rx) ∧ W.cell? ⟨w.heap.size + 1, 1, none⟩ = some (.int .i64 ry) ∧ W.cell? ⟨w.heap.size + 1, 2, none⟩ = some (.int .i64 sx) ∧ W.cell? ⟨w.heap.size + 1, 3, none⟩ = some (.int .i64 sy) ∧ W.cell? ⟨w1.heap.size, 0, none⟩ = some (.int .i64 (qx-px)) ∧ W.cell? ⟨w1.heap.size, 1, none⟩ = some (.int .i64 (qy-py))) ?_ ?_ ?_
      · go_simp
      · (intro W W' h hx hb; have hs := hx.size; (try simp at hs); have hbc : ∀ b o, b < W.heap.size → W'.cell? ⟨b, o, none⟩ = W.cell? ⟨b, o, none⟩ := fun b o h => hb.cell (p := ⟨b, o, none⟩) h; (try dsimp only at h ⊢); simp (disch := omega) only [hbc]; exact h)
      repeat (first | (refine F_skip (by rfl) ?_; simp only [Act.put, List.setIfInBounds_toArray, List.set_cons_zero, List.set_cons_succ]) | (refine F_run (v := ?_) (by rfl) ?_ ?_; rotate_left; (· (intro W hW; (try dsimp only at hW); go_simp; try with_reducible rfl)); simp only [Act.put, List.setIfInBounds_toArray, List.set_cons_zero, List.set_cons_succ]))
      (refine F_call (v := .int .i64 s1) (by rfl) (by rfl) ?_ ?_; (· (intro W hW; (try dsimp only at hW); go_simp; refine (S1.out _).mono ?_; rintro e w' ⟨rfl, hx⟩; exact ⟨_, rfl, rfl, hx⟩))); simp only [Act.put, List.setIfInBounds_toArray, List.set_cons_zero, List.set_cons_succ]
      repeat (first | (refine F_skip (by rfl) ?_; simp only [Act.put, List.setIfInBounds_toArray, List.set_cons_zero, List.set_cons_succ]) | (refine F_run (v := ?_) (by rfl) ?_ ?_; rotate_left; (· (intro W hW; (try dsimp only at hW); go_simp; try with_reducible rfl)); simp only [Act.put, List.setIfInBounds_toArray, List.set_cons_zero, List.set_cons_succ]))
      (refine F_call (v := .int .i64 s2) (by rfl) (by rfl) ?_ ?_; (· (intro W hW; (try dsimp only at hW); go_simp; refine (S2.out _).mono ?_; rintro e w' ⟨rfl, hx⟩; exact ⟨_, rfl, rfl, hx⟩))); simp only [Act.put, List.setIfInBounds_toArray, List.set_cons_zero, List.set_cons_succ]
      repeat (first | (refine F_skip (by rfl) ?_; simp only [Act.put, List.setIfInBounds_toArray, List.set_cons_zero, List.set_cons_succ]) | (refine F_run (v := ?_) (by rfl) ?_ ?_; rotate_left; (· (intro W hW; (try dsimp only at hW); go_simp; try with_reducible rfl)); simp only [Act.put, List.setIfInBounds_toArray, List.set_cons_zero, List.set_cons_succ]))
      rintro W2 ⟨hx, hc⟩
      have hx3 : Ext w W2 := Ext.step hx2 hx
      clear hx hc
      go_wp2
      go_ret
      exact ⟨by rw [Q.out]; rfl, hx3⟩
    · have ub : decide (0 < u) = false := decide_eq_false u0
      by_cases v0 : 0 < v
      · have vb : decide (0 < v) = true := decide_eq_true v0
        have Q : Hid (R = 0) := by
          show R = 0
          rw [← RES'.out, if_pos C0.out, if_neg u0, if_pos v0]
        go_wp2_with fail
        first | refine wp_region_FC (fun W => W.cell? ⟨w.heap.size, 0, none⟩ = some (.int .i64 px) ∧ W.cell? ⟨w.heap.size, 1, none⟩ = some (.int .i64 py) ∧ W.cell? ⟨w.heap.size, 2, none⟩ = some (.int .i64 qx) ∧ W.cell? ⟨w.heap.size, 3, none⟩ = some (.int .i64 qy) ∧ W.cell? ⟨w.heap.size + 1, 0, none⟩ = some (.int .i64 rx) ∧ W.cell? ⟨w.heap.size + 1, 1, none⟩ = some (.int .i64 ry) ∧ W.cell? ⟨w.heap.size + 1, 2, none⟩ = some (.int .i64 sx) ∧ W.cell? ⟨w.heap.size + 1, 3, none⟩ = some (.int .i64 sy) ∧ W.cell? ⟨w1.heap.size, 0, none⟩ = some (.int .i64 (qx-px)) ∧ W.cell? ⟨w1.heap.size, 1, none⟩ = some (.int .i64 (qy-py))) (by kernel_rfl) (by kernel_rfl) ?_ ?_ ?_ | refine wp_region_FCs (fun W => W.cell? ⟨w.heap.size, 0, none⟩ = some (.int .i64 px) ∧ W.cell? ⟨w.heap.size, 1, none⟩ = some (.int .i64 py) ∧ W.cell? ⟨w.heap.size, 2, none⟩ = some (.int .i64 qx) ∧ W.cell? ⟨w.heap.size, 3, none⟩ = some (.int .i64 qy) ∧ W.cell? ⟨w.heap.size + 1, 0, none⟩ = some (.int .i64 rx) ∧ W.cell? ⟨w.heap.size + 1, 1, none⟩ = some (.int .i64 ry) ∧ W.cell? ⟨w.heap.size + 1, 2, none⟩ = some (.int .i64 sx) ∧ W.cell? ⟨w.heap.size + 1, 3, none⟩ = some (.int .i64 sy) ∧ W.cell? ⟨w1.heap.size, 0, none⟩ = some (.int .i64 (qx-px)) ∧ W.cell? ⟨w1.heap.size, 1, none⟩ = some (.int .i64 (qy-py))) ?_ ?_ ?_
        · go_simp
        · (intro W W' h hx hb; have hs := hx.size; (try simp at hs); have hbc : ∀ b o, b < W.heap.size → W'.cell? ⟨b, o, none⟩ = W.cell? ⟨b, o, none⟩ := fun b o h => hb.cell (p := ⟨b, o, none⟩) h; (try dsimp only at h ⊢); simp (disch := omega) only [hbc]; exact h)
        repeat (first | (refine F_skip (by rfl) ?_; simp only [Act.put, List.setIfInBounds_toArray, List.set_cons_zero, List.set_cons_succ]) | (refine F_run (v := ?_) (by rfl) ?_ ?_; rotate_left; (· (intro W hW; (try dsimp only at hW); go_simp; try with_reducible rfl)); simp only [Act.put, List.setIfInBounds_toArray, List.set_cons_zero, List.set_cons_succ]))
        (refine F_call (v := .int .i64 s1) (by rfl) (by rfl) ?_ ?_; (· (intro W hW; (try dsimp only at hW); go_simp; refine (S1.out _).mono ?_; rintro e w' ⟨rfl, hx⟩; exact ⟨_, rfl, rfl, hx⟩))); simp only [Act.put, List.setIfInBounds_toArray, List.set_cons_zero, List.set_cons_succ]
        repeat (first | (refine F_skip (by rfl) ?_; simp only [Act.put, List.setIfInBounds_toArray, List.set_cons_zero, List.set_cons_succ]) | (refine F_run (v := ?_) (by rfl) ?_ ?_; rotate_left; (· (intro W hW; (try dsimp only at hW); go_simp; try with_reducible rfl)); simp only [Act.put, List.setIfInBounds_toArray, List.set_cons_zero, List.set_cons_succ]))
        (refine F_call (v := .int .i64 s2) (by rfl) (by rfl) ?_ ?_; (· (intro W hW; (try dsimp only at hW); go_simp; refine (S2.out _).mono ?_; rintro e w' ⟨rfl, hx⟩; exact ⟨_, rfl, rfl, hx⟩))); simp only [Act.put, List.setIfInBounds_toArray, List.set_cons_zero, List.set_cons_succ]
        repeat (first | (refine F_skip (by rfl) ?_; simp only [Act.put, List.setIfInBounds_toArray, List.set_cons_zero, List.set_cons_succ]) | (refine F_run (v := ?_) (by rfl) ?_ ?_; rotate_left; (· (intro W hW; (try dsimp only at hW); go_simp; try with_reducible rfl)); simp only [Act.put, List.setIfInBounds_toArray, List.set_cons_zero, List.set_cons_succ]))
        (refine F_call (v := .int .i64 s3) (by rfl) (by rfl) ?_ ?_; (· (intro W hW; (try dsimp only at hW); go_simp; refine (S3.out _).mono ?_; rintro e w' ⟨rfl, hx⟩; exact ⟨_, rfl, rfl, hx⟩))); simp only [Act.put, List.setIfInBounds_toArray, List.set_cons_zero, List.set_cons_succ]
        repeat (first | (refine F_skip (by rfl) ?_; simp only [Act.put, List.setIfInBounds_toArray, List.set_cons_zero, List.set_cons_succ]) | (refine F_run (v := ?_) (by rfl) ?_ ?_; rotate_left; (· (intro W hW; (try dsimp only at hW); go_simp; try with_reducible rfl)); simp only [Act.put, List.setIfInBounds_toArray, List.set_cons_zero, List.set_cons_succ]))
        (refine F_call (v := .int .i64 s4) (by rfl) (by rfl) ?_ ?_; (· (intro W hW; (try dsimp only at hW); go_simp; refine (S4.out _).mono ?_; rintro e w' ⟨rfl, hx⟩; exact ⟨_, rfl, rfl, hx⟩))); simp only [Act.put, List.setIfInBounds_toArray, List.set_cons_zero, List.set_cons_succ]
        repeat (first | (refine F_skip (by rfl) ?_; simp only [Act.put, List.setIfInBounds_toArray, List.set_cons_zero, List.set_cons_succ]) | (refine F_run (v := ?_) (by rfl) ?_ ?_; rotate_left; (· (intro W hW; (try dsimp only at hW); go_simp; try with_reducible rfl)); simp only [Act.put, List.setIfInBounds_toArray, List.set_cons_zero, List.set_cons_succ]))
        rintro W2 ⟨hx, hc⟩
        have hx3 : Ext w W2 := Ext.step hx2 hx
        clear hx hc
        go_wp2
        go_ret
        exact ⟨by rw [Q.out]; rfl, hx3⟩
      · have vb : decide (0 < v) = false := decide_eq_false v0
        have Q : Hid (R = 1) := by
          show R = 1
          rw [← RES'.out, if_pos C0.out, if_neg u0, if_neg v0]
        go_wp2_with fail
        first | refine wp_region_FC (fun W => W.cell? ⟨w.heap.size, 0, none⟩ = some (.int .i64 px) ∧ W.cell? ⟨w.heap.size, 1, none⟩ = some (.int .i64 py) ∧ W.cell? ⟨w.heap.size, 2, none⟩ = some (.int .i64 qx) ∧ W.cell? ⟨w.heap.size, 3, none⟩ = some (.int .i64 qy) ∧ W.cell? ⟨w.heap.size + 1, 0, none⟩ = some (.int .i64 rx) ∧ W.cell? ⟨w.heap.size + 1, 1, none⟩ = some (.int .i64 ry) ∧ W.cell? ⟨w.heap.size + 1, 2, none⟩ = some (.int .i64 sx) ∧ W.cell? ⟨w.heap.size + 1, 3, none⟩ = some (.int .i64 sy) ∧ W.cell? ⟨w1.heap.size, 0, none⟩ = some (.int .i64 (qx-px)) ∧ W.cell? ⟨w1.heap.size, 1, none⟩ = some (.int .i64 (qy-py))) (by kernel_rfl) (by kernel_rfl) ?_ ?_ ?_ | refine wp_region_FCs (fun W => W.cell? ⟨w.heap.size, 0, none⟩ = some (.int .i64 px) ∧ W.cell? ⟨w.heap.size, 1, none⟩ = some (.int .i64 py) ∧ W.cell? ⟨w.heap.size, 2, none⟩ = some (.int .i64 qx) ∧ W.cell? ⟨w.heap.size, 3, none⟩ = some (.int .i64 qy) ∧ W.cell? ⟨w.heap.size + 1, 0, none⟩ = some (.int .i64 rx) ∧ W.cell? ⟨w.heap.size + 1, 1, none⟩ = some (.int .i64 ry) ∧ W.cell? ⟨w.heap.size + 1, 2, none⟩ = some (.int .i64 sx) ∧ W.cell? ⟨w.heap.size + 1, 3, none⟩ = some (.int .i64 sy) ∧ W.cell? ⟨w1.heap.size, 0, none⟩ = some (.int .i64 (qx-px)) ∧ W.cell? ⟨w1.heap.size, 1, none⟩ = some (.int .i64 (qy-py))) ?_ ?_ ?_
        · go_simp
        · (intro W W' h hx hb; have hs := hx.size; (try simp at hs); have hbc : ∀ b o, b < W.heap.size → W'.cell? ⟨b, o, none⟩ = W.cell? ⟨b, o, none⟩ := fun b o h => hb.cell (p := ⟨b, o, none⟩) h; (try dsimp only at h ⊢); simp (disch := omega) only [hbc]; exact h)
        repeat (first | (refine F_skip (by rfl) ?_; simp only [Act.put, List.setIfInBounds_toArray, List.set_cons_zero, List.set_cons_succ]) | (refine F_run (v := ?_) (by rfl) ?_ ?_; rotate_left; (· (intro W hW; (try dsimp only at hW); go_simp; try with_reducible rfl)); simp only [Act.put, List.setIfInBounds_toArray, List.set_cons_zero, List.set_cons_succ]))
        (refine F_call (v := .int .i64 s1) (by rfl) (by rfl) ?_ ?_; (· (intro W hW; (try dsimp only at hW); go_simp; refine (S1.out _).mono ?_; rintro e w' ⟨rfl, hx⟩; exact ⟨_, rfl, rfl, hx⟩))); simp only [Act.put, List.setIfInBounds_toArray, List.set_cons_zero, List.set_cons_succ]
        repeat (first | (refine F_skip (by rfl) ?_; simp only [Act.put, List.setIfInBounds_toArray, List.set_cons_zero, List.set_cons_succ]) | (refine F_run (v := ?_) (by rfl) ?_ ?_; rotate_left; (· (intro W hW; (try dsimp only at hW); go_simp; try with_reducible rfl)); simp only [Act.put, List.setIfInBounds_toArray, List.set_cons_zero, List.set_cons_succ]))
        (refine F_call (v := .int .i64 s2) (by rfl) (by rfl) ?_ ?_; (· (intro W hW; (try dsimp only at hW); go_simp; refine (S2.out _).mono ?_; rintro e w' ⟨rfl, hx⟩; exact ⟨_, rfl, rfl, hx⟩))); simp only [Act.put, List.setIfInBounds_toArray, List.set_cons_zero, List.set_cons_succ]
        repeat (first | (refine F_skip (by rfl) ?_; simp only [Act.put, List.setIfInBounds_toArray, List.set_cons_zero, List.set_cons_succ]) | (refine F_run (v := ?_) (by rfl) ?_ ?_; rotate_left; (· (intro W hW; (try dsimp only at hW); go_simp; try with_reducible rfl)); simp only [Act.put, List.setIfInBounds_toArray, List.set_cons_zero, List.set_cons_succ]))
        (refine F_call (v := .int .i64 s3) (by rfl) (by rfl) ?_ ?_; (· (intro W hW; (try dsimp only at hW); go_simp; refine (S3.out _).mono ?_; rintro e w' ⟨rfl, hx⟩; exact ⟨_, rfl, rfl, hx⟩))); simp only [Act.put, List.setIfInBounds_toArray, List.set_cons_zero, List.set_cons_succ]
        repeat (first | (refine F_skip (by rfl) ?_; simp only [Act.put, List.setIfInBounds_toArray, List.set_cons_zero, List.set_cons_succ]) | (refine F_run (v := ?_) (by rfl) ?_ ?_; rotate_left; (· (intro W hW; (try dsimp only at hW); go_simp; try with_reducible rfl)); simp only [Act.put, List.setIfInBounds_toArray, List.set_cons_zero, List.set_cons_succ]))
        (refine F_call (v := .int .i64 s4) (by rfl) (by rfl) ?_ ?_; (· (intro W hW; (try dsimp only at hW); go_simp; refine (S4.out _).mono ?_; rintro e w' ⟨rfl, hx⟩; exact ⟨_, rfl, rfl, hx⟩))); simp only [Act.put, List.setIfInBounds_toArray, List.set_cons_zero, List.set_cons_succ]
        repeat (first | (refine F_skip (by rfl) ?_; simp only [Act.put, List.setIfInBounds_toArray, List.set_cons_zero, List.set_cons_succ]) | (refine F_run (v := ?_) (by rfl) ?_ ?_; rotate_left; (· (intro W hW; (try dsimp only at hW); go_simp; try with_reducible rfl)); simp only [Act.put, List.setIfInBounds_toArray, List.set_cons_zero, List.set_cons_succ]))
        rintro W2 ⟨hx, hc⟩
        have hx3 : Ext w W2 := Ext.step hx2 hx
        clear hx hc
        go_wp2
        go_ret
        exact ⟨by rw [Q.out]; rfl, hx3⟩
end Go.Proofs.Ytmmhiiiaccldmaa
