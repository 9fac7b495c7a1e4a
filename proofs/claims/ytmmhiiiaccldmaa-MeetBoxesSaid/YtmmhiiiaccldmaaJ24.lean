/- meet.Count where the figures are swapped (arc, line); from the contracts of its callees. -/
import Derived.Test.YtmmhiiiaccldmaaJ21
import Derived.Test.YtmmhiiiaccldmaaJ23
import Derived.StillTailTactics
import Derived.Deep.DeepCutAuto
set_option linter.unusedVariables false
set_option linter.unusedSimpArgs false

namespace Go.Proofs.Ytmmhiiiaccldmaa
open Go.RowKit
attribute [local go_sem] Gives givesU

set_option maxRecDepth 100000 in
set_option maxHeartbeats 4000000 in
theorem Count_arcLine (k ax ay bx by' cx cy k' dx dy ex ey fx fy r ux uy vx vy res : Int) (w : World)
    (C1 : ∀ w : World, Calls Try.prog 26 #[.agg #[.int .i64 k, .int .i64 ax, .int .i64 ay, .int .i64 bx, .int .i64 by', .int .i64 cx, .int .i64 cy]] w fun e w' => e = .returned (.int .i64 0) ∧ Ext w w')
    (C2 : ∀ w : World, Calls Try.prog 26 #[.agg #[.int .i64 k', .int .i64 dx, .int .i64 dy, .int .i64 ex, .int .i64 ey, .int .i64 fx, .int .i64 fy]] w fun e w' => e = .returned (.int .i64 0) ∧ Ext w w')
    (F1 : ∀ w : World, Calls Try.prog 27 #[.agg #[.int .i64 k, .int .i64 ax, .int .i64 ay, .int .i64 bx, .int .i64 by', .int .i64 cx, .int .i64 cy]] w fun e w' => e = .returned (.iface 69 (.agg #[.int .i64 cx, .int .i64 cy, .int .i64 r, .int .i64 ux, .int .i64 uy, .int .i64 vx, .int .i64 vy])) ∧ Ext w w')
    (F2 : ∀ w : World, Calls Try.prog 27 #[.agg #[.int .i64 k', .int .i64 dx, .int .i64 dy, .int .i64 ex, .int .i64 ey, .int .i64 fx, .int .i64 fy]] w fun e w' => e = .returned (.iface 65 (.agg #[.int .i64 dx, .int .i64 dy, .int .i64 ex, .int .i64 ey])) ∧ Ext w w')
    (BL : ∀ w : World, Calls Try.prog 29 #[.agg #[.int .i64 dx, .int .i64 dy, .int .i64 ex, .int .i64 ey], .agg #[.int .i64 cx, .int .i64 cy, .int .i64 r, .int .i64 ux, .int .i64 uy, .int .i64 vx, .int .i64 vy]] w fun e w' => e = .returned (.int .i64 res) ∧ Ext w w') :
    Calls Try.prog 10 #[.agg #[.int .i64 k, .int .i64 ax, .int .i64 ay, .int .i64 bx, .int .i64 by', .int .i64 cx, .int .i64 cy], .agg #[.int .i64 k', .int .i64 dx, .int .i64 dy, .int .i64 ex, .int .i64 ey, .int .i64 fx, .int .i64 fy]] w fun e w' => e = .returned (.int .i64 res) ∧ Ext w w' := by
  replace C1 := Lib.hid C1
  replace C2 := Lib.hid C2
  replace F1 := Lib.hid F1
  replace F2 := Lib.hid F2
  replace BL := Lib.hid BL
  have a1 := as_line_point
  have a2 := as_line_line
  have a3 := as_arc_line
  have a4 := as_arc_arc
  go_enter Try.func10, Try.ntmps10
  go_wp2_with fail
  refine (C1.out _).mono ?_
  rintro e w1 ⟨rfl, hx⟩
  have hx0 : Ext w w1 := Ext.step (by (repeat (first | exact Below.refl _ _ | assumption | refine Below.drewN ?_ _ | refine Below.drew ?_ | refine Below.setCell ?_ (by first | exact Nat.le_refl _ | (simp; done) | (simp; omega) | omega) _ | refine Below.alloc ?_ (by first | exact Nat.le_refl _ | (simp; done) | (simp; omega) | omega) _))) hx
  have hs0 := hx0.size
  have hz_w1 : w.heap.size + 2 ≤ w1.heap.size := Nat.le_trans (by first | omega | (simp; done) | (simp; omega)) hx.size
  have hl_w1_0 : w.heap.size < w1.heap.size := Nat.lt_of_lt_of_le (by omega) hz_w1
  have hk_w1_0 : ∀ o, w1.cell? ⟨w.heap.size, o, none⟩ = _ := fun o => hx.cell (p := ⟨w.heap.size, o, none⟩) (show w.heap.size < _ from (by first | omega | (simp; done) | (simp; omega)))
  have hf_w1_0 : ∀ o, w1.frozen? ⟨w.heap.size, o, none⟩ = _ := fun o => hx.frozen (p := ⟨w.heap.size, o, none⟩) (show w.heap.size < _ from (by first | omega | (simp; done) | (simp; omega)))
  have hl_w1_1 : w.heap.size + 1 < w1.heap.size := Nat.lt_of_lt_of_le (by omega) hz_w1
  have hk_w1_1 : ∀ o, w1.cell? ⟨w.heap.size + 1, o, none⟩ = _ := fun o => hx.cell (p := ⟨w.heap.size + 1, o, none⟩) (show w.heap.size + 1 < _ from (by first | omega | (simp; done) | (simp; omega)))
  have hf_w1_1 : ∀ o, w1.frozen? ⟨w.heap.size + 1, o, none⟩ = _ := fun o => hx.frozen (p := ⟨w.heap.size + 1, o, none⟩) (show w.heap.size + 1 < _ from (by first | omega | (simp; done) | (simp; omega)))
  clear hx
  go_wp2_with fail
  refine (C2.out _).mono ?_
  rintro e w2 ⟨rfl, hx⟩
  have hx2 : Ext w w2 := Ext.step hx0 hx
  have hs2 := hx2.size
  have hz_w2 : w.heap.size + 2 ≤ w2.heap.size := Nat.le_trans (by first | omega | (simp; done) | (simp; omega)) hx.size
  have hl_w2_0 : w.heap.size < w2.heap.size := Nat.lt_of_lt_of_le (by omega) hz_w2
  have hk_w2_0 : ∀ o, w2.cell? ⟨w.heap.size, o, none⟩ = _ := fun o => hx.cell (p := ⟨w.heap.size, o, none⟩) (show w.heap.size < _ from (by first | omega | (simp; done) | (simp; omega)))
  have hf_w2_0 : ∀ o, w2.frozen? ⟨w.heap.size, o, none⟩ = _ := fun o => hx.frozen (p := ⟨w.heap.size, o, none⟩) (show w.heap.size < _ from (by first | omega | (simp; done) | (simp; omega)))
  have hl_w2_1 : w.heap.size + 1 < w2.heap.size := Nat.lt_of_lt_of_le (by omega) hz_w2
  have hk_w2_1 : ∀ o, w2.cell? ⟨w.heap.size + 1, o, none⟩ = _ := fun o => hx.cell (p := ⟨w.heap.size + 1, o, none⟩) (show w.heap.size + 1 < _ from (by first | omega | (simp; done) | (simp; omega)))
  have hf_w2_1 : ∀ o, w2.frozen? ⟨w.heap.size + 1, o, none⟩ = _ := fun o => hx.frozen (p := ⟨w.heap.size + 1, o, none⟩) (show w.heap.size + 1 < _ from (by first | omega | (simp; done) | (simp; omega)))
  clear hx
  go_wp2_with fail
  first | refine wp_region_FC (fun W => W.cell? ⟨w.heap.size, 0, none⟩ = some (.int .i64 k) ∧ W.cell? ⟨w.heap.size, 1, none⟩ = some (.int .i64 ax) ∧ W.cell? ⟨w.heap.size, 2, none⟩ = some (.int .i64 ay) ∧ W.cell? ⟨w.heap.size, 3, none⟩ = some (.int .i64 bx) ∧ W.cell? ⟨w.heap.size, 4, none⟩ = some (.int .i64 by') ∧ W.cell? ⟨w.heap.size, 5, none⟩ = some (.int .i64 cx) ∧ W.cell? ⟨w.heap.size, 6, none⟩ = some (.int .i64 cy) ∧ W.cell? ⟨w.heap.size + 1, 0, none⟩ = some (.int .i64 k') ∧ W.cell? ⟨w.heap.size + 1, 1, none⟩ = some (.int .i64 dx) ∧ W.cell? ⟨w.heap.size + 1, 2, none⟩ = some (.int .i64 dy) ∧ W.cell? ⟨w.heap.size + 1, 3, none⟩ = some (.int .i64 ex) ∧ W.cell? ⟨w.heap.size + 1, 4, none⟩ = some (.int .i64 ey) ∧ W.cell? ⟨w.heap.size + 1, 5, none⟩ = some (.int .i64 fx) ∧ W.cell? ⟨w.heap.size + 1, 6, none⟩ = some (.int .i64 fy)) (by kernel_rfl) (by kernel_rfl) ?_ ?_ ?_ | refine wp_region_FCs (fun W => W.cell? ⟨w.heap.size, 0, none⟩ = some (.int .i64 k) ∧ W.cell? ⟨w.heap.size, 1, none⟩ = some (.int .i64 ax) ∧ W.cell? ⟨w.heap.size, 2, none⟩ = some (.int .i64 ay) ∧ W.cell? ⟨w.heap.size, 3, none⟩ = some (.int .i64 bx) ∧ W.cell? ⟨w.heap.size, 4, none⟩ = some (.int .i64 by') ∧ W.cell? ⟨w.heap.size, 5, none⟩ = some (.int .i64 cx) ∧ W.cell? ⟨w.heap.size, 6, none⟩ = some (.int .i64 cy) ∧ W.cell? ⟨w.heap.size + 1, 0, none⟩ = some (.int .i64 k') ∧ W.cell? ⟨w.heap.size + 1, 1, none⟩ = some (.int .i64 dx) ∧ W.cell? ⟨w.heap.size + 1, 2, none⟩ = some (.int .i64 dy) ∧ W.cell? ⟨w.heap.size + 1, 3, none⟩ = some (.int .i64 ex) ∧ W.cell? ⟨w.heap.size + 1, 4, none⟩ = some (.int .i64 ey) ∧ W.cell? ⟨w.heap.size + 1, 5, none⟩ = some (.int .i64 fx) ∧ W.cell? ⟨w.heap.size + 1, 6, none⟩ = some (.int .i64 fy)) ?_ ?_ ?_
  · go_simp
  · (intro W W' h hx hb; have hs := hx.size; (try simp at hs); have hbc : ∀ b o, b < W.heap.size → W'.cell? ⟨b, o, none⟩ = W.cell? ⟨b, o, none⟩ := fun b o h => hb.cell (p := ⟨b, o, none⟩) h; (try dsimp only at h ⊢); simp (disch := omega) only [hbc]; exact h)
  repeat (first | (refine F_skip (by rfl) ?_; simp only [Act.put, List.setIfInBounds_toArray, List.set_cons_zero, List.set_cons_succ]) | (refine F_run (v := ?_) (by rfl) ?_ ?_; rotate_left; (· (intro W hW; (try dsimp only at hW); go_simp; try with_reducible rfl)); simp only [Act.put, List.setIfInBounds_toArray, List.set_cons_zero, List.set_cons_succ]))
  (refine F_call (v := .iface 69 (.agg #[.int .i64 cx, .int .i64 cy, .int .i64 r, .int .i64 ux, .int .i64 uy, .int .i64 vx, .int .i64 vy])) (by rfl) (by rfl) ?_ ?_; (· (intro W hW; (try dsimp only at hW); go_simp; refine (F1.out _).mono ?_; rintro e w' ⟨rfl, hx⟩; exact ⟨_, rfl, rfl, hx⟩))); simp only [Act.put, List.setIfInBounds_toArray, List.set_cons_zero, List.set_cons_succ]
  repeat (first | (refine F_skip (by rfl) ?_; simp only [Act.put, List.setIfInBounds_toArray, List.set_cons_zero, List.set_cons_succ]) | (refine F_run (v := ?_) (by rfl) ?_ ?_; rotate_left; (· (intro W hW; (try dsimp only at hW); go_simp; try with_reducible rfl)); simp only [Act.put, List.setIfInBounds_toArray, List.set_cons_zero, List.set_cons_succ]))
  (refine F_call (v := .iface 65 (.agg #[.int .i64 dx, .int .i64 dy, .int .i64 ex, .int .i64 ey])) (by rfl) (by rfl) ?_ ?_; (· (intro W hW; (try dsimp only at hW); go_simp; refine (F2.out _).mono ?_; rintro e w' ⟨rfl, hx⟩; exact ⟨_, rfl, rfl, hx⟩))); simp only [Act.put, List.setIfInBounds_toArray, List.set_cons_zero, List.set_cons_succ]
  repeat (first | (refine F_skip (by rfl) ?_; simp only [Act.put, List.setIfInBounds_toArray, List.set_cons_zero, List.set_cons_succ]) | (refine F_run (v := ?_) (by rfl) ?_ ?_; rotate_left; (· (intro W hW; (try dsimp only at hW); go_simp; try with_reducible rfl)); simp only [Act.put, List.setIfInBounds_toArray, List.set_cons_zero, List.set_cons_succ]))
  rintro W ⟨hx, hc⟩
  have hx3 : Ext w W := Ext.step hx2 hx
  have hs3 := hx.size
  have hf0 : ∀ o, W.frozen? ⟨w.heap.size, o, none⟩ = w2.frozen? ⟨w.heap.size, o, none⟩ := fun o => hx.frozen (p := ⟨w.heap.size, o, none⟩) (show w.heap.size < w2.heap.size by omega)
  have hf1 : ∀ o, W.frozen? ⟨w.heap.size + 1, o, none⟩ = w2.frozen? ⟨w.heap.size + 1, o, none⟩ := fun o => hx.frozen (p := ⟨w.heap.size + 1, o, none⟩) (show w.heap.size + 1 < w2.heap.size by omega)
  clear hx
  (try dsimp only at hc)
  go_wp2_with fail
  refine (kind_arc _ _ _ _ _ _ _ _).mono ?_
  rintro e w4 ⟨rfl, hx⟩
  have hx4 : Ext w w4 := Ext.step hx3 hx
  have hs4 := hx.size
  have hz_w4 : w.heap.size + 2 ≤ w4.heap.size := Nat.le_trans (by first | omega | (simp; done) | (simp; omega)) hx.size
  have hl_w4_0 : w.heap.size < w4.heap.size := Nat.lt_of_lt_of_le (by omega) hz_w4
  have hk_w4_0 : ∀ o, w4.cell? ⟨w.heap.size, o, none⟩ = _ := fun o => hx.cell (p := ⟨w.heap.size, o, none⟩) (show w.heap.size < _ from (by first | omega | (simp; done) | (simp; omega)))
  have hf_w4_0 : ∀ o, w4.frozen? ⟨w.heap.size, o, none⟩ = _ := fun o => hx.frozen (p := ⟨w.heap.size, o, none⟩) (show w.heap.size < _ from (by first | omega | (simp; done) | (simp; omega)))
  have hl_w4_1 : w.heap.size + 1 < w4.heap.size := Nat.lt_of_lt_of_le (by omega) hz_w4
  have hk_w4_1 : ∀ o, w4.cell? ⟨w.heap.size + 1, o, none⟩ = _ := fun o => hx.cell (p := ⟨w.heap.size + 1, o, none⟩) (show w.heap.size + 1 < _ from (by first | omega | (simp; done) | (simp; omega)))
  have hf_w4_1 : ∀ o, w4.frozen? ⟨w.heap.size + 1, o, none⟩ = _ := fun o => hx.frozen (p := ⟨w.heap.size + 1, o, none⟩) (show w.heap.size + 1 < _ from (by first | omega | (simp; done) | (simp; omega)))
  clear hx
  go_wp2_with fail
  refine (kind_line _ _ _ _ _).mono ?_
  rintro e w5 ⟨rfl, hx⟩
  have hx5 : Ext w w5 := Ext.step hx4 hx
  have hs5 := hx5.size
  have hz_w5 : w.heap.size + 2 ≤ w5.heap.size := Nat.le_trans (by first | omega | (simp; done) | (simp; omega)) hx.size
  have hl_w5_0 : w.heap.size < w5.heap.size := Nat.lt_of_lt_of_le (by omega) hz_w5
  have hk_w5_0 : ∀ o, w5.cell? ⟨w.heap.size, o, none⟩ = _ := fun o => hx.cell (p := ⟨w.heap.size, o, none⟩) (show w.heap.size < _ from (by first | omega | (simp; done) | (simp; omega)))
  have hf_w5_0 : ∀ o, w5.frozen? ⟨w.heap.size, o, none⟩ = _ := fun o => hx.frozen (p := ⟨w.heap.size, o, none⟩) (show w.heap.size < _ from (by first | omega | (simp; done) | (simp; omega)))
  have hl_w5_1 : w.heap.size + 1 < w5.heap.size := Nat.lt_of_lt_of_le (by omega) hz_w5
  have hk_w5_1 : ∀ o, w5.cell? ⟨w.heap.size + 1, o, none⟩ = _ := fun o => hx.cell (p := ⟨w.heap.size + 1, o, none⟩) (show w.heap.size + 1 < _ from (by first | omega | (simp; done) | (simp; omega)))
  have hf_w5_1 : ∀ o, w5.frozen? ⟨w.heap.size + 1, o, none⟩ = _ := fun o => hx.frozen (p := ⟨w.heap.size + 1, o, none⟩) (show w.heap.size + 1 < _ from (by first | omega | (simp; done) | (simp; omega)))
  clear hx
  have hq : (fun W => (W.cell? ⟨w.heap.size, 0, none⟩ = some (.int .i64 k) ∧ W.cell? ⟨w.heap.size, 1, none⟩ = some (.int .i64 ax) ∧ W.cell? ⟨w.heap.size, 2, none⟩ = some (.int .i64 ay) ∧ W.cell? ⟨w.heap.size, 3, none⟩ = some (.int .i64 bx) ∧ W.cell? ⟨w.heap.size, 4, none⟩ = some (.int .i64 by') ∧ W.cell? ⟨w.heap.size, 5, none⟩ = some (.int .i64 cx) ∧ W.cell? ⟨w.heap.size, 6, none⟩ = some (.int .i64 cy) ∧ W.cell? ⟨w.heap.size + 1, 0, none⟩ = some (.int .i64 k') ∧ W.cell? ⟨w.heap.size + 1, 1, none⟩ = some (.int .i64 dx) ∧ W.cell? ⟨w.heap.size + 1, 2, none⟩ = some (.int .i64 dy) ∧ W.cell? ⟨w.heap.size + 1, 3, none⟩ = some (.int .i64 ex) ∧ W.cell? ⟨w.heap.size + 1, 4, none⟩ = some (.int .i64 ey) ∧ W.cell? ⟨w.heap.size + 1, 5, none⟩ = some (.int .i64 fx) ∧ W.cell? ⟨w.heap.size + 1, 6, none⟩ = some (.int .i64 fy) )) w5 := by
    (try dsimp only)
    go_simp
  obtain ⟨z0, z1, z2, z3, z4, z5, z6, z7, z8, z9, z10, z11, z12, z13⟩ := hq
  have y0 : ∀ o, w5.frozen? ⟨w.heap.size, o, none⟩ = false := by intro o; go_simp
  have y1 : ∀ o, w5.frozen? ⟨w.heap.size + 1, o, none⟩ = false := by intro o; go_simp
  clear C1 C2 F1 F2 hc hk_w5_0 hk_w5_1 hf_w5_0 hf_w5_1 hk_w4_0 hk_w4_1 hf_w4_0 hf_w4_1 hk_w2_0 hk_w2_1 hf_w2_0 hf_w2_1 hk_w1_0 hk_w1_1 hf_w1_0 hf_w1_1 hf0 hf1
  go_wp2_with fail
  go_still_tail 6, (by kernel_rfl)
  change wpList _ _ _ _ _ w5.drew
  go_upto_region 6 with (fail)
  refine wp_world (fun W => Below w.heap.size w5 W ∧ W.cell? ⟨w.heap.size, 0, none⟩ = some (.int .i64 k') ∧ W.cell? ⟨w.heap.size, 1, none⟩ = some (.int .i64 dx) ∧ W.cell? ⟨w.heap.size, 2, none⟩ = some (.int .i64 dy) ∧ W.cell? ⟨w.heap.size, 3, none⟩ = some (.int .i64 ex) ∧ W.cell? ⟨w.heap.size, 4, none⟩ = some (.int .i64 ey) ∧ W.cell? ⟨w.heap.size, 5, none⟩ = some (.int .i64 fx) ∧ W.cell? ⟨w.heap.size, 6, none⟩ = some (.int .i64 fy) ∧ W.cell? ⟨w.heap.size + 1, 0, none⟩ = some (.int .i64 k) ∧ W.cell? ⟨w.heap.size + 1, 1, none⟩ = some (.int .i64 ax) ∧ W.cell? ⟨w.heap.size + 1, 2, none⟩ = some (.int .i64 ay) ∧ W.cell? ⟨w.heap.size + 1, 3, none⟩ = some (.int .i64 bx) ∧ W.cell? ⟨w.heap.size + 1, 4, none⟩ = some (.int .i64 by') ∧ W.cell? ⟨w.heap.size + 1, 5, none⟩ = some (.int .i64 cx) ∧ W.cell? ⟨w.heap.size + 1, 6, none⟩ = some (.int .i64 cy) ) ?_ ?_
  · refine ⟨?_, ?_⟩
    · refine Below.drew ?_
      iterate 14 refine Below.setCell ?_ (by first | exact Nat.le_refl _ | exact Nat.le_succ _) _
      exact Below.refl _ _
    · go_simp
  clear z0 z1 z2 z3 z4 z5 z6 z7 z8 z9 z10 z11 z12 z13
  rintro W7 ⟨hx7, z0, z1, z2, z3, z4, z5, z6, z7, z8, z9, z10, z11, z12, z13⟩
  have hs7 := hx7.size
  have hl7 : w.heap.size < W7.heap.size := by omega
  have hm7 : w.heap.size + 1 < W7.heap.size := by omega
  replace hx7 : Ext w W7 := hx5.trans hx7
  go_wp2_with fail
  refine (BL.out _).mono ?_
  rintro e w6 ⟨rfl, hx⟩
  have hx6 : Ext w w6 := Ext.step (by (repeat (first | exact Below.refl _ _ | assumption | refine Below.drewN ?_ _ | refine Below.drew ?_ | refine Below.setCell ?_ (by first | exact Nat.le_refl _ | (simp; done) | (simp; omega) | omega) _ | refine Below.alloc ?_ (by first | exact Nat.le_refl _ | (simp; done) | (simp; omega) | omega) _))) hx
  go_wp2
  go_ret
  exact ⟨rfl, hx6⟩
--@@SWAP: printed from the theorem above
set_option maxRecDepth 100000 in
set_option maxHeartbeats 4000000 in
theorem Count_line_point (k ax ay bx by' cx cy k' dx dy ex ey fx fy px py f1 f2 f3 f4 : Int) (res : Bool) (w : World)
    (C1 : ∀ w : World, Calls Try.prog 26 #[.agg #[.int .i64 k, .int .i64 ax, .int .i64 ay, .int .i64 bx, .int .i64 by', .int .i64 cx, .int .i64 cy]] w fun e w' => e = .returned (.int .i64 0) ∧ Ext w w')
    (C2 : ∀ w : World, Calls Try.prog 26 #[.agg #[.int .i64 k', .int .i64 dx, .int .i64 dy, .int .i64 ex, .int .i64 ey, .int .i64 fx, .int .i64 fy]] w fun e w' => e = .returned (.int .i64 0) ∧ Ext w w')
    (F1 : ∀ w : World, Calls Try.prog 27 #[.agg #[.int .i64 k, .int .i64 ax, .int .i64 ay, .int .i64 bx, .int .i64 by', .int .i64 cx, .int .i64 cy]] w fun e w' => e = .returned (.iface 65 (.agg #[.int .i64 f1, .int .i64 f2, .int .i64 f3, .int .i64 f4])) ∧ Ext w w')
    (F2 : ∀ w : World, Calls Try.prog 27 #[.agg #[.int .i64 k', .int .i64 dx, .int .i64 dy, .int .i64 ex, .int .i64 ey, .int .i64 fx, .int .i64 fy]] w fun e w' => e = .returned (.iface 63 (.agg #[.int .i64 px, .int .i64 py])) ∧ Ext w w')
    (BL : ∀ w : World, Calls Try.prog 18 #[.agg #[.int .i64 k, .int .i64 ax, .int .i64 ay, .int .i64 bx, .int .i64 by', .int .i64 cx, .int .i64 cy], .agg #[.int .i64 px, .int .i64 py]] w fun e w' => e = .returned (.bool res) ∧ Ext w w') :
    Calls Try.prog 10 #[.agg #[.int .i64 k, .int .i64 ax, .int .i64 ay, .int .i64 bx, .int .i64 by', .int .i64 cx, .int .i64 cy], .agg #[.int .i64 k', .int .i64 dx, .int .i64 dy, .int .i64 ex, .int .i64 ey, .int .i64 fx, .int .i64 fy]] w fun e w' => e = .returned (.int .i64 (if res then 1 else 0)) ∧ Ext w w' := by
  replace C1 := Lib.hid C1
  replace C2 := Lib.hid C2
  replace F1 := Lib.hid F1
  replace F2 := Lib.hid F2
  replace BL := Lib.hid BL
  have a1 := as_point_point
  go_enter Try.func10, Try.ntmps10
  go_wp2_with fail
  refine (C1.out _).mono ?_
  rintro e w1 ⟨rfl, hx⟩
  have hx0 : Ext w w1 := Ext.step (by (repeat (first | exact Below.refl _ _ | assumption | refine Below.drewN ?_ _ | refine Below.drew ?_ | refine Below.setCell ?_ (by first | exact Nat.le_refl _ | (simp; done) | (simp; omega) | omega) _ | refine Below.alloc ?_ (by first | exact Nat.le_refl _ | (simp; done) | (simp; omega) | omega) _))) hx
  have hs0 := hx0.size
  have hz_w1 : w.heap.size + 2 ≤ w1.heap.size := Nat.le_trans (by first | omega | (simp; done) | (simp; omega)) hx.size
  have hl_w1_0 : w.heap.size < w1.heap.size := Nat.lt_of_lt_of_le (by omega) hz_w1
  have hk_w1_0 : ∀ o, w1.cell? ⟨w.heap.size, o, none⟩ = _ := fun o => hx.cell (p := ⟨w.heap.size, o, none⟩) (show w.heap.size < _ from (by first | omega | (simp; done) | (simp; omega)))
  have hf_w1_0 : ∀ o, w1.frozen? ⟨w.heap.size, o, none⟩ = _ := fun o => hx.frozen (p := ⟨w.heap.size, o, none⟩) (show w.heap.size < _ from (by first | omega | (simp; done) | (simp; omega)))
  have hl_w1_1 : w.heap.size + 1 < w1.heap.size := Nat.lt_of_lt_of_le (by omega) hz_w1
  have hk_w1_1 : ∀ o, w1.cell? ⟨w.heap.size + 1, o, none⟩ = _ := fun o => hx.cell (p := ⟨w.heap.size + 1, o, none⟩) (show w.heap.size + 1 < _ from (by first | omega | (simp; done) | (simp; omega)))
  have hf_w1_1 : ∀ o, w1.frozen? ⟨w.heap.size + 1, o, none⟩ = _ := fun o => hx.frozen (p := ⟨w.heap.size + 1, o, none⟩) (show w.heap.size + 1 < _ from (by first | omega | (simp; done) | (simp; omega)))
  clear hx
  go_wp2_with fail
  refine (C2.out _).mono ?_
  rintro e w2 ⟨rfl, hx⟩
  have hx2 : Ext w w2 := Ext.step hx0 hx
  have hs2 := hx2.size
  have hz_w2 : w.heap.size + 2 ≤ w2.heap.size := Nat.le_trans (by first | omega | (simp; done) | (simp; omega)) hx.size
  have hl_w2_0 : w.heap.size < w2.heap.size := Nat.lt_of_lt_of_le (by omega) hz_w2
  have hk_w2_0 : ∀ o, w2.cell? ⟨w.heap.size, o, none⟩ = _ := fun o => hx.cell (p := ⟨w.heap.size, o, none⟩) (show w.heap.size < _ from (by first | omega | (simp; done) | (simp; omega)))
  have hf_w2_0 : ∀ o, w2.frozen? ⟨w.heap.size, o, none⟩ = _ := fun o => hx.frozen (p := ⟨w.heap.size, o, none⟩) (show w.heap.size < _ from (by first | omega | (simp; done) | (simp; omega)))
  have hl_w2_1 : w.heap.size + 1 < w2.heap.size := Nat.lt_of_lt_of_le (by omega) hz_w2
  have hk_w2_1 : ∀ o, w2.cell? ⟨w.heap.size + 1, o, none⟩ = _ := fun o => hx.cell (p := ⟨w.heap.size + 1, o, none⟩) (show w.heap.size + 1 < _ from (by first | omega | (simp; done) | (simp; omega)))
  have hf_w2_1 : ∀ o, w2.frozen? ⟨w.heap.size + 1, o, none⟩ = _ := fun o => hx.frozen (p := ⟨w.heap.size + 1, o, none⟩) (show w.heap.size + 1 < _ from (by first | omega | (simp; done) | (simp; omega)))
  clear hx
  go_wp2_with fail
  first | refine wp_region_FC (fun W => W.cell? ⟨w.heap.size, 0, none⟩ = some (.int .i64 k) ∧ W.cell? ⟨w.heap.size, 1, none⟩ = some (.int .i64 ax) ∧ W.cell? ⟨w.heap.size, 2, none⟩ = some (.int .i64 ay) ∧ W.cell? ⟨w.heap.size, 3, none⟩ = some (.int .i64 bx) ∧ W.cell? ⟨w.heap.size, 4, none⟩ = some (.int .i64 by') ∧ W.cell? ⟨w.heap.size, 5, none⟩ = some (.int .i64 cx) ∧ W.cell? ⟨w.heap.size, 6, none⟩ = some (.int .i64 cy) ∧ W.cell? ⟨w.heap.size + 1, 0, none⟩ = some (.int .i64 k') ∧ W.cell? ⟨w.heap.size + 1, 1, none⟩ = some (.int .i64 dx) ∧ W.cell? ⟨w.heap.size + 1, 2, none⟩ = some (.int .i64 dy) ∧ W.cell? ⟨w.heap.size + 1, 3, none⟩ = some (.int .i64 ex) ∧ W.cell? ⟨w.heap.size + 1, 4, none⟩ = some (.int .i64 ey) ∧ W.cell? ⟨w.heap.size + 1, 5, none⟩ = some (.int .i64 fx) ∧ W.cell? ⟨w.heap.size + 1, 6, none⟩ = some (.int .i64 fy)) (by kernel_rfl) (by kernel_rfl) ?_ ?_ ?_ | refine wp_region_FCs (fun W => W.cell? ⟨w.heap.size, 0, none⟩ = some (.int .i64 k) ∧ W.cell? ⟨w.heap.size, 1, none⟩ = some (.int .i64 ax) ∧ W.cell? ⟨w.heap.size, 2, none⟩ = some (.int .i64 ay) ∧ W.cell? ⟨w.heap.size, 3, none⟩ = some (.int .i64 bx) ∧ W.cell? ⟨w.heap.size, 4, none⟩ = some (.int .i64 by') ∧ W.cell? ⟨w.heap.size, 5, none⟩ = some (.int .i64 cx) ∧ W.cell? ⟨w.heap.size, 6, none⟩ = some (.int .i64 cy) ∧ W.cell? ⟨w.heap.size + 1, 0, none⟩ = some (.int .i64 k') ∧ W.cell? ⟨w.heap.size + 1, 1, none⟩ = some (.int .i64 dx) ∧ W.cell? ⟨w.heap.size + 1, 2, none⟩ = some (.int .i64 dy) ∧ W.cell? ⟨w.heap.size + 1, 3, none⟩ = some (.int .i64 ex) ∧ W.cell? ⟨w.heap.size + 1, 4, none⟩ = some (.int .i64 ey) ∧ W.cell? ⟨w.heap.size + 1, 5, none⟩ = some (.int .i64 fx) ∧ W.cell? ⟨w.heap.size + 1, 6, none⟩ = some (.int .i64 fy)) ?_ ?_ ?_
  · go_simp
  · (intro W W' h hx hb; have hs := hx.size; (try simp at hs); have hbc : ∀ b o, b < W.heap.size → W'.cell? ⟨b, o, none⟩ = W.cell? ⟨b, o, none⟩ := fun b o h => hb.cell (p := ⟨b, o, none⟩) h; (try dsimp only at h ⊢); simp (disch := omega) only [hbc]; exact h)
  repeat (first | (refine F_skip (by rfl) ?_; simp only [Act.put, List.setIfInBounds_toArray, List.set_cons_zero, List.set_cons_succ]) | (refine F_run (v := ?_) (by rfl) ?_ ?_; rotate_left; (· (intro W hW; (try dsimp only at hW); go_simp; try with_reducible rfl)); simp only [Act.put, List.setIfInBounds_toArray, List.set_cons_zero, List.set_cons_succ]))
  (refine F_call (v := .iface 65 (.agg #[.int .i64 f1, .int .i64 f2, .int .i64 f3, .int .i64 f4])) (by rfl) (by rfl) ?_ ?_; (· (intro W hW; (try dsimp only at hW); go_simp; refine (F1.out _).mono ?_; rintro e w' ⟨rfl, hx⟩; exact ⟨_, rfl, rfl, hx⟩))); simp only [Act.put, List.setIfInBounds_toArray, List.set_cons_zero, List.set_cons_succ]
  repeat (first | (refine F_skip (by rfl) ?_; simp only [Act.put, List.setIfInBounds_toArray, List.set_cons_zero, List.set_cons_succ]) | (refine F_run (v := ?_) (by rfl) ?_ ?_; rotate_left; (· (intro W hW; (try dsimp only at hW); go_simp; try with_reducible rfl)); simp only [Act.put, List.setIfInBounds_toArray, List.set_cons_zero, List.set_cons_succ]))
  (refine F_call (v := .iface 63 (.agg #[.int .i64 px, .int .i64 py])) (by rfl) (by rfl) ?_ ?_; (· (intro W hW; (try dsimp only at hW); go_simp; refine (F2.out _).mono ?_; rintro e w' ⟨rfl, hx⟩; exact ⟨_, rfl, rfl, hx⟩))); simp only [Act.put, List.setIfInBounds_toArray, List.set_cons_zero, List.set_cons_succ]
  repeat (first | (refine F_skip (by rfl) ?_; simp only [Act.put, List.setIfInBounds_toArray, List.set_cons_zero, List.set_cons_succ]) | (refine F_run (v := ?_) (by rfl) ?_ ?_; rotate_left; (· (intro W hW; (try dsimp only at hW); go_simp; try with_reducible rfl)); simp only [Act.put, List.setIfInBounds_toArray, List.set_cons_zero, List.set_cons_succ]))
  rintro W ⟨hx, hc⟩
  have hx3 : Ext w W := Ext.step hx2 hx
  have hs3 := hx.size
  have hf0 : ∀ o, W.frozen? ⟨w.heap.size, o, none⟩ = w2.frozen? ⟨w.heap.size, o, none⟩ := fun o => hx.frozen (p := ⟨w.heap.size, o, none⟩) (show w.heap.size < w2.heap.size by omega)
  have hf1 : ∀ o, W.frozen? ⟨w.heap.size + 1, o, none⟩ = w2.frozen? ⟨w.heap.size + 1, o, none⟩ := fun o => hx.frozen (p := ⟨w.heap.size + 1, o, none⟩) (show w.heap.size + 1 < w2.heap.size by omega)
  clear hx
  (try dsimp only at hc)
  go_wp2_with fail
  refine (kind_line _ _ _ _ _).mono ?_
  rintro e w4 ⟨rfl, hx⟩
  have hx4 : Ext w w4 := Ext.step hx3 hx
  have hs4 := hx.size
  have hz_w4 : w.heap.size + 2 ≤ w4.heap.size := Nat.le_trans (by first | omega | (simp; done) | (simp; omega)) hx.size
  have hl_w4_0 : w.heap.size < w4.heap.size := Nat.lt_of_lt_of_le (by omega) hz_w4
  have hk_w4_0 : ∀ o, w4.cell? ⟨w.heap.size, o, none⟩ = _ := fun o => hx.cell (p := ⟨w.heap.size, o, none⟩) (show w.heap.size < _ from (by first | omega | (simp; done) | (simp; omega)))
  have hf_w4_0 : ∀ o, w4.frozen? ⟨w.heap.size, o, none⟩ = _ := fun o => hx.frozen (p := ⟨w.heap.size, o, none⟩) (show w.heap.size < _ from (by first | omega | (simp; done) | (simp; omega)))
  have hl_w4_1 : w.heap.size + 1 < w4.heap.size := Nat.lt_of_lt_of_le (by omega) hz_w4
  have hk_w4_1 : ∀ o, w4.cell? ⟨w.heap.size + 1, o, none⟩ = _ := fun o => hx.cell (p := ⟨w.heap.size + 1, o, none⟩) (show w.heap.size + 1 < _ from (by first | omega | (simp; done) | (simp; omega)))
  have hf_w4_1 : ∀ o, w4.frozen? ⟨w.heap.size + 1, o, none⟩ = _ := fun o => hx.frozen (p := ⟨w.heap.size + 1, o, none⟩) (show w.heap.size + 1 < _ from (by first | omega | (simp; done) | (simp; omega)))
  clear hx
  go_wp2_with fail
  refine (kind_point _ _ _).mono ?_
  rintro e w5 ⟨rfl, hx⟩
  have hx5 : Ext w w5 := Ext.step hx4 hx
  have hs5 := hx5.size
  have hz_w5 : w.heap.size + 2 ≤ w5.heap.size := Nat.le_trans (by first | omega | (simp; done) | (simp; omega)) hx.size
  have hl_w5_0 : w.heap.size < w5.heap.size := Nat.lt_of_lt_of_le (by omega) hz_w5
  have hk_w5_0 : ∀ o, w5.cell? ⟨w.heap.size, o, none⟩ = _ := fun o => hx.cell (p := ⟨w.heap.size, o, none⟩) (show w.heap.size < _ from (by first | omega | (simp; done) | (simp; omega)))
  have hf_w5_0 : ∀ o, w5.frozen? ⟨w.heap.size, o, none⟩ = _ := fun o => hx.frozen (p := ⟨w.heap.size, o, none⟩) (show w.heap.size < _ from (by first | omega | (simp; done) | (simp; omega)))
  have hl_w5_1 : w.heap.size + 1 < w5.heap.size := Nat.lt_of_lt_of_le (by omega) hz_w5
  have hk_w5_1 : ∀ o, w5.cell? ⟨w.heap.size + 1, o, none⟩ = _ := fun o => hx.cell (p := ⟨w.heap.size + 1, o, none⟩) (show w.heap.size + 1 < _ from (by first | omega | (simp; done) | (simp; omega)))
  have hf_w5_1 : ∀ o, w5.frozen? ⟨w.heap.size + 1, o, none⟩ = _ := fun o => hx.frozen (p := ⟨w.heap.size + 1, o, none⟩) (show w.heap.size + 1 < _ from (by first | omega | (simp; done) | (simp; omega)))
  clear hx
  have hq : (fun W => (W.cell? ⟨w.heap.size, 0, none⟩ = some (.int .i64 k) ∧ W.cell? ⟨w.heap.size, 1, none⟩ = some (.int .i64 ax) ∧ W.cell? ⟨w.heap.size, 2, none⟩ = some (.int .i64 ay) ∧ W.cell? ⟨w.heap.size, 3, none⟩ = some (.int .i64 bx) ∧ W.cell? ⟨w.heap.size, 4, none⟩ = some (.int .i64 by') ∧ W.cell? ⟨w.heap.size, 5, none⟩ = some (.int .i64 cx) ∧ W.cell? ⟨w.heap.size, 6, none⟩ = some (.int .i64 cy) ∧ W.cell? ⟨w.heap.size + 1, 0, none⟩ = some (.int .i64 k') ∧ W.cell? ⟨w.heap.size + 1, 1, none⟩ = some (.int .i64 dx) ∧ W.cell? ⟨w.heap.size + 1, 2, none⟩ = some (.int .i64 dy) ∧ W.cell? ⟨w.heap.size + 1, 3, none⟩ = some (.int .i64 ex) ∧ W.cell? ⟨w.heap.size + 1, 4, none⟩ = some (.int .i64 ey) ∧ W.cell? ⟨w.heap.size + 1, 5, none⟩ = some (.int .i64 fx) ∧ W.cell? ⟨w.heap.size + 1, 6, none⟩ = some (.int .i64 fy) )) w5 := by
    (try dsimp only)
    go_simp
  obtain ⟨z0, z1, z2, z3, z4, z5, z6, z7, z8, z9, z10, z11, z12, z13⟩ := hq
  have y0 : ∀ o, w5.frozen? ⟨w.heap.size, o, none⟩ = false := by intro o; go_simp
  have y1 : ∀ o, w5.frozen? ⟨w.heap.size + 1, o, none⟩ = false := by intro o; go_simp
  clear C1 C2 F1 F2 hc hk_w5_0 hk_w5_1 hf_w5_0 hf_w5_1 hk_w4_0 hk_w4_1 hf_w4_0 hf_w4_1 hk_w2_0 hk_w2_1 hf_w2_0 hf_w2_1 hk_w1_0 hk_w1_1 hf_w1_0 hf_w1_1 hf0 hf1
  go_wp2_with fail
  go_still_tail 6, (by kernel_rfl)
  change wpList _ _ _ _ _ w5.drew
  go_upto_region 6 with (fail)
  refine wp_world (fun W => Below w.heap.size w5 W ∧ W.cell? ⟨w.heap.size, 0, none⟩ = some (.int .i64 k') ∧ W.cell? ⟨w.heap.size, 1, none⟩ = some (.int .i64 dx) ∧ W.cell? ⟨w.heap.size, 2, none⟩ = some (.int .i64 dy) ∧ W.cell? ⟨w.heap.size, 3, none⟩ = some (.int .i64 ex) ∧ W.cell? ⟨w.heap.size, 4, none⟩ = some (.int .i64 ey) ∧ W.cell? ⟨w.heap.size, 5, none⟩ = some (.int .i64 fx) ∧ W.cell? ⟨w.heap.size, 6, none⟩ = some (.int .i64 fy) ∧ W.cell? ⟨w.heap.size + 1, 0, none⟩ = some (.int .i64 k) ∧ W.cell? ⟨w.heap.size + 1, 1, none⟩ = some (.int .i64 ax) ∧ W.cell? ⟨w.heap.size + 1, 2, none⟩ = some (.int .i64 ay) ∧ W.cell? ⟨w.heap.size + 1, 3, none⟩ = some (.int .i64 bx) ∧ W.cell? ⟨w.heap.size + 1, 4, none⟩ = some (.int .i64 by') ∧ W.cell? ⟨w.heap.size + 1, 5, none⟩ = some (.int .i64 cx) ∧ W.cell? ⟨w.heap.size + 1, 6, none⟩ = some (.int .i64 cy) ) ?_ ?_
  · refine ⟨?_, ?_⟩
    · refine Below.drew ?_
      iterate 14 refine Below.setCell ?_ (by first | exact Nat.le_refl _ | exact Nat.le_succ _) _
      exact Below.refl _ _
    · go_simp
  clear z0 z1 z2 z3 z4 z5 z6 z7 z8 z9 z10 z11 z12 z13
  rintro W7 ⟨hx7, z0, z1, z2, z3, z4, z5, z6, z7, z8, z9, z10, z11, z12, z13⟩
  have hs7 := hx7.size
  have hl7 : w.heap.size < W7.heap.size := by omega
  have hm7 : w.heap.size + 1 < W7.heap.size := by omega
  replace hx7 : Ext w W7 := hx5.trans hx7
  go_wp2_with fail
  refine (BL.out _).mono ?_
  rintro e w6 ⟨rfl, hx⟩
  have hx6 : Ext w w6 := Ext.step (by (repeat (first | exact Below.refl _ _ | assumption | refine Below.drewN ?_ _ | refine Below.drew ?_ | refine Below.setCell ?_ (by first | exact Nat.le_refl _ | (simp; done) | (simp; omega) | omega) _ | refine Below.alloc ?_ (by first | exact Nat.le_refl _ | (simp; done) | (simp; omega) | omega) _))) hx
  cases res with
  | true =>
    go_wp2
    go_ret
    exact ⟨rfl, hx6⟩
  | false =>
    go_wp2
    go_ret
    exact ⟨rfl, hx6⟩
set_option maxRecDepth 100000 in
set_option maxHeartbeats 4000000 in
theorem Count_arc_point (k ax ay bx by' cx cy k' dx dy ex ey fx fy px py f1 f2 f3 f4 f5 f6 f7 : Int) (res : Bool) (w : World)
    (C1 : ∀ w : World, Calls Try.prog 26 #[.agg #[.int .i64 k, .int .i64 ax, .int .i64 ay, .int .i64 bx, .int .i64 by', .int .i64 cx, .int .i64 cy]] w fun e w' => e = .returned (.int .i64 0) ∧ Ext w w')
    (C2 : ∀ w : World, Calls Try.prog 26 #[.agg #[.int .i64 k', .int .i64 dx, .int .i64 dy, .int .i64 ex, .int .i64 ey, .int .i64 fx, .int .i64 fy]] w fun e w' => e = .returned (.int .i64 0) ∧ Ext w w')
    (F1 : ∀ w : World, Calls Try.prog 27 #[.agg #[.int .i64 k, .int .i64 ax, .int .i64 ay, .int .i64 bx, .int .i64 by', .int .i64 cx, .int .i64 cy]] w fun e w' => e = .returned (.iface 69 (.agg #[.int .i64 f1, .int .i64 f2, .int .i64 f3, .int .i64 f4, .int .i64 f5, .int .i64 f6, .int .i64 f7])) ∧ Ext w w')
    (F2 : ∀ w : World, Calls Try.prog 27 #[.agg #[.int .i64 k', .int .i64 dx, .int .i64 dy, .int .i64 ex, .int .i64 ey, .int .i64 fx, .int .i64 fy]] w fun e w' => e = .returned (.iface 63 (.agg #[.int .i64 px, .int .i64 py])) ∧ Ext w w')
    (BL : ∀ w : World, Calls Try.prog 18 #[.agg #[.int .i64 k, .int .i64 ax, .int .i64 ay, .int .i64 bx, .int .i64 by', .int .i64 cx, .int .i64 cy], .agg #[.int .i64 px, .int .i64 py]] w fun e w' => e = .returned (.bool res) ∧ Ext w w') :
    Calls Try.prog 10 #[.agg #[.int .i64 k, .int .i64 ax, .int .i64 ay, .int .i64 bx, .int .i64 by', .int .i64 cx, .int .i64 cy], .agg #[.int .i64 k', .int .i64 dx, .int .i64 dy, .int .i64 ex, .int .i64 ey, .int .i64 fx, .int .i64 fy]] w fun e w' => e = .returned (.int .i64 (if res then 1 else 0)) ∧ Ext w w' := by
  replace C1 := Lib.hid C1
  replace C2 := Lib.hid C2
  replace F1 := Lib.hid F1
  replace F2 := Lib.hid F2
  replace BL := Lib.hid BL
  have a1 := as_point_point
  go_enter Try.func10, Try.ntmps10
  go_wp2_with fail
  refine (C1.out _).mono ?_
  rintro e w1 ⟨rfl, hx⟩
  have hx0 : Ext w w1 := Ext.step (by (repeat (first | exact Below.refl _ _ | assumption | refine Below.drewN ?_ _ | refine Below.drew ?_ | refine Below.setCell ?_ (by first | exact Nat.le_refl _ | (simp; done) | (simp; omega) | omega) _ | refine Below.alloc ?_ (by first | exact Nat.le_refl _ | (simp; done) | (simp; omega) | omega) _))) hx
  have hs0 := hx0.size
  have hz_w1 : w.heap.size + 2 ≤ w1.heap.size := Nat.le_trans (by first | omega | (simp; done) | (simp; omega)) hx.size
  have hl_w1_0 : w.heap.size < w1.heap.size := Nat.lt_of_lt_of_le (by omega) hz_w1
  have hk_w1_0 : ∀ o, w1.cell? ⟨w.heap.size, o, none⟩ = _ := fun o => hx.cell (p := ⟨w.heap.size, o, none⟩) (show w.heap.size < _ from (by first | omega | (simp; done) | (simp; omega)))
  have hf_w1_0 : ∀ o, w1.frozen? ⟨w.heap.size, o, none⟩ = _ := fun o => hx.frozen (p := ⟨w.heap.size, o, none⟩) (show w.heap.size < _ from (by first | omega | (simp; done) | (simp; omega)))
  have hl_w1_1 : w.heap.size + 1 < w1.heap.size := Nat.lt_of_lt_of_le (by omega) hz_w1
  have hk_w1_1 : ∀ o, w1.cell? ⟨w.heap.size + 1, o, none⟩ = _ := fun o => hx.cell (p := ⟨w.heap.size + 1, o, none⟩) (show w.heap.size + 1 < _ from (by first | omega | (simp; done) | (simp; omega)))
  have hf_w1_1 : ∀ o, w1.frozen? ⟨w.heap.size + 1, o, none⟩ = _ := fun o => hx.frozen (p := ⟨w.heap.size + 1, o, none⟩) (show w.heap.size + 1 < _ from (by first | omega | (simp; done) | (simp; omega)))
  clear hx
  go_wp2_with fail
  refine (C2.out _).mono ?_
  rintro e w2 ⟨rfl, hx⟩
  have hx2 : Ext w w2 := Ext.step hx0 hx
  have hs2 := hx2.size
  have hz_w2 : w.heap.size + 2 ≤ w2.heap.size := Nat.le_trans (by first | omega | (simp; done) | (simp; omega)) hx.size
  have hl_w2_0 : w.heap.size < w2.heap.size := Nat.lt_of_lt_of_le (by omega) hz_w2
  have hk_w2_0 : ∀ o, w2.cell? ⟨w.heap.size, o, none⟩ = _ := fun o => hx.cell (p := ⟨w.heap.size, o, none⟩) (show w.heap.size < _ from (by first | omega | (simp; done) | (simp; omega)))
  have hf_w2_0 : ∀ o, w2.frozen? ⟨w.heap.size, o, none⟩ = _ := fun o => hx.frozen (p := ⟨w.heap.size, o, none⟩) (show w.heap.size < _ from (by first | omega | (simp; done) | (simp; omega)))
  have hl_w2_1 : w.heap.size + 1 < w2.heap.size := Nat.lt_of_lt_of_le (by omega) hz_w2
  have hk_w2_1 : ∀ o, w2.cell? ⟨w.heap.size + 1, o, none⟩ = _ := fun o => hx.cell (p := ⟨w.heap.size + 1, o, none⟩) (show w.heap.size + 1 < _ from (by first | omega | (simp; done) | (simp; omega)))
  have hf_w2_1 : ∀ o, w2.frozen? ⟨w.heap.size + 1, o, none⟩ = _ := fun o => hx.frozen (p := ⟨w.heap.size + 1, o, none⟩) (show w.heap.size + 1 < _ from (by first | omega | (simp; done) | (simp; omega)))
  clear hx
  go_wp2_with fail
  first | refine wp_region_FC (fun W => W.cell? ⟨w.heap.size, 0, none⟩ = some (.int .i64 k) ∧ W.cell? ⟨w.heap.size, 1, none⟩ = some (.int .i64 ax) ∧ W.cell? ⟨w.heap.size, 2, none⟩ = some (.int .i64 ay) ∧ W.cell? ⟨w.heap.size, 3, none⟩ = some (.int .i64 bx) ∧ W.cell? ⟨w.heap.size, 4, none⟩ = some (.int .i64 by') ∧ W.cell? ⟨w.heap.size, 5, none⟩ = some (.int .i64 cx) ∧ W.cell? ⟨w.heap.size, 6, none⟩ = some (.int .i64 cy) ∧ W.cell? ⟨w.heap.size + 1, 0, none⟩ = some (.int .i64 k') ∧ W.cell? ⟨w.heap.size + 1, 1, none⟩ = some (.int .i64 dx) ∧ W.cell? ⟨w.heap.size + 1, 2, none⟩ = some (.int .i64 dy) ∧ W.cell? ⟨w.heap.size + 1, 3, none⟩ = some (.int .i64 ex) ∧ W.cell? ⟨w.heap.size + 1, 4, none⟩ = some (.int .i64 ey) ∧ W.cell? ⟨w.heap.size + 1, 5, none⟩ = some (.int .i64 fx) ∧ W.cell? ⟨w.heap.size + 1, 6, none⟩ = some (.int .i64 fy)) (by kernel_rfl) (by kernel_rfl) ?_ ?_ ?_ | refine wp_region_FCs (fun W => W.cell? ⟨w.heap.size, 0, none⟩ = some (.int .i64 k) ∧ W.cell? ⟨w.heap.size, 1, none⟩ = some (.int .i64 ax) ∧ W.cell? ⟨w.heap.size, 2, none⟩ = some (.int .i64 ay) ∧ W.cell? ⟨w.heap.size, 3, none⟩ = some (.int .i64 bx) ∧ W.cell? ⟨w.heap.size, 4, none⟩ = some (.int .i64 by') ∧ W.cell? ⟨w.heap.size, 5, none⟩ = some (.int .i64 cx) ∧ W.cell? ⟨w.heap.size, 6, none⟩ = some (.int .i64 cy) ∧ W.cell? ⟨w.heap.size + 1, 0, none⟩ = some (.int .i64 k') ∧ W.cell? ⟨w.heap.size + 1, 1, none⟩ = some (.int .i64 dx) ∧ W.cell? ⟨w.heap.size + 1, 2, none⟩ = some (.int .i64 dy) ∧ W.cell? ⟨w.heap.size + 1, 3, none⟩ = some (.int .i64 ex) ∧ W.cell? ⟨w.heap.size + 1, 4, none⟩ = some (.int .i64 ey) ∧ W.cell? ⟨w.heap.size + 1, 5, none⟩ = some (.int .i64 fx) ∧ W.cell? ⟨w.heap.size + 1, 6, none⟩ = some (.int .i64 fy)) ?_ ?_ ?_
  · go_simp
  · (intro W W' h hx hb; have hs := hx.size; (try simp at hs); have hbc : ∀ b o, b < W.heap.size → W'.cell? ⟨b, o, none⟩ = W.cell? ⟨b, o, none⟩ := fun b o h => hb.cell (p := ⟨b, o, none⟩) h; (try dsimp only at h ⊢); simp (disch := omega) only [hbc]; exact h)
  repeat (first | (refine F_skip (by rfl) ?_; simp only [Act.put, List.setIfInBounds_toArray, List.set_cons_zero, List.set_cons_succ]) | (refine F_run (v := ?_) (by rfl) ?_ ?_; rotate_left; (· (intro W hW; (try dsimp only at hW); go_simp; try with_reducible rfl)); simp only [Act.put, List.setIfInBounds_toArray, List.set_cons_zero, List.set_cons_succ]))
  (refine F_call (v := .iface 69 (.agg #[.int .i64 f1, .int .i64 f2, .int .i64 f3, .int .i64 f4, .int .i64 f5, .int .i64 f6, .int .i64 f7])) (by rfl) (by rfl) ?_ ?_; (· (intro W hW; (try dsimp only at hW); go_simp; refine (F1.out _).mono ?_; rintro e w' ⟨rfl, hx⟩; exact ⟨_, rfl, rfl, hx⟩))); simp only [Act.put, List.setIfInBounds_toArray, List.set_cons_zero, List.set_cons_succ]
  repeat (first | (refine F_skip (by rfl) ?_; simp only [Act.put, List.setIfInBounds_toArray, List.set_cons_zero, List.set_cons_succ]) | (refine F_run (v := ?_) (by rfl) ?_ ?_; rotate_left; (· (intro W hW; (try dsimp only at hW); go_simp; try with_reducible rfl)); simp only [Act.put, List.setIfInBounds_toArray, List.set_cons_zero, List.set_cons_succ]))
  (refine F_call (v := .iface 63 (.agg #[.int .i64 px, .int .i64 py])) (by rfl) (by rfl) ?_ ?_; (· (intro W hW; (try dsimp only at hW); go_simp; refine (F2.out _).mono ?_; rintro e w' ⟨rfl, hx⟩; exact ⟨_, rfl, rfl, hx⟩))); simp only [Act.put, List.setIfInBounds_toArray, List.set_cons_zero, List.set_cons_succ]
  repeat (first | (refine F_skip (by rfl) ?_; simp only [Act.put, List.setIfInBounds_toArray, List.set_cons_zero, List.set_cons_succ]) | (refine F_run (v := ?_) (by rfl) ?_ ?_; rotate_left; (· (intro W hW; (try dsimp only at hW); go_simp; try with_reducible rfl)); simp only [Act.put, List.setIfInBounds_toArray, List.set_cons_zero, List.set_cons_succ]))
  rintro W ⟨hx, hc⟩
  have hx3 : Ext w W := Ext.step hx2 hx
  have hs3 := hx.size
  have hf0 : ∀ o, W.frozen? ⟨w.heap.size, o, none⟩ = w2.frozen? ⟨w.heap.size, o, none⟩ := fun o => hx.frozen (p := ⟨w.heap.size, o, none⟩) (show w.heap.size < w2.heap.size by omega)
  have hf1 : ∀ o, W.frozen? ⟨w.heap.size + 1, o, none⟩ = w2.frozen? ⟨w.heap.size + 1, o, none⟩ := fun o => hx.frozen (p := ⟨w.heap.size + 1, o, none⟩) (show w.heap.size + 1 < w2.heap.size by omega)
  clear hx
  (try dsimp only at hc)
  go_wp2_with fail
  refine (kind_arc _ _ _ _ _ _ _ _).mono ?_
  rintro e w4 ⟨rfl, hx⟩
  have hx4 : Ext w w4 := Ext.step hx3 hx
  have hs4 := hx.size
  have hz_w4 : w.heap.size + 2 ≤ w4.heap.size := Nat.le_trans (by first | omega | (simp; done) | (simp; omega)) hx.size
  have hl_w4_0 : w.heap.size < w4.heap.size := Nat.lt_of_lt_of_le (by omega) hz_w4
  have hk_w4_0 : ∀ o, w4.cell? ⟨w.heap.size, o, none⟩ = _ := fun o => hx.cell (p := ⟨w.heap.size, o, none⟩) (show w.heap.size < _ from (by first | omega | (simp; done) | (simp; omega)))
  have hf_w4_0 : ∀ o, w4.frozen? ⟨w.heap.size, o, none⟩ = _ := fun o => hx.frozen (p := ⟨w.heap.size, o, none⟩) (show w.heap.size < _ from (by first | omega | (simp; done) | (simp; omega)))
  have hl_w4_1 : w.heap.size + 1 < w4.heap.size := Nat.lt_of_lt_of_le (by omega) hz_w4
  have hk_w4_1 : ∀ o, w4.cell? ⟨w.heap.size + 1, o, none⟩ = _ := fun o => hx.cell (p := ⟨w.heap.size + 1, o, none⟩) (show w.heap.size + 1 < _ from (by first | omega | (simp; done) | (simp; omega)))
  have hf_w4_1 : ∀ o, w4.frozen? ⟨w.heap.size + 1, o, none⟩ = _ := fun o => hx.frozen (p := ⟨w.heap.size + 1, o, none⟩) (show w.heap.size + 1 < _ from (by first | omega | (simp; done) | (simp; omega)))
  clear hx
  go_wp2_with fail
  refine (kind_point _ _ _).mono ?_
  rintro e w5 ⟨rfl, hx⟩
  have hx5 : Ext w w5 := Ext.step hx4 hx
  have hs5 := hx5.size
  have hz_w5 : w.heap.size + 2 ≤ w5.heap.size := Nat.le_trans (by first | omega | (simp; done) | (simp; omega)) hx.size
  have hl_w5_0 : w.heap.size < w5.heap.size := Nat.lt_of_lt_of_le (by omega) hz_w5
  have hk_w5_0 : ∀ o, w5.cell? ⟨w.heap.size, o, none⟩ = _ := fun o => hx.cell (p := ⟨w.heap.size, o, none⟩) (show w.heap.size < _ from (by first | omega | (simp; done) | (simp; omega)))
  have hf_w5_0 : ∀ o, w5.frozen? ⟨w.heap.size, o, none⟩ = _ := fun o => hx.frozen (p := ⟨w.heap.size, o, none⟩) (show w.heap.size < _ from (by first | omega | (simp; done) | (simp; omega)))
  have hl_w5_1 : w.heap.size + 1 < w5.heap.size := Nat.lt_of_lt_of_le (by omega) hz_w5
  have hk_w5_1 : ∀ o, w5.cell? ⟨w.heap.size + 1, o, none⟩ = _ := fun o => hx.cell (p := ⟨w.heap.size + 1, o, none⟩) (show w.heap.size + 1 < _ from (by first | omega | (simp; done) | (simp; omega)))
  have hf_w5_1 : ∀ o, w5.frozen? ⟨w.heap.size + 1, o, none⟩ = _ := fun o => hx.frozen (p := ⟨w.heap.size + 1, o, none⟩) (show w.heap.size + 1 < _ from (by first | omega | (simp; done) | (simp; omega)))
  clear hx
  have hq : (fun W => (W.cell? ⟨w.heap.size, 0, none⟩ = some (.int .i64 k) ∧ W.cell? ⟨w.heap.size, 1, none⟩ = some (.int .i64 ax) ∧ W.cell? ⟨w.heap.size, 2, none⟩ = some (.int .i64 ay) ∧ W.cell? ⟨w.heap.size, 3, none⟩ = some (.int .i64 bx) ∧ W.cell? ⟨w.heap.size, 4, none⟩ = some (.int .i64 by') ∧ W.cell? ⟨w.heap.size, 5, none⟩ = some (.int .i64 cx) ∧ W.cell? ⟨w.heap.size, 6, none⟩ = some (.int .i64 cy) ∧ W.cell? ⟨w.heap.size + 1, 0, none⟩ = some (.int .i64 k') ∧ W.cell? ⟨w.heap.size + 1, 1, none⟩ = some (.int .i64 dx) ∧ W.cell? ⟨w.heap.size + 1, 2, none⟩ = some (.int .i64 dy) ∧ W.cell? ⟨w.heap.size + 1, 3, none⟩ = some (.int .i64 ex) ∧ W.cell? ⟨w.heap.size + 1, 4, none⟩ = some (.int .i64 ey) ∧ W.cell? ⟨w.heap.size + 1, 5, none⟩ = some (.int .i64 fx) ∧ W.cell? ⟨w.heap.size + 1, 6, none⟩ = some (.int .i64 fy) )) w5 := by
    (try dsimp only)
    go_simp
  obtain ⟨z0, z1, z2, z3, z4, z5, z6, z7, z8, z9, z10, z11, z12, z13⟩ := hq
  have y0 : ∀ o, w5.frozen? ⟨w.heap.size, o, none⟩ = false := by intro o; go_simp
  have y1 : ∀ o, w5.frozen? ⟨w.heap.size + 1, o, none⟩ = false := by intro o; go_simp
  clear C1 C2 F1 F2 hc hk_w5_0 hk_w5_1 hf_w5_0 hf_w5_1 hk_w4_0 hk_w4_1 hf_w4_0 hf_w4_1 hk_w2_0 hk_w2_1 hf_w2_0 hf_w2_1 hk_w1_0 hk_w1_1 hf_w1_0 hf_w1_1 hf0 hf1
  go_wp2_with fail
  go_still_tail 6, (by kernel_rfl)
  change wpList _ _ _ _ _ w5.drew
  go_upto_region 6 with (fail)
  refine wp_world (fun W => Below w.heap.size w5 W ∧ W.cell? ⟨w.heap.size, 0, none⟩ = some (.int .i64 k') ∧ W.cell? ⟨w.heap.size, 1, none⟩ = some (.int .i64 dx) ∧ W.cell? ⟨w.heap.size, 2, none⟩ = some (.int .i64 dy) ∧ W.cell? ⟨w.heap.size, 3, none⟩ = some (.int .i64 ex) ∧ W.cell? ⟨w.heap.size, 4, none⟩ = some (.int .i64 ey) ∧ W.cell? ⟨w.heap.size, 5, none⟩ = some (.int .i64 fx) ∧ W.cell? ⟨w.heap.size, 6, none⟩ = some (.int .i64 fy) ∧ W.cell? ⟨w.heap.size + 1, 0, none⟩ = some (.int .i64 k) ∧ W.cell? ⟨w.heap.size + 1, 1, none⟩ = some (.int .i64 ax) ∧ W.cell? ⟨w.heap.size + 1, 2, none⟩ = some (.int .i64 ay) ∧ W.cell? ⟨w.heap.size + 1, 3, none⟩ = some (.int .i64 bx) ∧ W.cell? ⟨w.heap.size + 1, 4, none⟩ = some (.int .i64 by') ∧ W.cell? ⟨w.heap.size + 1, 5, none⟩ = some (.int .i64 cx) ∧ W.cell? ⟨w.heap.size + 1, 6, none⟩ = some (.int .i64 cy) ) ?_ ?_
  · refine ⟨?_, ?_⟩
    · refine Below.drew ?_
      iterate 14 refine Below.setCell ?_ (by first | exact Nat.le_refl _ | exact Nat.le_succ _) _
      exact Below.refl _ _
    · go_simp
  clear z0 z1 z2 z3 z4 z5 z6 z7 z8 z9 z10 z11 z12 z13
  rintro W7 ⟨hx7, z0, z1, z2, z3, z4, z5, z6, z7, z8, z9, z10, z11, z12, z13⟩
  have hs7 := hx7.size
  have hl7 : w.heap.size < W7.heap.size := by omega
  have hm7 : w.heap.size + 1 < W7.heap.size := by omega
  replace hx7 : Ext w W7 := hx5.trans hx7
  go_wp2_with fail
  refine (BL.out _).mono ?_
  rintro e w6 ⟨rfl, hx⟩
  have hx6 : Ext w w6 := Ext.step (by (repeat (first | exact Below.refl _ _ | assumption | refine Below.drewN ?_ _ | refine Below.drew ?_ | refine Below.setCell ?_ (by first | exact Nat.le_refl _ | (simp; done) | (simp; omega) | omega) _ | refine Below.alloc ?_ (by first | exact Nat.le_refl _ | (simp; done) | (simp; omega) | omega) _))) hx
  cases res with
  | true =>
    go_wp2
    go_ret
    exact ⟨rfl, hx6⟩
  | false =>
    go_wp2
    go_ret
    exact ⟨rfl, hx6⟩
end Go.Proofs.Ytmmhiiiaccldmaa
