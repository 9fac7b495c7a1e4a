/- Contracts: meet.Count of a line and an arc. | Contracts: meet.Count of two arcs, from the contracts of its callees. | Contract: meet.Count, meet.Edges. -/
import Derived.Test.YtmmhiiiaccldmaaJ21
import Derived.Test.YtmmhiiiaccldmaaJ22
import Derived.Test.YtmmhiiiaccldmaaJ24
set_option linter.unusedVariables false
set_option linter.unusedSimpArgs false

namespace Go.Proofs.Ytmmhiiiaccldmaa
open Go.RowKit
attribute [local go_sem] Gives givesU

set_option maxRecDepth 100000 in
set_option maxHeartbeats 4000000 in
theorem Count_lineArc (ax ay bx by' cx cy k dx dy ex ey fx fy : Int) (w : World) (h1 : (Ed.mk 1 ax ay bx by' cx cy).ok = true) (h2 : (Ed.mk k dx dy ex ey fx fy).ok = true) (n1 : ¬ (ax = bx ∧ ay = by')) (n2 : ¬ k = 1) (res : Int) (BL : ∀ w : World, Calls Try.prog 29 #[.agg #[.int .i64 ax, .int .i64 ay, .int .i64 bx, .int .i64 by'], .agg #[.int .i64 fx, .int .i64 fy, .int .i64 (radZ (Ed.mk k dx dy ex ey fx fy)), .int .i64 ((dx - fx).tdiv (radZ (Ed.mk k dx dy ex ey fx fy))), .int .i64 ((dy - fy).tdiv (radZ (Ed.mk k dx dy ex ey fx fy))), .int .i64 ((ex - fx).tdiv (radZ (Ed.mk k dx dy ex ey fx fy))), .int .i64 ((ey - fy).tdiv (radZ (Ed.mk k dx dy ex ey fx fy)))]] w fun e w' => e = .returned (.int .i64 res) ∧ Ext w w') :
    Calls Try.prog 10 #[.agg #[.int .i64 1, .int .i64 ax, .int .i64 ay, .int .i64 bx, .int .i64 by', .int .i64 cx, .int .i64 cy], .agg #[.int .i64 k, .int .i64 dx, .int .i64 dy, .int .i64 ex, .int .i64 ey, .int .i64 fx, .int .i64 fy]] w fun e w' => e = .returned (.int .i64 res) ∧ Ext w w' := by
  have BL := Lib.hid BL
  have C1 := Lib.hid (fun w => edge_Check_ok 1 ax ay bx by' cx cy w h1)
  have C2 := Lib.hid (fun w => edge_Check_ok k dx dy ex ey fx fy w h2)
  have F1 := Lib.hid (fun w => figured_line ax ay bx by' cx cy w n1)
  have F2 := Lib.hid (fun w => figured_arc k dx dy ex ey fx fy w h2 n2)
  clear h1 h2 n1 n2
  obtain ⟨rad, RAD⟩ : ∃ z, Hid (radZ (Ed.mk k dx dy ex ey fx fy) = z) := ⟨_, rfl⟩
  rw [RAD.out] at BL F2
  clear RAD
  have a3 := as_arc_line
  have a4 := as_arc_arc
  have a1 := as_line_point
  have a2 := as_line_line
  go_enter Try.func10, Try.ntmps10
  go_wp2_with fail
  refine (C1.out _).mono ?_
  rintro e w1 ⟨rfl, hx⟩
  have hx0 : Ext w w1 := Ext.step (by (repeat (first | exact Below.refl _ _ | assumption | refine Below.drewN ?_ _ | refine Below.drew ?_ | refine Below.setCell ?_ (by first | exact Nat.le_refl _ | (simp; done) | (simp; omega) | omega) _ | refine Below.alloc ?_ (by first | exact Nat.le_refl _ | (simp; done) | (simp; omega) | omega) _))) hx
  have hs0 := hx0.size
  have hz_w1 : w.heap.size + 2 ≤ w1.heap.size := Nat.le_trans (by first | omega | (simp; done) | (simp; omega)) hx.size
  have hl_w1_0 : w.heap.size < w1.heap.size := Nat.lt_of_lt_of_le (by omega) hz_w1
  have hk_w1_0 : ∀ o, w1.cell? ⟨w.heap.size, o, none⟩ = _ := fun o => hx.cell (p := ⟨w.heap.size, o, none⟩) (show w.heap.size < _ from (by first | omega | (simp; done) | (simp; omega)))
  have hf_w1_0 : ∀ o, w1.frozen? ⟨w.heap.size, o, none⟩ = _ := fun o => hx.frozen (p := ⟨w.heap.size, o, none⟩) (show w.heap.size < _ from (by first | omega | (simp; done) | (simp; omega)))
  have hl_w1_1 : w.heap.size + 1 < w1.heap.size := Nat.lt_of_lt_of_le (by omega) hz_w1
  have hk_w1_1 : ∀ o, w1.cell? ⟨w.heap.size + 1, o, none⟩ = _ := fun o => hx.cell (p := ⟨w.heap.size + 1, o, none⟩) (show w.heap.size + 1 < _ from (by first | omega | (simp; done) | (simp; omega)))
  have hf_w1_1 : ∀ o, w1.frozen? ⟨w.heap.size + 1, o, none⟩ = _ := fun o => hx.frozen (p := ⟨w.heap.size + 1, o, none⟩) (show w.heap.size + 1 < _ from (by first | omega | (simp; done) | (simp; omega)))
  clear hx
  go_wp2_with fail
  refine (C2.out _).mono ?_
  rintro e w2 ⟨rfl, hx⟩
  have hx2 : Ext w w2 := Ext.step hx0 hx
  have hs2 := hx2.size
  have hz_w2 : w.heap.size + 2 ≤ w2.heap.size := Nat.le_trans (by first | omega | (simp; done) | (simp; omega)) hx.size
  have hl_w2_0 : w.heap.size < w2.heap.size := Nat.lt_of_lt_of_le (by omega) hz_w2
  have hk_w2_0 : ∀ o, w2.cell? ⟨w.heap.size, o, none⟩ = _ := fun o => hx.cell (p := ⟨w.heap.size, o, none⟩) (show w.heap.size < _ from (by first | omega | (simp; done) | (simp; omega)))
  have hf_w2_0 : ∀ o, w2.frozen? ⟨w.heap.size, o, none⟩ = _ := fun o => hx.frozen (p := ⟨w.heap.size, o, none⟩) (show w.heap.size < _ from (by first | omega | (simp; done) | (simp; omega)))
  have hl_w2_1 : w.heap.size + 1 < w2.heap.size := Nat.lt_of_lt_of_le (by omega) hz_w2
  have hk_w2_1 : ∀ o, w2.cell? ⟨w.heap.size + 1, o, none⟩ = _ := fun o => hx.cell (p := ⟨w.heap.size + 1, o, none⟩) (show w.heap.size + 1 < _ from (by first | omega | (simp; done) | (simp; omega)))
  have hf_w2_1 : ∀ o, w2.frozen? ⟨w.heap.size + 1, o, none⟩ = _ := fun o => hx.frozen (p := ⟨w.heap.size + 1, o, none⟩) (show w.heap.size + 1 < _ from (by first | omega | (simp; done) | (simp; omega)))
  clear hx
  go_wp2_with fail
  first | refine wp_region_FC (fun W => W.cell? ⟨w.heap.size, 0, none⟩ = some (.int .i64 1) ∧ W.cell? ⟨w.heap.size, 1, none⟩ = some (.int .i64 ax) ∧ W.cell? ⟨w.heap.size, 2, none⟩ = some (.int .i64 ay) ∧ W.cell? ⟨w.heap.size, 3, none⟩ = some (.int .i64 bx) ∧ W.cell? ⟨w.heap.size, 4, none⟩ = some (.int .i64 by') ∧ W.cell? ⟨w.heap.size, 5, none⟩ = some (.int .i64 cx) ∧ W.cell? ⟨w.heap.size, 6, none⟩ = some (.int .i64 cy) ∧ W.cell? ⟨w.heap.size + 1, 0, none⟩ = some (.int .i64 k) ∧ W.cell? ⟨w.heap.size + 1, 1, none⟩ = some (.int .i64 dx) ∧ W.cell? ⟨w.heap.size + 1, 2, none⟩ = some (.int .i64 dy) ∧ W.cell? ⟨w.heap.size + 1, 3, none⟩ = some (.int .i64 ex) ∧ W.cell? ⟨w.heap.size + 1, 4, none⟩ = some (.int .i64 ey) ∧ W.cell? ⟨w.heap.size + 1, 5, none⟩ = some (.int .i64 fx) ∧ W.cell? ⟨w.heap.size + 1, 6, none⟩ = some (.int .i64 fy)) (by kernel_rfl) (by kernel_rfl) ?_ ?_ ?_ | refine wp_region_FCs (fun W => W.cell? ⟨w.heap.size, 0, none⟩ = some (.int .i64 1) ∧ W.cell? ⟨w.heap.size, 1, none⟩ = some (.int .i64 ax) ∧ W.cell? ⟨w.heap.size, 2, none⟩ = some (.int .i64 ay) ∧ W.cell? ⟨w.heap.size, 3, none⟩ = some (.int .i64 bx) ∧ W.cell? ⟨w.heap.size, 4, none⟩ = some (.int .i64 by') ∧ W.cell? ⟨w.heap.size, 5, none⟩ = some (.int .i64 cx) ∧ W.cell? ⟨w.heap.size, 6, none⟩ = some (.int .i64 cy) ∧ W.cell? ⟨w.heap.size + 1, 0, none⟩ = some (.int .i64 k) ∧ W.cell? ⟨w.heap.size + 1, 1, none⟩ = some (.int .i64 dx) ∧ W.cell? ⟨w.heap.size + 1, 2, none⟩ = some (.int .i64 dy) ∧ W.cell? ⟨w.heap.size + 1, 3, none⟩ = some (.int .i64 ex) ∧ W.cell? ⟨w.heap.size + 1, 4, none⟩ = some (.int .i64 ey) ∧ W.cell? ⟨w.heap.size + 1, 5, none⟩ = some (.int .i64 fx) ∧ W.cell? ⟨w.heap.size + 1, 6, none⟩ = some (.int .i64 fy)) ?_ ?_ ?_
  · go_simp
  · (intro W W' h hx hb; have hs := hx.size; (try simp at hs); have hbc : ∀ b o, b < W.heap.size → W'.cell? ⟨b, o, none⟩ = W.cell? ⟨b, o, none⟩ := fun b o h => hb.cell (p := ⟨b, o, none⟩) h; (try dsimp only at h ⊢); simp (disch := omega) only [hbc]; exact h)
  repeat (first | (refine F_skip (by rfl) ?_; simp only [Act.put, List.setIfInBounds_toArray, List.set_cons_zero, List.set_cons_succ]) | (refine F_run (v := ?_) (by rfl) ?_ ?_; rotate_left; (· (intro W hW; (try dsimp only at hW); go_simp; try with_reducible rfl)); simp only [Act.put, List.setIfInBounds_toArray, List.set_cons_zero, List.set_cons_succ]))
  (refine F_call (v := .iface 65 (.agg #[.int .i64 ax, .int .i64 ay, .int .i64 bx, .int .i64 by'])) (by rfl) (by rfl) ?_ ?_; (· (intro W hW; (try dsimp only at hW); go_simp; refine (F1.out _).mono ?_; rintro e w' ⟨rfl, hx⟩; exact ⟨_, rfl, rfl, hx⟩))); simp only [Act.put, List.setIfInBounds_toArray, List.set_cons_zero, List.set_cons_succ]
  repeat (first | (refine F_skip (by rfl) ?_; simp only [Act.put, List.setIfInBounds_toArray, List.set_cons_zero, List.set_cons_succ]) | (refine F_run (v := ?_) (by rfl) ?_ ?_; rotate_left; (· (intro W hW; (try dsimp only at hW); go_simp; try with_reducible rfl)); simp only [Act.put, List.setIfInBounds_toArray, List.set_cons_zero, List.set_cons_succ]))
  (refine F_call (v := .iface 69 (.agg #[.int .i64 fx, .int .i64 fy, .int .i64 rad, .int .i64 ((dx - fx).tdiv rad), .int .i64 ((dy - fy).tdiv rad), .int .i64 ((ex - fx).tdiv rad), .int .i64 ((ey - fy).tdiv rad)])) (by rfl) (by rfl) ?_ ?_; (· (intro W hW; (try dsimp only at hW); go_simp; refine (F2.out _).mono ?_; rintro e w' ⟨rfl, hx⟩; exact ⟨_, rfl, rfl, hx⟩))); simp only [Act.put, List.setIfInBounds_toArray, List.set_cons_zero, List.set_cons_succ]
  repeat (first | (refine F_skip (by rfl) ?_; simp only [Act.put, List.setIfInBounds_toArray, List.set_cons_zero, List.set_cons_succ]) | (refine F_run (v := ?_) (by rfl) ?_ ?_; rotate_left; (· (intro W hW; (try dsimp only at hW); go_simp; try with_reducible rfl)); simp only [Act.put, List.setIfInBounds_toArray, List.set_cons_zero, List.set_cons_succ]))
  rintro W ⟨hx, hc⟩
  have hx3 : Ext w W := Ext.step hx2 hx
  clear hx hc
  go_wp2_with fail
  refine (kind_line ax ay bx by' _).mono ?_
  rintro e w4 ⟨rfl, hx⟩
  have hx4 : Ext w w4 := Ext.step hx3 hx
  clear hx
  go_wp2_with fail
  refine (kind_arc _ _ _ _ _ _ _ _).mono ?_
  rintro e w5 ⟨rfl, hx⟩
  have hx5 : Ext w w5 := Ext.step hx4 hx
  have hs5 := hx5.size
  clear hx
  go_wp2_with fail
  refine (BL.out _).mono ?_
  rintro e w6 ⟨rfl, hx⟩
  have hx6 : Ext w w6 := Ext.step (by (repeat (first | exact Below.refl _ _ | assumption | refine Below.drewN ?_ _ | refine Below.drew ?_ | refine Below.setCell ?_ (by first | exact Nat.le_refl _ | (simp; done) | (simp; omega) | omega) _ | refine Below.alloc ?_ (by first | exact Nat.le_refl _ | (simp; done) | (simp; omega) | omega) _))) hx
  go_wp2
  go_ret
  exact ⟨rfl, hx6⟩
end Go.Proofs.Ytmmhiiiaccldmaa

namespace Go.Proofs.Ytmmhiiiaccldmaa
open Go.RowKit
attribute [local go_sem] Gives givesU

set_option maxRecDepth 100000 in
set_option maxHeartbeats 4000000 in
theorem Count_arcs (k ax ay bx by' cx cy k' dx dy ex ey fx fy r ux uy vx vy q sx sy tx ty res : Int) (w : World)
    (C1 : ∀ w : World, Calls Try.prog 26 #[.agg #[.int .i64 k, .int .i64 ax, .int .i64 ay, .int .i64 bx, .int .i64 by', .int .i64 cx, .int .i64 cy]] w fun e w' => e = .returned (.int .i64 0) ∧ Ext w w')
    (C2 : ∀ w : World, Calls Try.prog 26 #[.agg #[.int .i64 k', .int .i64 dx, .int .i64 dy, .int .i64 ex, .int .i64 ey, .int .i64 fx, .int .i64 fy]] w fun e w' => e = .returned (.int .i64 0) ∧ Ext w w')
    (F1 : ∀ w : World, Calls Try.prog 27 #[.agg #[.int .i64 k, .int .i64 ax, .int .i64 ay, .int .i64 bx, .int .i64 by', .int .i64 cx, .int .i64 cy]] w fun e w' => e = .returned (.iface 69 (.agg #[.int .i64 cx, .int .i64 cy, .int .i64 r, .int .i64 ux, .int .i64 uy, .int .i64 vx, .int .i64 vy])) ∧ Ext w w')
    (F2 : ∀ w : World, Calls Try.prog 27 #[.agg #[.int .i64 k', .int .i64 dx, .int .i64 dy, .int .i64 ex, .int .i64 ey, .int .i64 fx, .int .i64 fy]] w fun e w' => e = .returned (.iface 69 (.agg #[.int .i64 fx, .int .i64 fy, .int .i64 q, .int .i64 sx, .int .i64 sy, .int .i64 tx, .int .i64 ty])) ∧ Ext w w')
    (BL : ∀ w : World, Calls Try.prog 30 #[.agg #[.int .i64 cx, .int .i64 cy, .int .i64 r, .int .i64 ux, .int .i64 uy, .int .i64 vx, .int .i64 vy], .agg #[.int .i64 fx, .int .i64 fy, .int .i64 q, .int .i64 sx, .int .i64 sy, .int .i64 tx, .int .i64 ty]] w fun e w' => e = .returned (.int .i64 res) ∧ Ext w w') :
    Calls Try.prog 10 #[.agg #[.int .i64 k, .int .i64 ax, .int .i64 ay, .int .i64 bx, .int .i64 by', .int .i64 cx, .int .i64 cy], .agg #[.int .i64 k', .int .i64 dx, .int .i64 dy, .int .i64 ex, .int .i64 ey, .int .i64 fx, .int .i64 fy]] w fun e w' => e = .returned (.int .i64 res) ∧ Ext w w' := by
  have C1 := Lib.hid C1
  have C2 := Lib.hid C2
  have F1 := Lib.hid F1
  have F2 := Lib.hid F2
  have BL := Lib.hid BL
  have a1 := as_arc_point
  have a2 := as_arc_line
  have a3 := as_arc_arc
  have a4 := as_arc_must
  go_enter Try.func10, Try.ntmps10
  go_wp2_with fail
  refine (C1.out _).mono ?_
  rintro e w1 ⟨rfl, hx⟩
  have hx0 : Ext w w1 := Ext.step (by (repeat (first | exact Below.refl _ _ | assumption | refine Below.drewN ?_ _ | refine Below.drew ?_ | refine Below.setCell ?_ (by first | exact Nat.le_refl _ | (simp; done) | (simp; omega) | omega) _ | refine Below.alloc ?_ (by first | exact Nat.le_refl _ | (simp; done) | (simp; omega) | omega) _))) hx
  have hs0 := hx0.size
  have hz_w1 : w.heap.size + 2 ≤ w1.heap.size := Nat.le_trans (by first | omega | (simp; done) | (simp; omega)) hx.size
  have hl_w1_0 : w.heap.size < w1.heap.size := Nat.lt_of_lt_of_le (by omega) hz_w1
  have hk_w1_0 : ∀ o, w1.cell? ⟨w.heap.size, o, none⟩ = _ := fun o => hx.cell (p := ⟨w.heap.size, o, none⟩) (show w.heap.size < _ from (by first | omega | (simp; done) | (simp; omega)))
  have hf_w1_0 : ∀ o, w1.frozen? ⟨w.heap.size, o, none⟩ = _ := fun o => hx.frozen (p := ⟨w.heap.size, o, none⟩) (show w.heap.size < _ from (by first | omega | (simp; done) | (simp; omega)))
  have hl_w1_1 : w.heap.size + 1 < w1.heap.size := Nat.lt_of_lt_of_le (by omega) hz_w1
  have hk_w1_1 : ∀ o, w1.cell? ⟨w.heap.size + 1, o, none⟩ = _ := fun o => hx.cell (p := ⟨w.heap.size + 1, o, none⟩) (show w.heap.size + 1 < _ from (by first | omega | (simp; done) | (simp; omega)))
  have hf_w1_1 : ∀ o, w1.frozen? ⟨w.heap.size + 1, o, none⟩ = _ := fun o => hx.frozen (p := ⟨w.heap.size + 1, o, none⟩) (show w.heap.size + 1 < _ from (by first | omega | (simp; done) | (simp; omega)))
  clear hx
  go_wp2_with fail
  refine (C2.out _).mono ?_
  rintro e w2 ⟨rfl, hx⟩
  have hx2 : Ext w w2 := Ext.step hx0 hx
  have hs2 := hx2.size
  have hz_w2 : w.heap.size + 2 ≤ w2.heap.size := Nat.le_trans (by first | omega | (simp; done) | (simp; omega)) hx.size
  have hl_w2_0 : w.heap.size < w2.heap.size := Nat.lt_of_lt_of_le (by omega) hz_w2
  have hk_w2_0 : ∀ o, w2.cell? ⟨w.heap.size, o, none⟩ = _ := fun o => hx.cell (p := ⟨w.heap.size, o, none⟩) (show w.heap.size < _ from (by first | omega | (simp; done) | (simp; omega)))
  have hf_w2_0 : ∀ o, w2.frozen? ⟨w.heap.size, o, none⟩ = _ := fun o => hx.frozen (p := ⟨w.heap.size, o, none⟩) (show w.heap.size < _ from (by first | omega | (simp; done) | (simp; omega)))
  have hl_w2_1 : w.heap.size + 1 < w2.heap.size := Nat.lt_of_lt_of_le (by omega) hz_w2
  have hk_w2_1 : ∀ o, w2.cell? ⟨w.heap.size + 1, o, none⟩ = _ := fun o => hx.cell (p := ⟨w.heap.size + 1, o, none⟩) (show w.heap.size + 1 < _ from (by first | omega | (simp; done) | (simp; omega)))
  have hf_w2_1 : ∀ o, w2.frozen? ⟨w.heap.size + 1, o, none⟩ = _ := fun o => hx.frozen (p := ⟨w.heap.size + 1, o, none⟩) (show w.heap.size + 1 < _ from (by first | omega | (simp; done) | (simp; omega)))
  clear hx
  go_wp2_with fail
  first | refine wp_region_FC (fun W => W.cell? ⟨w.heap.size, 0, none⟩ = some (.int .i64 k) ∧ W.cell? ⟨w.heap.size, 1, none⟩ = some (.int .i64 ax) ∧ W.cell? ⟨w.heap.size, 2, none⟩ = some (.int .i64 ay) ∧ W.cell? ⟨w.heap.size, 3, none⟩ = some (.int .i64 bx) ∧ W.cell? ⟨w.heap.size, 4, none⟩ = some (.int .i64 by') ∧ W.cell? ⟨w.heap.size, 5, none⟩ = some (.int .i64 cx) ∧ W.cell? ⟨w.heap.size, 6, none⟩ = some (.int .i64 cy) ∧ W.cell? ⟨w.heap.size + 1, 0, none⟩ = some (.int .i64 k') ∧ W.cell? ⟨w.heap.size + 1, 1, none⟩ = some (.int .i64 dx) ∧ W.cell? ⟨w.heap.size + 1, 2, none⟩ = some (.int .i64 dy) ∧ W.cell? ⟨w.heap.size + 1, 3, none⟩ = some (.int .i64 ex) ∧ W.cell? ⟨w.heap.size + 1, 4, none⟩ = some (.int .i64 ey) ∧ W.cell? ⟨w.heap.size + 1, 5, none⟩ = some (.int .i64 fx) ∧ W.cell? ⟨w.heap.size + 1, 6, none⟩ = some (.int .i64 fy)) (by kernel_rfl) (by kernel_rfl) ?_ ?_ ?_ | refine wp_region_FCs (fun W => W.cell? ⟨w.heap.size, 0, none⟩ = some (.int .i64 k) ∧ W.cell? ⟨w.heap.size, 1, none⟩ = some (.int .i64 ax) ∧ W.cell? ⟨w.heap.size, 2, none⟩ = some (.int .i64 ay) ∧ W.cell? ⟨w.heap.size, 3, none⟩ = some (.int .i64 bx) ∧ W.cell? ⟨w.heap.size, 4, none⟩ = some (.int .i64 by') ∧ W.cell? ⟨w.heap.size, 5, none⟩ = some (.int .i64 cx) ∧ W.cell? ⟨w.heap.size, 6, none⟩ = some (.int .i64 cy) ∧ W.cell? ⟨w.heap.size + 1, 0, none⟩ = some (.int .i64 k') ∧ W.cell? ⟨w.heap.size + 1, 1, none⟩ = some (.int .i64 dx) ∧ W.cell? ⟨w.heap.size + 1, 2, none⟩ = some (.int .i64 dy) ∧ W.cell? ⟨w.heap.size + 1, 3, none⟩ = some (.int .i64 ex) ∧ W.cell? ⟨w.heap.size + 1, 4, none⟩ = some (.int .i64 ey) ∧ W.cell? ⟨w.heap.size + 1, 5, none⟩ = some (.int .i64 fx) ∧ W.cell? ⟨w.heap.size + 1, 6, none⟩ = some (.int .i64 fy)) ?_ ?_ ?_
  · go_simp
  · (intro W W' h hx hb; have hs := hx.size; (try simp at hs); have hbc : ∀ b o, b < W.heap.size → W'.cell? ⟨b, o, none⟩ = W.cell? ⟨b, o, none⟩ := fun b o h => hb.cell (p := ⟨b, o, none⟩) h; (try dsimp only at h ⊢); simp (disch := omega) only [hbc]; exact h)
  repeat (first | (refine F_skip (by rfl) ?_; simp only [Act.put, List.setIfInBounds_toArray, List.set_cons_zero, List.set_cons_succ]) | (refine F_run (v := ?_) (by rfl) ?_ ?_; rotate_left; (· (intro W hW; (try dsimp only at hW); go_simp; try with_reducible rfl)); simp only [Act.put, List.setIfInBounds_toArray, List.set_cons_zero, List.set_cons_succ]))
  (refine F_call (v := .iface 69 (.agg #[.int .i64 cx, .int .i64 cy, .int .i64 r, .int .i64 ux, .int .i64 uy, .int .i64 vx, .int .i64 vy])) (by rfl) (by rfl) ?_ ?_; (· (intro W hW; (try dsimp only at hW); go_simp; refine (F1.out _).mono ?_; rintro e w' ⟨rfl, hx⟩; exact ⟨_, rfl, rfl, hx⟩))); simp only [Act.put, List.setIfInBounds_toArray, List.set_cons_zero, List.set_cons_succ]
  repeat (first | (refine F_skip (by rfl) ?_; simp only [Act.put, List.setIfInBounds_toArray, List.set_cons_zero, List.set_cons_succ]) | (refine F_run (v := ?_) (by rfl) ?_ ?_; rotate_left; (· (intro W hW; (try dsimp only at hW); go_simp; try with_reducible rfl)); simp only [Act.put, List.setIfInBounds_toArray, List.set_cons_zero, List.set_cons_succ]))
  (refine F_call (v := .iface 69 (.agg #[.int .i64 fx, .int .i64 fy, .int .i64 q, .int .i64 sx, .int .i64 sy, .int .i64 tx, .int .i64 ty])) (by rfl) (by rfl) ?_ ?_; (· (intro W hW; (try dsimp only at hW); go_simp; refine (F2.out _).mono ?_; rintro e w' ⟨rfl, hx⟩; exact ⟨_, rfl, rfl, hx⟩))); simp only [Act.put, List.setIfInBounds_toArray, List.set_cons_zero, List.set_cons_succ]
  repeat (first | (refine F_skip (by rfl) ?_; simp only [Act.put, List.setIfInBounds_toArray, List.set_cons_zero, List.set_cons_succ]) | (refine F_run (v := ?_) (by rfl) ?_ ?_; rotate_left; (· (intro W hW; (try dsimp only at hW); go_simp; try with_reducible rfl)); simp only [Act.put, List.setIfInBounds_toArray, List.set_cons_zero, List.set_cons_succ]))
  rintro W ⟨hx, hc⟩
  have hx3 : Ext w W := Ext.step hx2 hx
  clear hx hc
  go_wp2_with fail
  refine (kind_arc _ _ _ _ _ _ _ _).mono ?_
  rintro e w4 ⟨rfl, hx⟩
  have hx4 : Ext w w4 := Ext.step hx3 hx
  clear hx
  go_wp2_with fail
  refine (kind_arc _ _ _ _ _ _ _ _).mono ?_
  rintro e w5 ⟨rfl, hx⟩
  have hx5 : Ext w w5 := Ext.step hx4 hx
  have hs5 := hx5.size
  clear hx
  go_wp2_with fail
  first | refine wp_region_FC (fun W => W.cell? ⟨w5.heap.size, 0, none⟩ = some (.int .i64 cx) ∧ W.cell? ⟨w5.heap.size, 1, none⟩ = some (.int .i64 cy) ∧ W.cell? ⟨w5.heap.size, 2, none⟩ = some (.int .i64 r) ∧ W.cell? ⟨w5.heap.size, 3, none⟩ = some (.int .i64 ux) ∧ W.cell? ⟨w5.heap.size, 4, none⟩ = some (.int .i64 uy) ∧ W.cell? ⟨w5.heap.size, 5, none⟩ = some (.int .i64 vx) ∧ W.cell? ⟨w5.heap.size, 6, none⟩ = some (.int .i64 vy)) (by kernel_rfl) (by kernel_rfl) ?_ ?_ ?_ | refine wp_region_FCs (fun W => W.cell? ⟨w5.heap.size, 0, none⟩ = some (.int .i64 cx) ∧ W.cell? ⟨w5.heap.size, 1, none⟩ = some (.int .i64 cy) ∧ W.cell? ⟨w5.heap.size, 2, none⟩ = some (.int .i64 r) ∧ W.cell? ⟨w5.heap.size, 3, none⟩ = some (.int .i64 ux) ∧ W.cell? ⟨w5.heap.size, 4, none⟩ = some (.int .i64 uy) ∧ W.cell? ⟨w5.heap.size, 5, none⟩ = some (.int .i64 vx) ∧ W.cell? ⟨w5.heap.size, 6, none⟩ = some (.int .i64 vy)) ?_ ?_ ?_
  · go_simp
  · (intro W W' h hx hb; have hs := hx.size; (try simp at hs); have hbc : ∀ b o, b < W.heap.size → W'.cell? ⟨b, o, none⟩ = W.cell? ⟨b, o, none⟩ := fun b o h => hb.cell (p := ⟨b, o, none⟩) h; (try dsimp only at h ⊢); simp (disch := omega) only [hbc]; exact h)
  repeat (first | (refine F_skip (by rfl) ?_; simp only [Act.put, List.setIfInBounds_toArray, List.set_cons_zero, List.set_cons_succ]) | (refine F_run (v := ?_) (by rfl) ?_ ?_; rotate_left; (· (intro W hW; (try dsimp only at hW); go_simp; try with_reducible rfl)); simp only [Act.put, List.setIfInBounds_toArray, List.set_cons_zero, List.set_cons_succ]))
  (refine F_call (v := .int .i64 res) (by rfl) (by rfl) ?_ ?_; (· (intro W hW; (try dsimp only at hW); go_simp; refine (BL.out _).mono ?_; rintro e w' ⟨rfl, hx⟩; exact ⟨_, rfl, rfl, hx⟩))); simp only [Act.put, List.setIfInBounds_toArray, List.set_cons_zero, List.set_cons_succ]
  repeat (first | (refine F_skip (by rfl) ?_; simp only [Act.put, List.setIfInBounds_toArray, List.set_cons_zero, List.set_cons_succ]) | (refine F_run (v := ?_) (by rfl) ?_ ?_; rotate_left; (· (intro W hW; (try dsimp only at hW); go_simp; try with_reducible rfl)); simp only [Act.put, List.setIfInBounds_toArray, List.set_cons_zero, List.set_cons_succ]))
  rintro W6 ⟨hx, hc⟩
  have hx6 : Ext w W6 := Ext.step (by (repeat (first | exact Below.refl _ _ | assumption | refine Below.drewN ?_ _ | refine Below.drew ?_ | refine Below.setCell ?_ (by first | exact Nat.le_refl _ | (simp; done) | (simp; omega) | omega) _ | refine Below.alloc ?_ (by first | exact Nat.le_refl _ | (simp; done) | (simp; omega) | omega) _))) hx
  go_wp2
  go_ret
  exact ⟨rfl, hx6⟩
end Go.Proofs.Ytmmhiiiaccldmaa

namespace Go.Proofs.Ytmmhiiiaccldmaa
open Go.RowKit
attribute [local go_sem] Gives givesU

theorem arc_di {e : Ed} (h : e.ok = true) (hk : ¬ e.k = 1) : Di (radZ e) ∧ Di e.ux ∧ Di e.uy ∧ Di e.vx ∧ Di e.vy := by
  obtain ⟨⟨h1, h2⟩, ⟨h3, h4⟩, h5, h6⟩ := ok_right h
  have hr0 := rad_pos h hk
  have hr1 := rad_le h
  refine ⟨by unfold Di; omega, tdiv_bd (h1.sub h5), tdiv_bd (h2.sub h6), tdiv_bd (h3.sub h5), tdiv_bd (h4.sub h6)⟩
theorem crossZ_call (ax ay bx by' k dx dy ex ey fx fy cx cy : Int) (w : World) (h1 : (Ed.mk 1 ax ay bx by' cx cy).ok = true) (h2 : (Ed.mk k dx dy ex ey fx fy).ok = true) (hk : ¬ k = 1) :
    Calls Try.prog 29 #[.agg #[.int .i64 ax, .int .i64 ay, .int .i64 bx, .int .i64 by'], .agg #[.int .i64 fx, .int .i64 fy, .int .i64 (radZ (Ed.mk k dx dy ex ey fx fy)), .int .i64 ((dx - fx).tdiv (radZ (Ed.mk k dx dy ex ey fx fy))), .int .i64 ((dy - fy).tdiv (radZ (Ed.mk k dx dy ex ey fx fy))), .int .i64 ((ex - fx).tdiv (radZ (Ed.mk k dx dy ex ey fx fy))), .int .i64 ((ey - fy).tdiv (radZ (Ed.mk k dx dy ex ey fx fy)))]] w
      fun e w' => e = .returned (.int .i64 (crossZ (Ed.mk 1 ax ay bx by' cx cy) (Ed.mk k dx dy ex ey fx fy))) ∧ Ext w w' := by
  obtain ⟨⟨c1, c2⟩, ⟨c3, c4⟩, _⟩ := ok_right h1
  obtain ⟨_, _, c5, c6⟩ := ok_right h2
  obtain ⟨dr, d1, d2, d3, d4⟩ := arc_di h2 hk
  exact meet_lineArc ax ay bx by' fx fy _ _ _ _ _ w c1 c2 c3 c4 c5 c6 dr d1 d2 d3 d4 (laE (Ed.mk 1 ax ay bx by' cx cy) (Ed.mk k dx dy ex ey fx fy)) rfl rfl rfl rfl rfl rfl rfl rfl
theorem arcsZ_call (k ax ay bx by' cx cy k' dx dy ex ey fx fy : Int) (w : World) (h1 : (Ed.mk k ax ay bx by' cx cy).ok = true) (h2 : (Ed.mk k' dx dy ex ey fx fy).ok = true) (hk : ¬ k = 1) (hk' : ¬ k' = 1) :
    Calls Try.prog 30 #[.agg #[.int .i64 cx, .int .i64 cy, .int .i64 (radZ (Ed.mk k ax ay bx by' cx cy)), .int .i64 ((ax - cx).tdiv (radZ (Ed.mk k ax ay bx by' cx cy))), .int .i64 ((ay - cy).tdiv (radZ (Ed.mk k ax ay bx by' cx cy))), .int .i64 ((bx - cx).tdiv (radZ (Ed.mk k ax ay bx by' cx cy))), .int .i64 ((by' - cy).tdiv (radZ (Ed.mk k ax ay bx by' cx cy)))],
      .agg #[.int .i64 fx, .int .i64 fy, .int .i64 (radZ (Ed.mk k' dx dy ex ey fx fy)), .int .i64 ((dx - fx).tdiv (radZ (Ed.mk k' dx dy ex ey fx fy))), .int .i64 ((dy - fy).tdiv (radZ (Ed.mk k' dx dy ex ey fx fy))), .int .i64 ((ex - fx).tdiv (radZ (Ed.mk k' dx dy ex ey fx fy))), .int .i64 ((ey - fy).tdiv (radZ (Ed.mk k' dx dy ex ey fx fy)))]] w
      fun e w' => e = .returned (.int .i64 (arcsZ (Ed.mk k ax ay bx by' cx cy) (Ed.mk k' dx dy ex ey fx fy))) ∧ Ext w w' := by
  obtain ⟨_, _, c1, c2⟩ := ok_right h1
  obtain ⟨_, _, c5, c6⟩ := ok_right h2
  obtain ⟨dr, d1, d2, d3, d4⟩ := arc_di h1 hk
  obtain ⟨er, e1, e2, e3, e4⟩ := arc_di h2 hk'
  by_cases hc : cx = fx ∧ cy = fy
  · obtain ⟨rfl, rfl⟩ := hc
    have := meet_arcsSame cx cy (radZ (Ed.mk k ax ay bx by' cx cy)) ((ax - cx).tdiv (radZ (Ed.mk k ax ay bx by' cx cy))) ((ay - cy).tdiv (radZ (Ed.mk k ax ay bx by' cx cy))) ((bx - cx).tdiv (radZ (Ed.mk k ax ay bx by' cx cy))) ((by' - cy).tdiv (radZ (Ed.mk k ax ay bx by' cx cy))) (radZ (Ed.mk k' dx dy ex ey cx cy)) ((dx - cx).tdiv (radZ (Ed.mk k' dx dy ex ey cx cy))) ((dy - cy).tdiv (radZ (Ed.mk k' dx dy ex ey cx cy))) ((ex - cx).tdiv (radZ (Ed.mk k' dx dy ex ey cx cy))) ((ey - cy).tdiv (radZ (Ed.mk k' dx dy ex ey cx cy))) w
    unfold arcsZ
    rw [if_pos ⟨rfl, rfl⟩]
    exact this
  · have := meet_arcsApart cx cy _ _ _ _ _ fx fy _ _ _ _ _ (fx - cx) (fy - cy) (-(fy - cy)) w hc c1 c2 c5 c6 dr er d1 d2 d3 d4 e1 e2 e3 e4 (aaE (Ed.mk k ax ay bx by' cx cy) (Ed.mk k' dx dy ex ey fx fy)) rfl rfl rfl rfl rfl rfl rfl rfl rfl rfl rfl rfl rfl rfl
    unfold arcsZ
    rw [if_neg hc]
    exact this

theorem ok_kind {e : Ed} (h : e.ok = true) : e.k = 1 ∨ e.k = 2 ∨ e.k = 3 := by
  simp only [Ed.ok, Bool.and_eq_true] at h
  have h2 := h.2
  by_cases h1 : e.k = 1
  · exact .inl h1
  · by_cases h3 : e.k = 2
    · exact .inr (.inl h3)
    · by_cases h4 : e.k = 3
      · exact .inr (.inr h4)
      · rw [if_neg h1, if_neg h3, if_neg h4] at h2; cases h2
theorem pt_iff {e : Ed} : e.pt = true ↔ e.ax = e.bx ∧ e.ay = e.by' := by simp [Ed.pt]
theorem pt_not {e : Ed} : e.pt = false ↔ ¬ (e.ax = e.bx ∧ e.ay = e.by') := by rw [Bool.eq_false_iff]; simp [Ed.pt]
theorem onZ_ret {e : Ed} {x y : Int} {w : World} {f : FuncId} {a : Array Value} (h : Calls Try.prog f a w fun r w' => r = .returned (.int .i64 (if onE e x y then 1 else 0)) ∧ Ext w w') :
    Calls Try.prog f a w fun r w' => r = .returned (.int .i64 (onZ e x y)) ∧ Ext w w' := h

theorem meet_Count (k ax ay bx by' cx cy k' dx dy ex ey fx fy : Int) (w : World) :
    Calls Try.prog 10 #[.agg #[.int .i64 k, .int .i64 ax, .int .i64 ay, .int .i64 bx, .int .i64 by', .int .i64 cx, .int .i64 cy], .agg #[.int .i64 k', .int .i64 dx, .int .i64 dy, .int .i64 ex, .int .i64 ey, .int .i64 fx, .int .i64 fy]] w fun e w' => e = .returned (.int .i64 (countE (Ed.mk k ax ay bx by' cx cy) (Ed.mk k' dx dy ex ey fx fy))) ∧ Ext w w' := by
  cases h1 : (Ed.mk k ax ay bx by' cx cy).ok with
  | false =>
    have : countE (Ed.mk k ax ay bx by' cx cy) (Ed.mk k' dx dy ex ey fx fy) = 0 := by unfold countE; rw [h1]; rfl
    rw [this]
    exact Count_bad1 _ _ _ _ _ _ _ _ _ _ _ _ _ _ w h1
  | true =>
  cases h2 : (Ed.mk k' dx dy ex ey fx fy).ok with
  | false =>
    have : countE (Ed.mk k ax ay bx by' cx cy) (Ed.mk k' dx dy ex ey fx fy) = 0 := by unfold countE; rw [h1, h2]; rfl
    rw [this]
    exact Count_bad2 _ _ _ _ _ _ _ _ _ _ _ _ _ _ w h1 h2
  | true =>
  have C1 := fun w => edge_Check_ok k ax ay bx by' cx cy w h1
  have C2 := fun w => edge_Check_ok k' dx dy ex ey fx fy w h2
  unfold countE
  rw [h1, h2]
  simp only [Bool.and_self, Bool.not_true, Bool.false_eq_true, if_false]
  by_cases k1 : k = 1
  · subst k1
    rw [if_pos rfl]
    cases p1 : (Ed.mk 1 ax ay bx by' cx cy).pt with
    | true =>
      obtain ⟨rfl, rfl⟩ : ax = bx ∧ ay = by' := pt_iff.1 p1
      rw [if_pos rfl]
      have F1 := fun w => figured_point ax ay cx cy w
      by_cases k2 : k' = 1
      · subst k2
        cases p2 : (Ed.mk 1 dx dy ex ey fx fy).pt with
        | true =>
          obtain ⟨rfl, rfl⟩ : dx = ex ∧ dy = ey := pt_iff.1 p2
          exact onZ_ret (Count_point_point 1 ax ay ax ay cx cy 1 dx dy dx dy fx fy ax ay dx dy _ w C1 C2 F1 (fun w => figured_point dx dy fx fy w) (fun w => edge_On 1 dx dy dx dy fx fy ax ay w))
        | false =>
          exact onZ_ret (Count_point_line 1 ax ay ax ay cx cy 1 dx dy ex ey fx fy ax ay _ _ _ _ _ w C1 C2 F1 (fun w => figured_line dx dy ex ey fx fy w (pt_not.1 p2)) (fun w => edge_On 1 dx dy ex ey fx fy ax ay w))
      · exact onZ_ret (Count_point_arc 1 ax ay ax ay cx cy k' dx dy ex ey fx fy ax ay _ _ _ _ _ _ _ _ w C1 C2 F1 (fun w => figured_arc k' dx dy ex ey fx fy w h2 k2) (fun w => edge_On k' dx dy ex ey fx fy ax ay w))
    | false =>
      simp only [Bool.false_eq_true, if_false]
      have n1 : ¬ (ax = bx ∧ ay = by') := pt_not.1 p1
      have F1 := fun w => figured_line ax ay bx by' cx cy w n1
      by_cases k2 : k' = 1
      · subst k2
        rw [if_pos rfl]
        cases p2 : (Ed.mk 1 dx dy ex ey fx fy).pt with
        | true =>
          obtain ⟨rfl, rfl⟩ : dx = ex ∧ dy = ey := pt_iff.1 p2
          rw [if_pos rfl]
          exact onZ_ret (Count_line_point 1 ax ay bx by' cx cy 1 dx dy dx dy fx fy dx dy _ _ _ _ _ w C1 C2 F1 (fun w => figured_point dx dy fx fy w) (fun w => edge_On 1 ax ay bx by' cx cy dx dy w))
        | false =>
          simp only [Bool.false_eq_true, if_false]
          exact Count_lines ax ay bx by' cx cy dx dy ex ey fx fy w h1 h2 n1 (pt_not.1 p2)
      · rw [if_neg k2]
        exact Count_lineArc ax ay bx by' cx cy k' dx dy ex ey fx fy w h1 h2 n1 k2 _ (fun w => crossZ_call ax ay bx by' k' dx dy ex ey fx fy cx cy w h1 h2 k2)
  · rw [if_neg k1]
    have F1 := fun w => figured_arc k ax ay bx by' cx cy w h1 k1
    by_cases k2 : k' = 1
    · subst k2
      rw [if_pos rfl]
      cases p2 : (Ed.mk 1 dx dy ex ey fx fy).pt with
      | true =>
        obtain ⟨rfl, rfl⟩ : dx = ex ∧ dy = ey := pt_iff.1 p2
        rw [if_pos rfl]
        exact onZ_ret (Count_arc_point k ax ay bx by' cx cy 1 dx dy dx dy fx fy dx dy _ _ _ _ _ _ _ _ w C1 C2 F1 (fun w => figured_point dx dy fx fy w) (fun w => edge_On k ax ay bx by' cx cy dx dy w))
      | false =>
        simp only [Bool.false_eq_true, if_false]
        exact Count_arcLine k ax ay bx by' cx cy 1 dx dy ex ey fx fy _ _ _ _ _ _ w C1 C2 F1 (fun w => figured_line dx dy ex ey fx fy w (pt_not.1 p2)) (fun w => crossZ_call dx dy ex ey k ax ay bx by' cx cy fx fy w h2 h1 k1)
    · rw [if_neg k2]
      exact Count_arcs k ax ay bx by' cx cy k' dx dy ex ey fx fy _ _ _ _ _ _ _ _ _ _ _ w C1 C2 F1 (fun w => figured_arc k' dx dy ex ey fx fy w h2 k2) (fun w => arcsZ_call k ax ay bx by' cx cy k' dx dy ex ey fx fy w h1 h2 k1 k2)

set_option maxRecDepth 100000 in
set_option maxHeartbeats 1000000 in
theorem meet_Edges (k ax ay bx by' cx cy k' dx dy ex ey fx fy : Int) (w : World) :
    Calls Try.prog 19 #[.agg #[.int .i64 k, .int .i64 ax, .int .i64 ay, .int .i64 bx, .int .i64 by', .int .i64 cx, .int .i64 cy], .agg #[.int .i64 k', .int .i64 dx, .int .i64 dy, .int .i64 ex, .int .i64 ey, .int .i64 fx, .int .i64 fy]] w fun e w' => e = .returned (.bool (!(countE (Ed.mk k ax ay bx by' cx cy) (Ed.mk k' dx dy ex ey fx fy) == 0))) ∧ Ext w w' := by
  have CO := fun w => meet_Count k ax ay bx by' cx cy k' dx dy ex ey fx fy w
  obtain ⟨z, Z⟩ : ∃ z, Hid (countE (Ed.mk k ax ay bx by' cx cy) (Ed.mk k' dx dy ex ey fx fy) = z) := ⟨_, rfl⟩
  rw [Z.out] at CO ⊢
  replace CO := Lib.hid CO
  go_enter Try.func19, Try.ntmps19
  go_wp2_with fail
  refine (CO.out _).mono ?_
  rintro e w1 ⟨rfl, hx⟩
  have hx0 : Ext w w1 := Ext.step (by (repeat (first | exact Below.refl _ _ | assumption | refine Below.drewN ?_ _ | refine Below.drew ?_ | refine Below.setCell ?_ (by first | exact Nat.le_refl _ | (simp; done) | (simp; omega) | omega) _ | refine Below.alloc ?_ (by first | exact Nat.le_refl _ | (simp; done) | (simp; omega) | omega) _))) hx
  clear hx
  go_wp2
  go_ret
  exact ⟨rfl, hx0⟩
end Go.Proofs.Ytmmhiiiaccldmaa
