/- Contracts: meet.Count of two arcs, from the contracts of its callees. | Contract: meet.Count, meet.Edges. | Contract: etchantlaw07.sanity: the law's examples. -/
import Derived.Test.YtmmhiiiaccldmaaGreatJ18
import Derived.Test.YtmmhiiiaccldmaaGreatJ19
set_option linter.unusedVariables false
set_option linter.unusedSimpArgs false

namespace Go.Proofs.YtmmhiiiaccldmaaGreat
open Go.RowKit
attribute [local go_sem] Gives givesU

set_option maxRecDepth 100000 in
set_option maxHeartbeats 4000000 in
theorem Count_arcs (k ax ay bx by' cx cy k' dx dy ex ey fx fy r ux uy vx vy q sx sy tx ty res : Int) (w : World)
    (C1 : ∀ w : World, Calls Tryz.prog 17 #[.agg #[.int .i64 k, .int .i64 ax, .int .i64 ay, .int .i64 bx, .int .i64 by', .int .i64 cx, .int .i64 cy]] w fun e w' => e = .returned (.int .i64 0) ∧ Ext w w')
    (C2 : ∀ w : World, Calls Tryz.prog 17 #[.agg #[.int .i64 k', .int .i64 dx, .int .i64 dy, .int .i64 ex, .int .i64 ey, .int .i64 fx, .int .i64 fy]] w fun e w' => e = .returned (.int .i64 0) ∧ Ext w w')
    (F1 : ∀ w : World, Calls Tryz.prog 18 #[.agg #[.int .i64 k, .int .i64 ax, .int .i64 ay, .int .i64 bx, .int .i64 by', .int .i64 cx, .int .i64 cy]] w fun e w' => e = .returned (.iface 62 (.agg #[.int .i64 cx, .int .i64 cy, .int .i64 r, .int .i64 ux, .int .i64 uy, .int .i64 vx, .int .i64 vy])) ∧ Ext w w')
    (F2 : ∀ w : World, Calls Tryz.prog 18 #[.agg #[.int .i64 k', .int .i64 dx, .int .i64 dy, .int .i64 ex, .int .i64 ey, .int .i64 fx, .int .i64 fy]] w fun e w' => e = .returned (.iface 62 (.agg #[.int .i64 fx, .int .i64 fy, .int .i64 q, .int .i64 sx, .int .i64 sy, .int .i64 tx, .int .i64 ty])) ∧ Ext w w')
    (BL : ∀ w : World, Calls Tryz.prog 22 #[.agg #[.int .i64 cx, .int .i64 cy, .int .i64 r, .int .i64 ux, .int .i64 uy, .int .i64 vx, .int .i64 vy], .agg #[.int .i64 fx, .int .i64 fy, .int .i64 q, .int .i64 sx, .int .i64 sy, .int .i64 tx, .int .i64 ty]] w fun e w' => e = .returned (.int .i64 res) ∧ Ext w w') :
    Calls Tryz.prog 8 #[.agg #[.int .i64 k, .int .i64 ax, .int .i64 ay, .int .i64 bx, .int .i64 by', .int .i64 cx, .int .i64 cy], .agg #[.int .i64 k', .int .i64 dx, .int .i64 dy, .int .i64 ex, .int .i64 ey, .int .i64 fx, .int .i64 fy]] w fun e w' => e = .returned (.int .i64 res) ∧ Ext w w' := by
  have C1 := Lib.hid C1
  have C2 := Lib.hid C2
  have F1 := Lib.hid F1
  have F2 := Lib.hid F2
  have BL := Lib.hid BL
  have a1 := as_arc_point
  have a2 := as_arc_line
  have a3 := as_arc_arc
  have a4 := as_arc_must
  go_enter Tryz.func8, Tryz.ntmps8
  go_wp2_with fail
  refine (C1.out _).mono ?_
  rintro e w1 ⟨rfl, hx⟩
  have hx0 : Ext w w1 := Ext.step bxx hx
  have hs0 := hx0.size
  have hz_w1 : w.heap.size + 2 ≤ w1.heap.size := Nat.le_trans omm hx.size
  obtain ⟨hl_w1_0, hk_w1_0, hf_w1_0⟩ := extK hx (w.heap.size)
  obtain ⟨hl_w1_1, hk_w1_1, hf_w1_1⟩ := extK hx (w.heap.size + 1)
  clear hx
  go_wp2_with fail
  refine (C2.out _).mono ?_
  rintro e w2 ⟨rfl, hx⟩
  have hx2 : Ext w w2 := Ext.step hx0 hx
  have hs2 := hx2.size
  have hz_w2 : w.heap.size + 2 ≤ w2.heap.size := Nat.le_trans omm hx.size
  obtain ⟨hl_w2_0, hk_w2_0, hf_w2_0⟩ := extK hx (w.heap.size)
  obtain ⟨hl_w2_1, hk_w2_1, hf_w2_1⟩ := extK hx (w.heap.size + 1)
  clear hx
  go_wp2_with fail
  refine wp_FS (fun W => W.cell? ⟨w.heap.size, 0, none⟩ = some (.int .i64 k) ∧ W.cell? ⟨w.heap.size, 1, none⟩ = some (.int .i64 ax) ∧ W.cell? ⟨w.heap.size, 2, none⟩ = some (.int .i64 ay) ∧ W.cell? ⟨w.heap.size, 3, none⟩ = some (.int .i64 bx) ∧ W.cell? ⟨w.heap.size, 4, none⟩ = some (.int .i64 by') ∧ W.cell? ⟨w.heap.size, 5, none⟩ = some (.int .i64 cx) ∧ W.cell? ⟨w.heap.size, 6, none⟩ = some (.int .i64 cy) ∧ W.cell? ⟨w.heap.size + 1, 0, none⟩ = some (.int .i64 k') ∧ W.cell? ⟨w.heap.size + 1, 1, none⟩ = some (.int .i64 dx) ∧ W.cell? ⟨w.heap.size + 1, 2, none⟩ = some (.int .i64 dy) ∧ W.cell? ⟨w.heap.size + 1, 3, none⟩ = some (.int .i64 ex) ∧ W.cell? ⟨w.heap.size + 1, 4, none⟩ = some (.int .i64 ey) ∧ W.cell? ⟨w.heap.size + 1, 5, none⟩ = some (.int .i64 fx) ∧ W.cell? ⟨w.heap.size + 1, 6, none⟩ = some (.int .i64 fy)) ?_
  repeat (first | refine F_s ?_ | refine F_r ?_)
  (refine F_call (v := .iface 62 (.agg #[.int .i64 cx, .int .i64 cy, .int .i64 r, .int .i64 ux, .int .i64 uy, .int .i64 vx, .int .i64 vy])) (by rfl) (by rfl) ?_ ?_; (· (intro W hW; (try dsimp only at hW); go_simp; refine (F1.out _).mono ?_; rintro e w' ⟨rfl, hx⟩; exact ⟨_, rfl, rfl, hx⟩))); refine F_put ?_
  repeat (first | refine F_s ?_ | refine F_r ?_)
  (refine F_call (v := .iface 62 (.agg #[.int .i64 fx, .int .i64 fy, .int .i64 q, .int .i64 sx, .int .i64 sy, .int .i64 tx, .int .i64 ty])) (by rfl) (by rfl) ?_ ?_; (· (intro W hW; (try dsimp only at hW); go_simp; refine (F2.out _).mono ?_; rintro e w' ⟨rfl, hx⟩; exact ⟨_, rfl, rfl, hx⟩))); refine F_put ?_
  repeat (first | refine F_s ?_ | refine F_r ?_)
  rintro W ⟨hx, hc⟩
  have hx3 : Ext w W := Ext.step hx2 hx
  clear hx hc
  go_wp2_with fail
  refine (kind_arc _ _ _ _ _ _ _ _).mono ?_
  rintro e w4 ⟨rfl, hx⟩
  have hx4 : Ext w w4 := Ext.step hx3 hx
  clear hx
  go_wp2_with fail
  refine (kind_arc _ _ _ _ _ _ _ _).mono ?_
  rintro e w5 ⟨rfl, hx⟩
  have hx5 : Ext w w5 := Ext.step hx4 hx
  have hs5 := hx5.size
  clear hx
  go_wp2_with fail
  refine wp_FS (fun W => W.cell? ⟨w5.heap.size, 0, none⟩ = some (.int .i64 cx) ∧ W.cell? ⟨w5.heap.size, 1, none⟩ = some (.int .i64 cy) ∧ W.cell? ⟨w5.heap.size, 2, none⟩ = some (.int .i64 r) ∧ W.cell? ⟨w5.heap.size, 3, none⟩ = some (.int .i64 ux) ∧ W.cell? ⟨w5.heap.size, 4, none⟩ = some (.int .i64 uy) ∧ W.cell? ⟨w5.heap.size, 5, none⟩ = some (.int .i64 vx) ∧ W.cell? ⟨w5.heap.size, 6, none⟩ = some (.int .i64 vy)) ?_
  repeat (first | refine F_s ?_ | refine F_r ?_)
  (refine F_call (v := .int .i64 res) (by rfl) (by rfl) ?_ ?_; (· (intro W hW; (try dsimp only at hW); go_simp; refine (BL.out _).mono ?_; rintro e w' ⟨rfl, hx⟩; exact ⟨_, rfl, rfl, hx⟩))); refine F_put ?_
  repeat (first | refine F_s ?_ | refine F_r ?_)
  rintro W6 ⟨hx, hc⟩
  have hx6 : Ext w W6 := Ext.step bxx hx
  go_wp2
  go_ret
  exact ⟨rfl, hx6⟩
end Go.Proofs.YtmmhiiiaccldmaaGreat

namespace Go.Proofs.YtmmhiiiaccldmaaGreat
open Go.RowKit
attribute [local go_sem] Gives givesU

theorem crossZ_call (ax ay bx by' k dx dy ex ey fx fy cx cy : Int) (w : World) (h1 : (Ed.mk 1 ax ay bx by' cx cy).ok = true) (h2 : (Ed.mk k dx dy ex ey fx fy).ok = true) (hk : ¬ k = 1) :
    Calls Tryz.prog 21 #[.agg #[.int .i64 ax, .int .i64 ay, .int .i64 bx, .int .i64 by'], .agg #[.int .i64 fx, .int .i64 fy, .int .i64 (radZ (Ed.mk k dx dy ex ey fx fy)), .int .i64 ((dx - fx).tdiv (radZ (Ed.mk k dx dy ex ey fx fy))), .int .i64 ((dy - fy).tdiv (radZ (Ed.mk k dx dy ex ey fx fy))), .int .i64 ((ex - fx).tdiv (radZ (Ed.mk k dx dy ex ey fx fy))), .int .i64 ((ey - fy).tdiv (radZ (Ed.mk k dx dy ex ey fx fy)))]] w
      fun e w' => e = .returned (.int .i64 (crossZ (Ed.mk 1 ax ay bx by' cx cy) (Ed.mk k dx dy ex ey fx fy))) ∧ Ext w w' := by
  obtain ⟨⟨c1, c2⟩, ⟨c3, c4⟩, _⟩ := ok_right h1
  obtain ⟨_, _, c5, c6⟩ := ok_right h2
  obtain ⟨dr, d1, d2, d3, d4⟩ := arc_di h2 hk
  exact meet_lineArc ax ay bx by' fx fy _ _ _ _ _ w c1 c2 c3 c4 c5 c6 dr d1 d2 d3 d4 (laE (Ed.mk 1 ax ay bx by' cx cy) (Ed.mk k dx dy ex ey fx fy)) rfl rfl rfl rfl rfl rfl rfl rfl
theorem arcsZ_call (k ax ay bx by' cx cy k' dx dy ex ey fx fy : Int) (w : World) (h1 : (Ed.mk k ax ay bx by' cx cy).ok = true) (h2 : (Ed.mk k' dx dy ex ey fx fy).ok = true) (hk : ¬ k = 1) (hk' : ¬ k' = 1) :
    Calls Tryz.prog 22 #[.agg #[.int .i64 cx, .int .i64 cy, .int .i64 (radZ (Ed.mk k ax ay bx by' cx cy)), .int .i64 ((ax - cx).tdiv (radZ (Ed.mk k ax ay bx by' cx cy))), .int .i64 ((ay - cy).tdiv (radZ (Ed.mk k ax ay bx by' cx cy))), .int .i64 ((bx - cx).tdiv (radZ (Ed.mk k ax ay bx by' cx cy))), .int .i64 ((by' - cy).tdiv (radZ (Ed.mk k ax ay bx by' cx cy)))],
      .agg #[.int .i64 fx, .int .i64 fy, .int .i64 (radZ (Ed.mk k' dx dy ex ey fx fy)), .int .i64 ((dx - fx).tdiv (radZ (Ed.mk k' dx dy ex ey fx fy))), .int .i64 ((dy - fy).tdiv (radZ (Ed.mk k' dx dy ex ey fx fy))), .int .i64 ((ex - fx).tdiv (radZ (Ed.mk k' dx dy ex ey fx fy))), .int .i64 ((ey - fy).tdiv (radZ (Ed.mk k' dx dy ex ey fx fy)))]] w
      fun e w' => e = .returned (.int .i64 (arcsZ (Ed.mk k ax ay bx by' cx cy) (Ed.mk k' dx dy ex ey fx fy))) ∧ Ext w w' := by
  obtain ⟨_, _, c1, c2⟩ := ok_right h1
  obtain ⟨_, _, c5, c6⟩ := ok_right h2
  obtain ⟨dr, d1, d2, d3, d4⟩ := arc_di h1 hk
  obtain ⟨er, e1, e2, e3, e4⟩ := arc_di h2 hk'
  by_cases hc : cx = fx ∧ cy = fy
  · obtain ⟨rfl, rfl⟩ := hc
    have := meet_arcsSame cx cy (radZ (Ed.mk k ax ay bx by' cx cy)) ((ax - cx).tdiv (radZ (Ed.mk k ax ay bx by' cx cy))) ((ay - cy).tdiv (radZ (Ed.mk k ax ay bx by' cx cy))) ((bx - cx).tdiv (radZ (Ed.mk k ax ay bx by' cx cy))) ((by' - cy).tdiv (radZ (Ed.mk k ax ay bx by' cx cy))) (radZ (Ed.mk k' dx dy ex ey cx cy)) ((dx - cx).tdiv (radZ (Ed.mk k' dx dy ex ey cx cy))) ((dy - cy).tdiv (radZ (Ed.mk k' dx dy ex ey cx cy))) ((ex - cx).tdiv (radZ (Ed.mk k' dx dy ex ey cx cy))) ((ey - cy).tdiv (radZ (Ed.mk k' dx dy ex ey cx cy))) w
    unfold arcsZ
    rw [if_pos ⟨rfl, rfl⟩]
    exact this
  · have := meet_arcsApart cx cy _ _ _ _ _ fx fy _ _ _ _ _ (fx - cx) (fy - cy) (-(fy - cy)) w hc c1 c2 c5 c6 dr er d1 d2 d3 d4 e1 e2 e3 e4 (aaE (Ed.mk k ax ay bx by' cx cy) (Ed.mk k' dx dy ex ey fx fy)) rfl rfl rfl rfl rfl rfl rfl rfl rfl rfl rfl rfl rfl rfl
    unfold arcsZ
    rw [if_neg hc]
    exact this

theorem ok_kind {e : Ed} (h : e.ok = true) : e.k = 1 ∨ e.k = 2 ∨ e.k = 3 := by
  simp only [Ed.ok, Bool.and_eq_true] at h
  have h2 := h.2
  by_cases h1 : e.k = 1
  · exact .inl h1
  · by_cases h3 : e.k = 2
    · exact .inr (.inl h3)
    · by_cases h4 : e.k = 3
      · exact .inr (.inr h4)
      · rw [if_neg h1, if_neg h3, if_neg h4] at h2; cases h2
theorem pt_iff {e : Ed} : e.pt = true ↔ e.ax = e.bx ∧ e.ay = e.by' := by simp [Ed.pt]
theorem pt_not {e : Ed} : e.pt = false ↔ ¬ (e.ax = e.bx ∧ e.ay = e.by') := by rw [Bool.eq_false_iff]; simp [Ed.pt]
theorem onZ_ret {e : Ed} {x y : Int} {w : World} {f : FuncId} {a : Array Value} (h : Calls Tryz.prog f a w fun r w' => r = .returned (.int .i64 (if onE e x y then 1 else 0)) ∧ Ext w w') :
    Calls Tryz.prog f a w fun r w' => r = .returned (.int .i64 (onZ e x y)) ∧ Ext w w' := h

theorem meet_Count (k ax ay bx by' cx cy k' dx dy ex ey fx fy : Int) (w : World) :
    Calls Tryz.prog 8 #[.agg #[.int .i64 k, .int .i64 ax, .int .i64 ay, .int .i64 bx, .int .i64 by', .int .i64 cx, .int .i64 cy], .agg #[.int .i64 k', .int .i64 dx, .int .i64 dy, .int .i64 ex, .int .i64 ey, .int .i64 fx, .int .i64 fy]] w fun e w' => e = .returned (.int .i64 (countE (Ed.mk k ax ay bx by' cx cy) (Ed.mk k' dx dy ex ey fx fy))) ∧ Ext w w' := by
  cases h1 : (Ed.mk k ax ay bx by' cx cy).ok with
  | false =>
    have : countE (Ed.mk k ax ay bx by' cx cy) (Ed.mk k' dx dy ex ey fx fy) = 0 := by unfold countE; rw [h1]; rfl
    rw [this]
    exact Count_bad1 _ _ _ _ _ _ _ _ _ _ _ _ _ _ w h1
  | true =>
  cases h2 : (Ed.mk k' dx dy ex ey fx fy).ok with
  | false =>
    have : countE (Ed.mk k ax ay bx by' cx cy) (Ed.mk k' dx dy ex ey fx fy) = 0 := by unfold countE; rw [h1, h2]; rfl
    rw [this]
    exact Count_bad2 _ _ _ _ _ _ _ _ _ _ _ _ _ _ w h1 h2
  | true =>
  have C1 := fun w => edge_Check_ok k ax ay bx by' cx cy w h1
  have C2 := fun w => edge_Check_ok k' dx dy ex ey fx fy w h2
  unfold countE
  rw [h1, h2]
  simp only [Bool.and_self, Bool.not_true, Bool.false_eq_true, if_false]
  by_cases k1 : k = 1
  · subst k1
    rw [if_pos rfl]
    cases p1 : (Ed.mk 1 ax ay bx by' cx cy).pt with
    | true =>
      obtain ⟨rfl, rfl⟩ : ax = bx ∧ ay = by' := pt_iff.1 p1
      rw [if_pos rfl]
      have F1 := fun w => figured_point ax ay cx cy w
      by_cases k2 : k' = 1
      · subst k2
        cases p2 : (Ed.mk 1 dx dy ex ey fx fy).pt with
        | true =>
          obtain ⟨rfl, rfl⟩ : dx = ex ∧ dy = ey := pt_iff.1 p2
          exact onZ_ret (Count_point_point 1 ax ay ax ay cx cy 1 dx dy dx dy fx fy ax ay dx dy _ w C1 C2 F1 (fun w => figured_point dx dy fx fy w) (fun w => edge_On 1 dx dy dx dy fx fy ax ay w))
        | false =>
          exact onZ_ret (Count_point_line 1 ax ay ax ay cx cy 1 dx dy ex ey fx fy ax ay _ _ _ _ _ w C1 C2 F1 (fun w => figured_line dx dy ex ey fx fy w (pt_not.1 p2)) (fun w => edge_On 1 dx dy ex ey fx fy ax ay w))
      · exact onZ_ret (Count_point_arc 1 ax ay ax ay cx cy k' dx dy ex ey fx fy ax ay _ _ _ _ _ _ _ _ w C1 C2 F1 (fun w => figured_arc k' dx dy ex ey fx fy w h2 k2) (fun w => edge_On k' dx dy ex ey fx fy ax ay w))
    | false =>
      simp only [Bool.false_eq_true, if_false]
      have n1 : ¬ (ax = bx ∧ ay = by') := pt_not.1 p1
      have F1 := fun w => figured_line ax ay bx by' cx cy w n1
      by_cases k2 : k' = 1
      · subst k2
        rw [if_pos rfl]
        cases p2 : (Ed.mk 1 dx dy ex ey fx fy).pt with
        | true =>
          obtain ⟨rfl, rfl⟩ : dx = ex ∧ dy = ey := pt_iff.1 p2
          rw [if_pos rfl]
          exact onZ_ret (Count_line_point 1 ax ay bx by' cx cy 1 dx dy dx dy fx fy dx dy _ _ _ _ _ w C1 C2 F1 (fun w => figured_point dx dy fx fy w) (fun w => edge_On 1 ax ay bx by' cx cy dx dy w))
        | false =>
          simp only [Bool.false_eq_true, if_false]
          exact Count_lines ax ay bx by' cx cy dx dy ex ey fx fy w h1 h2 n1 (pt_not.1 p2)
      · rw [if_neg k2]
        exact Count_lineArc ax ay bx by' cx cy k' dx dy ex ey fx fy w h1 h2 n1 k2 _ (fun w => crossZ_call ax ay bx by' k' dx dy ex ey fx fy cx cy w h1 h2 k2)
  · rw [if_neg k1]
    have F1 := fun w => figured_arc k ax ay bx by' cx cy w h1 k1
    by_cases k2 : k' = 1
    · subst k2
      rw [if_pos rfl]
      cases p2 : (Ed.mk 1 dx dy ex ey fx fy).pt with
      | true =>
        obtain ⟨rfl, rfl⟩ : dx = ex ∧ dy = ey := pt_iff.1 p2
        rw [if_pos rfl]
        exact onZ_ret (Count_arc_point k ax ay bx by' cx cy 1 dx dy dx dy fx fy dx dy _ _ _ _ _ _ _ _ w C1 C2 F1 (fun w => figured_point dx dy fx fy w) (fun w => edge_On k ax ay bx by' cx cy dx dy w))
      | false =>
        simp only [Bool.false_eq_true, if_false]
        exact Count_arcLine k ax ay bx by' cx cy 1 dx dy ex ey fx fy _ _ _ _ _ _ w C1 C2 F1 (fun w => figured_line dx dy ex ey fx fy w (pt_not.1 p2)) (fun w => crossZ_call dx dy ex ey k ax ay bx by' cx cy fx fy w h2 h1 k1)
    · rw [if_neg k2]
      exact Count_arcs k ax ay bx by' cx cy k' dx dy ex ey fx fy _ _ _ _ _ _ _ _ _ _ _ w C1 C2 F1 (fun w => figured_arc k' dx dy ex ey fx fy w h2 k2) (fun w => arcsZ_call k ax ay bx by' cx cy k' dx dy ex ey fx fy w h1 h2 k1 k2)

set_option maxRecDepth 100000 in
set_option maxHeartbeats 1000000 in
theorem meet_Edges (k ax ay bx by' cx cy k' dx dy ex ey fx fy : Int) (w : World) :
    Calls Tryz.prog 10 #[.agg #[.int .i64 k, .int .i64 ax, .int .i64 ay, .int .i64 bx, .int .i64 by', .int .i64 cx, .int .i64 cy], .agg #[.int .i64 k', .int .i64 dx, .int .i64 dy, .int .i64 ex, .int .i64 ey, .int .i64 fx, .int .i64 fy]] w fun e w' => e = .returned (.bool (!(countE (Ed.mk k ax ay bx by' cx cy) (Ed.mk k' dx dy ex ey fx fy) == 0))) ∧ Ext w w' := by
  have CO := fun w => meet_Count k ax ay bx by' cx cy k' dx dy ex ey fx fy w
  obtain ⟨z, Z⟩ : ∃ z, Hid (countE (Ed.mk k ax ay bx by' cx cy) (Ed.mk k' dx dy ex ey fx fy) = z) := ⟨_, rfl⟩
  rw [Z.out] at CO ⊢
  replace CO := Lib.hid CO
  go_enter Tryz.func10, Tryz.ntmps10
  go_wp2_with fail
  refine (CO.out _).mono ?_
  rintro e w1 ⟨rfl, hx⟩
  have hx0 : Ext w w1 := Ext.step bxx hx
  clear hx
  go_wp2
  go_ret
  exact ⟨rfl, hx0⟩
end Go.Proofs.YtmmhiiiaccldmaaGreat

namespace Go.Proofs.YtmmhiiiaccldmaaGreat
open Go.RowKit
attribute [local go_sem] Gives givesU

set_option maxRecDepth 100000 in
set_option maxHeartbeats 1000000 in
theorem law_line (a b c d : Int) (w : World) : Calls Tryz.prog 13 #[.int .i64 a, .int .i64 b, .int .i64 c, .int .i64 d] w fun e w' => e = .returned (.agg #[.int .i64 1, .int .i64 a, .int .i64 b, .int .i64 c, .int .i64 d, .int .i64 0, .int .i64 0]) ∧ Ext w w' := by
  go_enter Tryz.func13, Tryz.ntmps13
  go_wp2
  exact bodyPost_ret (v := .agg #[.int .i64 1, .int .i64 a, .int .i64 b, .int .i64 c, .int .i64 d, .int .i64 0, .int .i64 0]) (by simp [results, Tryz.results13, go_sem]) rfl ⟨rfl, bxx⟩
set_option maxRecDepth 100000 in
set_option maxHeartbeats 1000000 in
theorem law_left (a b c d x y : Int) (w : World) : Calls Tryz.prog 12 #[.int .i64 a, .int .i64 b, .int .i64 c, .int .i64 d, .int .i64 x, .int .i64 y] w fun e w' => e = .returned (.agg #[.int .i64 2, .int .i64 a, .int .i64 b, .int .i64 c, .int .i64 d, .int .i64 x, .int .i64 y]) ∧ Ext w w' := by
  go_enter Tryz.func12, Tryz.ntmps12
  go_wp2
  exact bodyPost_ret (v := .agg #[.int .i64 2, .int .i64 a, .int .i64 b, .int .i64 c, .int .i64 d, .int .i64 x, .int .i64 y]) (by simp [results, Tryz.results12, go_sem]) rfl ⟨rfl, bxx⟩

section
variable {P : Program} {ops : Array Oper} {S : World → Prop} {Q : Act → World → Prop} {o : Oper} {l : List Oper} {a : Act} {own : List Nat} {F : World → Prop}
/-- An operation that makes one new block. -/
theorem F_blk (obj : Obj) (sh : Nat → Value) (hk : fkind o = 1) (hw : Region.wanted o (yielded ops a.tmps) = true)
    (hr : ∀ W, S W → (execOp a.eval o).run P W = .ok (.value (sh W.heap.size)) (W.alloc obj))
    (h : ∀ g, (∃ w : World, F w ∧ w.heap[g]? = some obj) → WpF P ops S Q l (a.put o.dst (sh g)) own (fun w => F w ∧ w.heap[g]? = some obj)) (hp : ∀ g, shp o g = sh g := by (intro g; rfl)) : WpF P ops S Q (o :: l) a own F :=
  .flo hk hw obj (fun w hs => by rw [hp]; exact hr w hs) fun g hg hs => by rw [hp]; exact (h g hs).weak (fun _ h => h) (fun x hx => List.mem_cons_of_mem _ hx)
end

def tabObj : Obj := .cells (tabz.map fun z => Value.int .i64 z).toArray 38
theorem tab_cell {W : World} {g : Nat} (h : W.heap[g]? = some tabObj) (o : Nat) (ho : o < 255) : W.cell? ⟨g, o, none⟩ = some (.int .i64 (tz o)) := by
  have hl : tabz.length = 255 := by decide +kernel
  rw [cell_of_row _ _ _ _ _ _ h]
  simp [tz, List.getElem?_eq_getElem (show o < tabz.length by omega)]

set_option maxRecDepth 100000 in
set_option maxHeartbeats 16000000 in
theorem law_sanity (w : World) : Calls Tryz.prog 5 #[] w fun e w' => e = .returned (.bool true) ∧ Ext w w' := by
  go_enter Tryz.func5, Tryz.ntmps5
  go_wp2_with fail
  refine (law_left 5 0 0 5 0 0 _).mono ?_
  rintro e w1 ⟨rfl, hx1⟩
  have hs1 := hx1.size
  go_upto_region 2 with (fail)
  refine wp_world (fun W => Ext w W ∧ W.cell? ⟨w1.heap.size, 0, none⟩ = some (.int .i64 2) ∧ W.cell? ⟨w1.heap.size, 1, none⟩ = some (.int .i64 5) ∧ W.cell? ⟨w1.heap.size, 2, none⟩ = some (.int .i64 0) ∧ W.cell? ⟨w1.heap.size, 3, none⟩ = some (.int .i64 0) ∧ W.cell? ⟨w1.heap.size, 4, none⟩ = some (.int .i64 5) ∧ W.cell? ⟨w1.heap.size, 5, none⟩ = some (.int .i64 0) ∧ W.cell? ⟨w1.heap.size, 6, none⟩ = some (.int .i64 0) ∧ w1.heap.size < W.heap.size) ?_ ?_
  · refine ⟨bxx, by go_simp, by go_simp, by go_simp, by go_simp, by go_simp, by go_simp, by go_simp, by simp⟩
  rintro W2 ⟨hx2, c0, c1, c2, c3, c4, c5, c6, hl2⟩
  obtain ⟨B, hB⟩ : ∃ B, Hid (w1.heap.size = B) := ⟨_, rfl⟩
  rw [hB.out] at c0 c1 c2 c3 c4 c5 c6 hl2 ⊢
  clear hx1 hs1
  refine wp_FS (fun W => W.cell? ⟨B, 0, none⟩ = some (.int .i64 2) ∧ W.cell? ⟨B, 1, none⟩ = some (.int .i64 5) ∧ W.cell? ⟨B, 2, none⟩ = some (.int .i64 0) ∧ W.cell? ⟨B, 3, none⟩ = some (.int .i64 0) ∧ W.cell? ⟨B, 4, none⟩ = some (.int .i64 5) ∧ W.cell? ⟨B, 5, none⟩ = some (.int .i64 0) ∧ W.cell? ⟨B, 6, none⟩ = some (.int .i64 0)) ?_
  repeat (first | refine F_s ?_ | refine F_r ?_)
  (refine F_call (v := .agg #[.int .i64 (1), .int .i64 (0), .int .i64 (0), .int .i64 (4), .int .i64 (4), .int .i64 (0), .int .i64 (0)]) (by rfl) (by rfl) ?_ ?_; (· (intro W hW; (try dsimp only at hW); go_simp; refine (law_line (0) (0) (4) (4) _).mono ?_; rintro e w' ⟨rfl, hx⟩; exact ⟨_, rfl, rfl, hx⟩))); refine F_put ?_
  repeat (first | refine F_s ?_ | refine F_r ?_)
  (refine F_call (v := .agg #[.int .i64 (1), .int .i64 (0), .int .i64 (4), .int .i64 (4), .int .i64 (0), .int .i64 (0), .int .i64 (0)]) (by rfl) (by rfl) ?_ ?_; (· (intro W hW; (try dsimp only at hW); go_simp; refine (law_line (0) (4) (4) (0) _).mono ?_; rintro e w' ⟨rfl, hx⟩; exact ⟨_, rfl, rfl, hx⟩))); refine F_put ?_
  repeat (first | refine F_s ?_ | refine F_r ?_)
  (refine F_call (v := .agg #[.int .i64 (1), .int .i64 (0), .int .i64 (0), .int .i64 (4), .int .i64 (4), .int .i64 (0), .int .i64 (0)]) (by rfl) (by rfl) ?_ ?_; (· (intro W hW; (try dsimp only at hW); go_simp; refine (law_line (0) (0) (4) (4) _).mono ?_; rintro e w' ⟨rfl, hx⟩; exact ⟨_, rfl, rfl, hx⟩))); refine F_put ?_
  repeat (first | refine F_s ?_ | refine F_r ?_)
  (refine F_call (v := .agg #[.int .i64 (1), .int .i64 (2), .int .i64 (2), .int .i64 (9), .int .i64 (9), .int .i64 (0), .int .i64 (0)]) (by rfl) (by rfl) ?_ ?_; (· (intro W hW; (try dsimp only at hW); go_simp; refine (law_line (2) (2) (9) (9) _).mono ?_; rintro e w' ⟨rfl, hx⟩; exact ⟨_, rfl, rfl, hx⟩))); refine F_put ?_
  repeat (first | refine F_s ?_ | refine F_r ?_)
  (refine F_call (v := .agg #[.int .i64 (1), .int .i64 (0), .int .i64 (0), .int .i64 (4), .int .i64 (4), .int .i64 (0), .int .i64 (0)]) (by rfl) (by rfl) ?_ ?_; (· (intro W hW; (try dsimp only at hW); go_simp; refine (law_line (0) (0) (4) (4) _).mono ?_; rintro e w' ⟨rfl, hx⟩; exact ⟨_, rfl, rfl, hx⟩))); refine F_put ?_
  repeat (first | refine F_s ?_ | refine F_r ?_)
  (refine F_call (v := .agg #[.int .i64 (1), .int .i64 (4), .int .i64 (4), .int .i64 (9), .int .i64 (9), .int .i64 (0), .int .i64 (0)]) (by rfl) (by rfl) ?_ ?_; (· (intro W hW; (try dsimp only at hW); go_simp; refine (law_line (4) (4) (9) (9) _).mono ?_; rintro e w' ⟨rfl, hx⟩; exact ⟨_, rfl, rfl, hx⟩))); refine F_put ?_
  repeat (first | refine F_s ?_ | refine F_r ?_)
  (refine F_call (v := .agg #[.int .i64 (1), .int .i64 (0), .int .i64 (0), .int .i64 (4), .int .i64 (4), .int .i64 (0), .int .i64 (0)]) (by rfl) (by rfl) ?_ ?_; (· (intro W hW; (try dsimp only at hW); go_simp; refine (law_line (0) (0) (4) (4) _).mono ?_; rintro e w' ⟨rfl, hx⟩; exact ⟨_, rfl, rfl, hx⟩))); refine F_put ?_
  repeat (first | refine F_s ?_ | refine F_r ?_)
  (refine F_call (v := .agg #[.int .i64 (1), .int .i64 (5), .int .i64 (5), .int .i64 (9), .int .i64 (9), .int .i64 (0), .int .i64 (0)]) (by rfl) (by rfl) ?_ ?_; (· (intro W hW; (try dsimp only at hW); go_simp; refine (law_line (5) (5) (9) (9) _).mono ?_; rintro e w' ⟨rfl, hx⟩; exact ⟨_, rfl, rfl, hx⟩))); refine F_put ?_
  repeat (first | refine F_s ?_ | refine F_r ?_)
  (refine F_call (v := .agg #[.int .i64 (1), .int .i64 (0), .int .i64 (0), .int .i64 (3), .int .i64 (4), .int .i64 (0), .int .i64 (0)]) (by rfl) (by rfl) ?_ ?_; (· (intro W hW; (try dsimp only at hW); go_simp; refine (law_line (0) (0) (3) (4) _).mono ?_; rintro e w' ⟨rfl, hx⟩; exact ⟨_, rfl, rfl, hx⟩))); refine F_put ?_
  repeat (first | refine F_s ?_ | refine F_r ?_)
  (refine F_call (v := .agg #[.int .i64 (1), .int .i64 (0), .int .i64 (0), .int .i64 (3), .int .i64 (3), .int .i64 (0), .int .i64 (0)]) (by rfl) (by rfl) ?_ ?_; (· (intro W hW; (try dsimp only at hW); go_simp; refine (law_line (0) (0) (3) (3) _).mono ?_; rintro e w' ⟨rfl, hx⟩; exact ⟨_, rfl, rfl, hx⟩))); refine F_put ?_
  repeat (first | refine F_s ?_ | refine F_r ?_)
  (refine F_call (v := .agg #[.int .i64 (1), .int .i64 (0), .int .i64 (0), .int .i64 (6), .int .i64 (8), .int .i64 (0), .int .i64 (0)]) (by rfl) (by rfl) ?_ ?_; (· (intro W hW; (try dsimp only at hW); go_simp; refine (law_line (0) (0) (6) (8) _).mono ?_; rintro e w' ⟨rfl, hx⟩; exact ⟨_, rfl, rfl, hx⟩))); refine F_put ?_
  repeat (first | refine F_s ?_ | refine F_r ?_)
  (refine F_call (v := .agg #[.int .i64 (1), .int .i64 (5), .int .i64 (0), .int .i64 (0), .int .i64 (5), .int .i64 (0), .int .i64 (0)]) (by rfl) (by rfl) ?_ ?_; (· (intro W hW; (try dsimp only at hW); go_simp; refine (law_line (5) (0) (0) (5) _).mono ?_; rintro e w' ⟨rfl, hx⟩; exact ⟨_, rfl, rfl, hx⟩))); refine F_put ?_
  repeat (first | refine F_s ?_ | refine F_r ?_)
  (refine F_call (v := .agg #[.int .i64 (1), .int .i64 (5), .int .i64 (-3), .int .i64 (5), .int .i64 (3), .int .i64 (0), .int .i64 (0)]) (by rfl) (by rfl) ?_ ?_; (· (intro W hW; (try dsimp only at hW); go_simp; refine (law_line (5) (-3) (5) (3) _).mono ?_; rintro e w' ⟨rfl, hx⟩; exact ⟨_, rfl, rfl, hx⟩))); refine F_put ?_
  repeat (first | refine F_s ?_ | refine F_r ?_)
  (refine F_call (v := .agg #[.int .i64 (1), .int .i64 (-5), .int .i64 (1), .int .i64 (4), .int .i64 (1), .int .i64 (0), .int .i64 (0)]) (by rfl) (by rfl) ?_ ?_; (· (intro W hW; (try dsimp only at hW); go_simp; refine (law_line (-5) (1) (4) (1) _).mono ?_; rintro e w' ⟨rfl, hx⟩; exact ⟨_, rfl, rfl, hx⟩))); refine F_put ?_
  repeat (first | refine F_s ?_ | refine F_r ?_)
  (refine F_call (v := .agg #[.int .i64 (1), .int .i64 (1), .int .i64 (6), .int .i64 (6), .int .i64 (1), .int .i64 (0), .int .i64 (0)]) (by rfl) (by rfl) ?_ ?_; (· (intro W hW; (try dsimp only at hW); go_simp; refine (law_line (1) (6) (6) (1) _).mono ?_; rintro e w' ⟨rfl, hx⟩; exact ⟨_, rfl, rfl, hx⟩))); refine F_put ?_
  repeat (first | refine F_s ?_ | refine F_r ?_)
  (refine F_call (v := .agg #[.int .i64 (1), .int .i64 (-5), .int .i64 (5), .int .i64 (5), .int .i64 (5), .int .i64 (0), .int .i64 (0)]) (by rfl) (by rfl) ?_ ?_; (· (intro W hW; (try dsimp only at hW); go_simp; refine (law_line (-5) (5) (5) (5) _).mono ?_; rintro e w' ⟨rfl, hx⟩; exact ⟨_, rfl, rfl, hx⟩))); refine F_put ?_
  repeat (first | refine F_s ?_ | refine F_r ?_)
  (refine F_call (v := .agg #[.int .i64 (2), .int .i64 (0), .int .i64 (5), .int .i64 (-5), .int .i64 (0), .int .i64 (0), .int .i64 (0)]) (by rfl) (by rfl) ?_ ?_; (· (intro W hW; (try dsimp only at hW); go_simp; refine (law_left (0) (5) (-5) (0) (0) (0) _).mono ?_; rintro e w' ⟨rfl, hx⟩; exact ⟨_, rfl, rfl, hx⟩))); refine F_put ?_
  repeat (first | refine F_s ?_ | refine F_r ?_)
  (refine F_call (v := .agg #[.int .i64 (2), .int .i64 (-5), .int .i64 (0), .int .i64 (0), .int .i64 (-5), .int .i64 (0), .int .i64 (0)]) (by rfl) (by rfl) ?_ ?_; (· (intro W hW; (try dsimp only at hW); go_simp; refine (law_left (-5) (0) (0) (-5) (0) (0) _).mono ?_; rintro e w' ⟨rfl, hx⟩; exact ⟨_, rfl, rfl, hx⟩))); refine F_put ?_
  repeat (first | refine F_s ?_ | refine F_r ?_)
  (refine F_call (v := .agg #[.int .i64 (2), .int .i64 (6), .int .i64 (5), .int .i64 (1), .int .i64 (0), .int .i64 (6), .int .i64 (0)]) (by rfl) (by rfl) ?_ ?_; (· (intro W hW; (try dsimp only at hW); go_simp; refine (law_left (6) (5) (1) (0) (6) (0) _).mono ?_; rintro e w' ⟨rfl, hx⟩; exact ⟨_, rfl, rfl, hx⟩))); refine F_put ?_
  repeat (first | refine F_s ?_ | refine F_r ?_)
  (refine F_call (v := .agg #[.int .i64 (2), .int .i64 (0), .int .i64 (5), .int .i64 (5), .int .i64 (0), .int .i64 (5), .int .i64 (5)]) (by rfl) (by rfl) ?_ ?_; (· (intro W hW; (try dsimp only at hW); go_simp; refine (law_left (0) (5) (5) (0) (5) (5) _).mono ?_; rintro e w' ⟨rfl, hx⟩; exact ⟨_, rfl, rfl, hx⟩))); refine F_put ?_
  repeat (first | refine F_s ?_ | refine F_r ?_)
  refine F_blk tabObj (fun g => .slice (some ⟨g, 0, none⟩) 17 17) (by rfl) (by rfl) (fun W _ => by kernel_rfl) ?_
  intro g hg
  refine F_put ?_
  repeat (first | refine F_s ?_ | refine F_r ?_)
  rintro W3 ⟨⟨hx3, hc⟩, hb⟩
  clear hc hg c0 c1 c2 c3 c4 c5 c6
  have hx4 : Ext w W3 := Ext.step hx2 hx3
  have HT : Hid (W3.heap[g]? = some tabObj) := hb
  clear hb hx3 hx2
  go_upto_region 3 with (fail)
  generalize (.agg #[.int .i64 (1), .int .i64 (0), .int .i64 (0), .int .i64 (4), .int .i64 (4), .int .i64 (0), .int .i64 (0)] : Value) = r0
  generalize (.agg #[.int .i64 (1), .int .i64 (0), .int .i64 (4), .int .i64 (4), .int .i64 (0), .int .i64 (0), .int .i64 (0)] : Value) = r1
  generalize (.agg #[.int .i64 (1), .int .i64 (0), .int .i64 (0), .int .i64 (4), .int .i64 (4), .int .i64 (0), .int .i64 (0), .int .i64 (1), .int .i64 (0), .int .i64 (4), .int .i64 (4), .int .i64 (0), .int .i64 (0), .int .i64 (0), .int .i64 (1)] : Value) = r2
  generalize (.agg #[.int .i64 (1), .int .i64 (2), .int .i64 (2), .int .i64 (9), .int .i64 (9), .int .i64 (0), .int .i64 (0)] : Value) = r3
  generalize (.agg #[.int .i64 (1), .int .i64 (0), .int .i64 (0), .int .i64 (4), .int .i64 (4), .int .i64 (0), .int .i64 (0), .int .i64 (1), .int .i64 (2), .int .i64 (2), .int .i64 (9), .int .i64 (9), .int .i64 (0), .int .i64 (0), .int .i64 (-1)] : Value) = r4
  generalize (.agg #[.int .i64 (1), .int .i64 (4), .int .i64 (4), .int .i64 (9), .int .i64 (9), .int .i64 (0), .int .i64 (0)] : Value) = r5
  generalize (.agg #[.int .i64 (1), .int .i64 (0), .int .i64 (0), .int .i64 (4), .int .i64 (4), .int .i64 (0), .int .i64 (0), .int .i64 (1), .int .i64 (4), .int .i64 (4), .int .i64 (9), .int .i64 (9), .int .i64 (0), .int .i64 (0), .int .i64 (1)] : Value) = r6
  generalize (.agg #[.int .i64 (1), .int .i64 (5), .int .i64 (5), .int .i64 (9), .int .i64 (9), .int .i64 (0), .int .i64 (0)] : Value) = r7
  generalize (.agg #[.int .i64 (1), .int .i64 (0), .int .i64 (0), .int .i64 (4), .int .i64 (4), .int .i64 (0), .int .i64 (0), .int .i64 (1), .int .i64 (5), .int .i64 (5), .int .i64 (9), .int .i64 (9), .int .i64 (0), .int .i64 (0), .int .i64 (0)] : Value) = r8
  generalize (.agg #[.int .i64 (2), .int .i64 (5), .int .i64 (0), .int .i64 (0), .int .i64 (5), .int .i64 (0), .int .i64 (0)] : Value) = r9
  generalize (.agg #[.int .i64 (1), .int .i64 (0), .int .i64 (0), .int .i64 (3), .int .i64 (4), .int .i64 (0), .int .i64 (0)] : Value) = r10
  generalize (.agg #[.int .i64 (2), .int .i64 (5), .int .i64 (0), .int .i64 (0), .int .i64 (5), .int .i64 (0), .int .i64 (0), .int .i64 (1), .int .i64 (0), .int .i64 (0), .int .i64 (3), .int .i64 (4), .int .i64 (0), .int .i64 (0), .int .i64 (1)] : Value) = r11
  generalize (.agg #[.int .i64 (1), .int .i64 (0), .int .i64 (0), .int .i64 (3), .int .i64 (3), .int .i64 (0), .int .i64 (0)] : Value) = r12
  generalize (.agg #[.int .i64 (2), .int .i64 (5), .int .i64 (0), .int .i64 (0), .int .i64 (5), .int .i64 (0), .int .i64 (0), .int .i64 (1), .int .i64 (0), .int .i64 (0), .int .i64 (3), .int .i64 (3), .int .i64 (0), .int .i64 (0), .int .i64 (0)] : Value) = r13
  generalize (.agg #[.int .i64 (1), .int .i64 (0), .int .i64 (0), .int .i64 (6), .int .i64 (8), .int .i64 (0), .int .i64 (0)] : Value) = r14
  generalize (.agg #[.int .i64 (2), .int .i64 (5), .int .i64 (0), .int .i64 (0), .int .i64 (5), .int .i64 (0), .int .i64 (0), .int .i64 (1), .int .i64 (0), .int .i64 (0), .int .i64 (6), .int .i64 (8), .int .i64 (0), .int .i64 (0), .int .i64 (1)] : Value) = r15
  generalize (.agg #[.int .i64 (1), .int .i64 (5), .int .i64 (0), .int .i64 (0), .int .i64 (5), .int .i64 (0), .int .i64 (0)] : Value) = r16
  generalize (.agg #[.int .i64 (2), .int .i64 (5), .int .i64 (0), .int .i64 (0), .int .i64 (5), .int .i64 (0), .int .i64 (0), .int .i64 (1), .int .i64 (5), .int .i64 (0), .int .i64 (0), .int .i64 (5), .int .i64 (0), .int .i64 (0), .int .i64 (2)] : Value) = r17
  generalize (.agg #[.int .i64 (1), .int .i64 (5), .int .i64 (-3), .int .i64 (5), .int .i64 (3), .int .i64 (0), .int .i64 (0)] : Value) = r18
  generalize (.agg #[.int .i64 (2), .int .i64 (5), .int .i64 (0), .int .i64 (0), .int .i64 (5), .int .i64 (0), .int .i64 (0), .int .i64 (1), .int .i64 (5), .int .i64 (-3), .int .i64 (5), .int .i64 (3), .int .i64 (0), .int .i64 (0), .int .i64 (1)] : Value) = r19
  generalize (.agg #[.int .i64 (1), .int .i64 (-5), .int .i64 (1), .int .i64 (4), .int .i64 (1), .int .i64 (0), .int .i64 (0)] : Value) = r20
  generalize (.agg #[.int .i64 (2), .int .i64 (5), .int .i64 (0), .int .i64 (0), .int .i64 (5), .int .i64 (0), .int .i64 (0), .int .i64 (1), .int .i64 (-5), .int .i64 (1), .int .i64 (4), .int .i64 (1), .int .i64 (0), .int .i64 (0), .int .i64 (0)] : Value) = r21
  generalize (.agg #[.int .i64 (1), .int .i64 (1), .int .i64 (6), .int .i64 (6), .int .i64 (1), .int .i64 (0), .int .i64 (0)] : Value) = r22
  generalize (.agg #[.int .i64 (2), .int .i64 (5), .int .i64 (0), .int .i64 (0), .int .i64 (5), .int .i64 (0), .int .i64 (0), .int .i64 (1), .int .i64 (1), .int .i64 (6), .int .i64 (6), .int .i64 (1), .int .i64 (0), .int .i64 (0), .int .i64 (2)] : Value) = r23
  generalize (.agg #[.int .i64 (1), .int .i64 (-5), .int .i64 (5), .int .i64 (5), .int .i64 (5), .int .i64 (0), .int .i64 (0)] : Value) = r24
  generalize (.agg #[.int .i64 (2), .int .i64 (5), .int .i64 (0), .int .i64 (0), .int .i64 (5), .int .i64 (0), .int .i64 (0), .int .i64 (1), .int .i64 (-5), .int .i64 (5), .int .i64 (5), .int .i64 (5), .int .i64 (0), .int .i64 (0), .int .i64 (1)] : Value) = r25
  generalize (.agg #[.int .i64 (2), .int .i64 (5), .int .i64 (0), .int .i64 (0), .int .i64 (5), .int .i64 (0), .int .i64 (0), .int .i64 (2), .int .i64 (5), .int .i64 (0), .int .i64 (0), .int .i64 (5), .int .i64 (0), .int .i64 (0), .int .i64 (-1)] : Value) = r26
  generalize (.agg #[.int .i64 (2), .int .i64 (0), .int .i64 (5), .int .i64 (-5), .int .i64 (0), .int .i64 (0), .int .i64 (0)] : Value) = r27
  generalize (.agg #[.int .i64 (2), .int .i64 (5), .int .i64 (0), .int .i64 (0), .int .i64 (5), .int .i64 (0), .int .i64 (0), .int .i64 (2), .int .i64 (0), .int .i64 (5), .int .i64 (-5), .int .i64 (0), .int .i64 (0), .int .i64 (0), .int .i64 (1)] : Value) = r28
  generalize (.agg #[.int .i64 (2), .int .i64 (-5), .int .i64 (0), .int .i64 (0), .int .i64 (-5), .int .i64 (0), .int .i64 (0)] : Value) = r29
  generalize (.agg #[.int .i64 (2), .int .i64 (5), .int .i64 (0), .int .i64 (0), .int .i64 (5), .int .i64 (0), .int .i64 (0), .int .i64 (2), .int .i64 (-5), .int .i64 (0), .int .i64 (0), .int .i64 (-5), .int .i64 (0), .int .i64 (0), .int .i64 (0)] : Value) = r30
  generalize (.agg #[.int .i64 (2), .int .i64 (6), .int .i64 (5), .int .i64 (1), .int .i64 (0), .int .i64 (6), .int .i64 (0)] : Value) = r31
  generalize (.agg #[.int .i64 (2), .int .i64 (5), .int .i64 (0), .int .i64 (0), .int .i64 (5), .int .i64 (0), .int .i64 (0), .int .i64 (2), .int .i64 (6), .int .i64 (5), .int .i64 (1), .int .i64 (0), .int .i64 (6), .int .i64 (0), .int .i64 (1)] : Value) = r32
  generalize (.agg #[.int .i64 (2), .int .i64 (0), .int .i64 (5), .int .i64 (5), .int .i64 (0), .int .i64 (5), .int .i64 (5)] : Value) = r33
  generalize (.agg #[.int .i64 (2), .int .i64 (5), .int .i64 (0), .int .i64 (0), .int .i64 (5), .int .i64 (0), .int .i64 (0), .int .i64 (2), .int .i64 (0), .int .i64 (5), .int .i64 (5), .int .i64 (0), .int .i64 (5), .int .i64 (5), .int .i64 (2)] : Value) = r34
  go_loopw [58] (fun i wr => ∃ k : Nat, k ≤ 17 ∧ i = .int .i64 (k : Int) ∧ wr.heap[g]? = some tabObj ∧ Ext w wr) (fun i _ => 17 - (intOf i).toNat)
  case atStart => exact ⟨0, by omega, rfl, HT.out, hx4⟩
  case round =>
    clear HT hx4
    obtain ⟨k, hk, rfl, hb, hx⟩ := hrel
    by_cases hlt : k < 17
    · have CE := fun w => meet_Count _ _ _ _ _ _ _ _ _ _ _ _ _ _ w |>.mono (fun e w' h => (show e = .returned (.int .i64 (countE (rowA k) (rowB k))) ∧ Ext w w' from h))
      have EE := fun w => meet_Edges _ _ _ _ _ _ _ _ _ _ _ _ _ _ w |>.mono (fun e w' h => (show e = .returned (.bool (!(countE (rowB k) (rowA k) == 0))) ∧ Ext w w' from h))
      rw [tab_count k hlt] at CE
      rw [tab_edges k hlt] at EE
      have hgl : g < wr.heap.size := (Array.getElem?_eq_some_iff.1 hb).1
      have e0 := tab_cell hb (k * 15) (by omega)
      have e1 := tab_cell hb (k * 15 + 1) (by omega)
      have e2 := tab_cell hb (k * 15 + 2) (by omega)
      have e3 := tab_cell hb (k * 15 + 3) (by omega)
      have e4 := tab_cell hb (k * 15 + 4) (by omega)
      have e5 := tab_cell hb (k * 15 + 5) (by omega)
      have e6 := tab_cell hb (k * 15 + 6) (by omega)
      have e7 := tab_cell hb (k * 15 + 7) (by omega)
      have e8 := tab_cell hb (k * 15 + 8) (by omega)
      have e9 := tab_cell hb (k * 15 + 9) (by omega)
      have e10 := tab_cell hb (k * 15 + 10) (by omega)
      have e11 := tab_cell hb (k * 15 + 11) (by omega)
      have e12 := tab_cell hb (k * 15 + 12) (by omega)
      have e13 := tab_cell hb (k * 15 + 13) (by omega)
      have e14 := tab_cell hb (k * 15 + 14) (by omega)
      obtain ⟨z0, Z0⟩ : ∃ z, tz (k * 15) = z := ⟨_, rfl⟩
      rw [Z0] at e0 CE EE
      obtain ⟨z1, Z1⟩ : ∃ z, tz (k * 15 + 1) = z := ⟨_, rfl⟩
      rw [Z1] at e1 CE EE
      obtain ⟨z2, Z2⟩ : ∃ z, tz (k * 15 + 2) = z := ⟨_, rfl⟩
      rw [Z2] at e2 CE EE
      obtain ⟨z3, Z3⟩ : ∃ z, tz (k * 15 + 3) = z := ⟨_, rfl⟩
      rw [Z3] at e3 CE EE
      obtain ⟨z4, Z4⟩ : ∃ z, tz (k * 15 + 4) = z := ⟨_, rfl⟩
      rw [Z4] at e4 CE EE
      obtain ⟨z5, Z5⟩ : ∃ z, tz (k * 15 + 5) = z := ⟨_, rfl⟩
      rw [Z5] at e5 CE EE
      obtain ⟨z6, Z6⟩ : ∃ z, tz (k * 15 + 6) = z := ⟨_, rfl⟩
      rw [Z6] at e6 CE EE
      obtain ⟨z7, Z7⟩ : ∃ z, tz (k * 15 + 7) = z := ⟨_, rfl⟩
      rw [Z7] at e7 CE EE
      obtain ⟨z8, Z8⟩ : ∃ z, tz (k * 15 + 8) = z := ⟨_, rfl⟩
      rw [Z8] at e8 CE EE
      obtain ⟨z9, Z9⟩ : ∃ z, tz (k * 15 + 9) = z := ⟨_, rfl⟩
      rw [Z9] at e9 CE EE
      obtain ⟨z10, Z10⟩ : ∃ z, tz (k * 15 + 10) = z := ⟨_, rfl⟩
      rw [Z10] at e10 CE EE
      obtain ⟨z11, Z11⟩ : ∃ z, tz (k * 15 + 11) = z := ⟨_, rfl⟩
      rw [Z11] at e11 CE EE
      obtain ⟨z12, Z12⟩ : ∃ z, tz (k * 15 + 12) = z := ⟨_, rfl⟩
      rw [Z12] at e12 CE EE
      obtain ⟨z13, Z13⟩ : ∃ z, tz (k * 15 + 13) = z := ⟨_, rfl⟩
      rw [Z13] at e13 CE EE
      obtain ⟨z14, Z14⟩ : ∃ z, tz (k * 15 + 14) = z := ⟨_, rfl⟩
      rw [Z14] at e14 CE EE
      replace CE := Lib.hid CE
      replace EE := Lib.hid EE
      clear Z0 Z1 Z2 Z3 Z4 Z5 Z6 Z7 Z8 Z9 Z10 Z11 Z12 Z13 Z14
      have HT : Hid (wr.heap[g]? = some tabObj) := hb
      clear hb
      go_wp2_with fail
      have g1 : (z14 != z14) = false := by simp
      obtain ⟨bz, hbz⟩ : ∃ b, (!(z14 == 0)) = b := ⟨_, rfl⟩
      have hbz' : (z14 != 0) = bz := hbz
      have g2 : (bz != bz) = false := by simp
      rw [hbz] at EE
      refine wp_FS (fun W => W.cell? ⟨wr.heap.size, 0, none⟩ = some (.int .i64 z0) ∧ W.cell? ⟨wr.heap.size, 1, none⟩ = some (.int .i64 z1) ∧ W.cell? ⟨wr.heap.size, 2, none⟩ = some (.int .i64 z2) ∧ W.cell? ⟨wr.heap.size, 3, none⟩ = some (.int .i64 z3) ∧ W.cell? ⟨wr.heap.size, 4, none⟩ = some (.int .i64 z4) ∧ W.cell? ⟨wr.heap.size, 5, none⟩ = some (.int .i64 z5) ∧ W.cell? ⟨wr.heap.size, 6, none⟩ = some (.int .i64 z6) ∧ W.cell? ⟨wr.heap.size, 7, none⟩ = some (.int .i64 z7) ∧ W.cell? ⟨wr.heap.size, 8, none⟩ = some (.int .i64 z8) ∧ W.cell? ⟨wr.heap.size, 9, none⟩ = some (.int .i64 z9) ∧ W.cell? ⟨wr.heap.size, 10, none⟩ = some (.int .i64 z10) ∧ W.cell? ⟨wr.heap.size, 11, none⟩ = some (.int .i64 z11) ∧ W.cell? ⟨wr.heap.size, 12, none⟩ = some (.int .i64 z12) ∧ W.cell? ⟨wr.heap.size, 13, none⟩ = some (.int .i64 z13) ∧ W.cell? ⟨wr.heap.size, 14, none⟩ = some (.int .i64 z14)) ?_
      repeat (first | refine F_s ?_ | refine F_r ?_)
      (refine F_call (v := .int .i64 z14) (by rfl) (by rfl) ?_ ?_; (· (intro W hW; (try dsimp only at hW); go_simp; refine (CE.out _).mono ?_; rintro e w' ⟨rfl, hx⟩; exact ⟨_, rfl, rfl, hx⟩))); refine F_put ?_
      repeat (first | refine F_s ?_ | refine F_r ?_)
      (refine F_call (v := .bool bz) (by rfl) (by rfl) ?_ ?_; (· (intro W hW; (try dsimp only at hW); go_simp; refine (EE.out _).mono ?_; rintro e w' ⟨rfl, hx⟩; exact ⟨_, rfl, rfl, hx⟩))); refine F_put ?_
      repeat (first | refine F_s ?_ | refine F_r ?_)
      rintro W5 ⟨hx5, hc5⟩
      have hx6 : Ext wr W5 := Below.trans bxx (hx5.mono (by simp))
      clear hc5 hx5
      have hx7 : Ext w W5 := Ext.step hx hx6
      have hb7 : W5.heap[g]? = some tabObj := (hx6.block g hgl).trans HT.out
      clear e0 e1 e2 e3 e4 e5 e6 e7 e8 e9 e10 e11 e12 e13 e14 HT CE EE hx6 hx
      go_wp2
      exact ⟨⟨k + 1, by omega, rfl, hb7, hx7⟩, by simp [intOf]; omega⟩
    · obtain rfl : k = 17 := by omega
      go_wp2
      go_ret
      exact ⟨rfl, hx⟩
end Go.Proofs.YtmmhiiiaccldmaaGreat
