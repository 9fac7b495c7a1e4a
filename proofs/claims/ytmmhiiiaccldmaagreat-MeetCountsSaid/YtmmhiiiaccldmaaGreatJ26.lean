/- Contract: etchantref07.crossed. -/
import Derived.Test.YtmmhiiiaccldmaaGreatJ25
set_option linter.unusedVariables false
set_option linter.unusedSimpArgs false

namespace Go.Proofs.YtmmhiiiaccldmaaGreat
open Go.RowKit
attribute [local go_sem] Gives givesU

set_option maxRecDepth 100000 in
set_option maxHeartbeats 16000000 in
theorem r07_crossed (px py qx qy lx ly k ax ay bx by' cx cy : Int) (w : World) (hl : (Ed.mk 1 px py qx qy lx ly).ok = true) (he : (Ed.mk k ax ay bx by' cx cy).ok = true) (hk : ¬ k = 1) (R : Int) (hR : crossZ (Ed.mk 1 px py qx qy lx ly) (Ed.mk k ax ay bx by' cx cy) = R) :
    Calls Tryz.prog 28 #[.agg #[.int .i64 1, .int .i64 px, .int .i64 py, .int .i64 qx, .int .i64 qy, .int .i64 lx, .int .i64 ly], .agg #[.int .i64 k, .int .i64 ax, .int .i64 ay, .int .i64 bx, .int .i64 by', .int .i64 cx, .int .i64 cy]] w fun e w' => e = .returned (.int .i64 R) ∧ Ext w w' := by
  obtain ⟨⟨h1, h2⟩, ⟨h3, h4⟩, _, _⟩ := ok_right hl
  obtain ⟨_, _, h5, h6⟩ := ok_right he
  obtain ⟨hr, hux, huy, hvx, hvy⟩ := arc_di he hk
  simp only at h1 h2 h3 h4 h5 h6
  have AX := fun ux uy vx vy e1 e2 e3 e4 w => r07_axes k ax ay bx by' cx cy w he hk ux uy vx vy e1 e2 e3 e4
  have RA := fun w => r06_Radius k ax ay bx by' cx cy w
  obtain ⟨ux, UX⟩ : ∃ z, Hid (Ed.ux (Ed.mk k ax ay bx by' cx cy) = z) := ⟨_, rfl⟩
  obtain ⟨uy, UY⟩ : ∃ z, Hid (Ed.uy (Ed.mk k ax ay bx by' cx cy) = z) := ⟨_, rfl⟩
  obtain ⟨vx, VX⟩ : ∃ z, Hid (Ed.vx (Ed.mk k ax ay bx by' cx cy) = z) := ⟨_, rfl⟩
  obtain ⟨vy, VY⟩ : ∃ z, Hid (Ed.vy (Ed.mk k ax ay bx by' cx cy) = z) := ⟨_, rfl⟩
  obtain ⟨r, RR⟩ : ∃ z, Hid (radZ (Ed.mk k ax ay bx by' cx cy) = z) := ⟨_, rfl⟩
  replace AX := Lib.hid (AX ux uy vx vy UX.out UY.out VX.out VY.out)
  rw [UX.out] at hux
  rw [UY.out] at huy
  rw [VX.out] at hvx
  rw [VY.out] at hvy
  rw [RR.out] at hr RA
  have RA := Lib.hid RA
  have hR' := hR
  unfold crossZ laE at hR'
  simp only at hR'
  rw [UX.out, UY.out, VX.out, VY.out, RR.out] at hR'
  clear hR he hl hk UX UY VX VY RR
  have SF := Lib.hid (fun w => r05_Sub px py cx cy w (h1.sub h5).i64 (h2.sub h6).i64)
  have SD := Lib.hid (fun w => r05_Sub qx qy px py w (h3.sub h1).i64 (h4.sub h2).i64)
  have dx := h3.sub h1
  have dy := h4.sub h2
  have fx := h1.sub h5
  have fy := h2.sub h6
  have DD := fun w => r05_Dot (qx - px) (qy - py) (qx - px) (qy - py) w (dx.mul64 dx) (dy.mul64 dy) (dx.dot dx dy dy)
  have DH := fun w => r05_Dot (px - cx) (py - cy) (qx - px) (qy - py) w (fx.mul64 dx) (fy.mul64 dy) (fx.dot dx fy dy)
  have DF := fun w => r05_Dot (px - cx) (py - cy) (px - cx) (py - cy) w (fx.mul64 fx) (fy.mul64 fy) (fx.dot fx fy fy)
  have Cu1 := fun w => r05_Dot (px - cx) (py - cy) ux uy w (fx.mul64 hux) (fy.mul64 huy) (fx.dot hux fy huy)
  have Cu2 := fun w => r05_Dot (qx - px) (qy - py) ux uy w (dx.mul64 hux) (dy.mul64 huy) (dx.dot hux dy huy)
  have Cv1 := fun w => r05_Dot (px - cx) (py - cy) vx vy w (fx.mul64 hvx) (fy.mul64 hvy) (fx.dot hvx fy hvy)
  have Cv2 := fun w => r05_Dot (qx - px) (qy - py) vx vy w (dx.mul64 hvx) (dy.mul64 hvy) (dx.dot hvx dy hvy)
  have iS := dx.dot dx dy dy
  have ih := fx.dot dx fy dy
  have iF := fx.dot fx fy fy
  have iu1 := fx.dot hux fy huy
  have iu2 := dx.dot hux dy huy
  have iv1 := fx.dot hvx fy hvy
  have iv2 := dx.dot hvx dy hvy
  have ir := hr.i64
  obtain ⟨S, hS⟩ : ∃ z, Hid ((qx - px) * (qx - px) + (qy - py) * (qy - py) = z) := ⟨_, rfl⟩
  obtain ⟨h, hh⟩ : ∃ z, Hid ((px - cx) * (qx - px) + (py - cy) * (qy - py) = z) := ⟨_, rfl⟩
  obtain ⟨F, hF⟩ : ∃ z, Hid ((px - cx) * (px - cx) + (py - cy) * (py - cy) = z) := ⟨_, rfl⟩
  obtain ⟨u1, hu1⟩ : ∃ z, Hid ((px - cx) * ux + (py - cy) * uy = z) := ⟨_, rfl⟩
  obtain ⟨u2, hu2⟩ : ∃ z, Hid ((qx - px) * ux + (qy - py) * uy = z) := ⟨_, rfl⟩
  obtain ⟨v1, hv1⟩ : ∃ z, Hid ((px - cx) * vx + (py - cy) * vy = z) := ⟨_, rfl⟩
  obtain ⟨v2, hv2⟩ : ∃ z, Hid ((qx - px) * vx + (qy - py) * vy = z) := ⟨_, rfl⟩
  rw [hS.out] at DD iS hR'
  rw [hh.out] at DH ih hR'
  rw [hF.out] at DF iF hR'
  rw [hu1.out] at Cu1 iu1 hR'
  rw [hu2.out] at Cu2 iu2 hR'
  rw [hv1.out] at Cv1 iv1 hR'
  rw [hv2.out] at Cv2 iv2 hR'
  clear hS hh hF hu1 hu2 hv1 hv2 h1 h2 h3 h4 h5 h6 dx dy fx fy hr hux huy hvx hvy
  have DD := Lib.hid DD
  have DH := Lib.hid DH
  have DF := Lib.hid DF
  have Cu1 := Lib.hid Cu1
  have Cu2 := Lib.hid Cu2
  have Cv1 := Lib.hid Cv1
  have Cv2 := Lib.hid Cv2
  have iS := Lib.hid iS
  have ih := Lib.hid ih
  have iF := Lib.hid iF
  have iu1 := Lib.hid iu1
  have iu2 := Lib.hid iu2
  have iv1 := Lib.hid iv1
  have iv2 := Lib.hid iv2
  have ir := Lib.hid ir
  obtain ⟨rr, RRh⟩ : ∃ z, Hid (r * r = z) := ⟨_, rfl⟩
  obtain ⟨rest, RSh⟩ : ∃ z, Hid (F - rr = z) := ⟨_, rfl⟩
  obtain ⟨hh, HHh⟩ : ∃ z, Hid (h * h = z) := ⟨_, rfl⟩
  obtain ⟨sr, SRh⟩ : ∃ z, Hid (S * rest = z) := ⟨_, rfl⟩
  obtain ⟨dl, DLh⟩ : ∃ z, Hid (hh - sr = z) := ⟨_, rfl⟩
  obtain ⟨mh, MHh⟩ : ∃ z, Hid (0 - h = z) := ⟨_, rfl⟩
  obtain ⟨sm, SMh⟩ : ∃ z, Hid (S - mh = z) := ⟨_, rfl⟩
  obtain ⟨eu1, Eu1⟩ : ∃ z, Hid (S * u1 = z) := ⟨_, rfl⟩
  obtain ⟨eu2, Eu2⟩ : ∃ z, Hid (h * u2 = z) := ⟨_, rfl⟩
  obtain ⟨eu3, Eu3⟩ : ∃ z, Hid (eu1 - eu2 = z) := ⟨_, rfl⟩
  obtain ⟨ev1, Ev1⟩ : ∃ z, Hid (S * v1 = z) := ⟨_, rfl⟩
  obtain ⟨ev2, Ev2⟩ : ∃ z, Hid (h * v2 = z) := ⟨_, rfl⟩
  obtain ⟨ev3, Ev3⟩ : ∃ z, Hid (ev1 - ev2 = z) := ⟨_, rfl⟩
  have wS : Hid (Wd 2 S) := Wd.of64 iS.out
  have wh : Hid (Wd 2 h) := Wd.of64 ih.out
  have wF : Hid (Wd 2 F) := Wd.of64 iF.out
  have wr : Hid (Wd 2 r) := Wd.of64 ir.out
  have wrr : Hid (Wd 4 rr) := by show Wd 4 rr; rw [← RRh.out]; exact wr.out.mul wr.out
  have wrs : Hid (Wd 5 rest) := by show Wd 5 rest; rw [← RSh.out]; exact (wF.out.mono (by omega)).sub wrr.out
  have whh : Hid (Wd 4 hh) := by show Wd 4 hh; rw [← HHh.out]; exact wh.out.mul wh.out
  have wsr : Hid (Wd 7 sr) := by show Wd 7 sr; rw [← SRh.out]; exact wS.out.mul wrs.out
  have wdl : Hid (Wd 8 dl) := by show Wd 8 dl; rw [← DLh.out]; exact (whh.out.mono (by omega)).sub wsr.out
  have wmh : Hid (Wd 3 mh) := by show Wd 3 mh; rw [← MHh.out]; exact Wd.sub (a := 2) (by unfold Wd; decide) wh.out
  have wsm : Hid (Wd 4 sm) := by show Wd 4 sm; rw [← SMh.out]; exact (wS.out.mono (by omega)).sub wmh.out
  have wu1 : Hid (Wd 2 u1) := Wd.of64 iu1.out
  have wu2 : Hid (Wd 2 u2) := Wd.of64 iu2.out
  have weu1 : Hid (Wd 4 eu1) := by show Wd 4 eu1; rw [← Eu1.out]; exact wS.out.mul wu1.out
  have weu2 : Hid (Wd 4 eu2) := by show Wd 4 eu2; rw [← Eu2.out]; exact wh.out.mul wu2.out
  have weu3 : Hid (Wd 5 eu3) := by show Wd 5 eu3; rw [← Eu3.out]; exact weu1.out.sub weu2.out
  have wv1 : Hid (Wd 2 v1) := Wd.of64 iv1.out
  have wv2 : Hid (Wd 2 v2) := Wd.of64 iv2.out
  have wev1 : Hid (Wd 4 ev1) := by show Wd 4 ev1; rw [← Ev1.out]; exact wS.out.mul wv1.out
  have wev2 : Hid (Wd 4 ev2) := by show Wd 4 ev2; rw [← Ev2.out]; exact wh.out.mul wv2.out
  have wev3 : Hid (Wd 5 ev3) := by show Wd 5 ev3; rw [← Ev3.out]; exact wev1.out.sub wev2.out
  have z0 : Hid (small 0 = true) := by show small 0 = true; decide
  have z1 : Hid (Gd 1) := by show Gd 1; unfold Gd; decide
  obtain ⟨ga, GA⟩ : ∃ b, Hid (goodS dl (-1) [(mh, 1), (sm, -1), (eu3, u2), (ev3, v2)] = b) := ⟨_, rfl⟩
  obtain ⟨gb, GB⟩ : ∃ b, Hid (goodS dl 1 [(mh, 1), (sm, -1), (eu3, u2), (ev3, v2)] = b) := ⟨_, rfl⟩
  have RES : Hid (R = if dl < 0 then 0 else if dl = 0 then b01 ga else b01 ga + b01 gb) := by
    show R = _
    rw [← hR', ← countZ_ref GA.out GB.out]
    unfold LA.delta LA.list
    simp only
    rw [RRh.out, RSh.out, HHh.out, SRh.out, DLh.out, MHh.out, SMh.out, Eu1.out, Eu2.out, Eu3.out, Ev1.out, Ev2.out, Ev3.out]
  clear hR'
  go_enter Tryz.func28, Tryz.ntmps28
  go_upto_region 1 with (fail)
  refine wp_KB (w.heap.size + 1 + 1) (fun W => Ext w W ∧ w.heap.size + 1 + 1 ≤ W.heap.size ∧ W.cell? ⟨w.heap.size, 0, none⟩ = some (.int .i64 1) ∧ W.cell? ⟨w.heap.size, 1, none⟩ = some (.int .i64 px) ∧ W.cell? ⟨w.heap.size, 2, none⟩ = some (.int .i64 py) ∧ W.cell? ⟨w.heap.size, 3, none⟩ = some (.int .i64 qx) ∧ W.cell? ⟨w.heap.size, 4, none⟩ = some (.int .i64 qy) ∧ W.cell? ⟨w.heap.size, 5, none⟩ = some (.int .i64 lx) ∧ W.cell? ⟨w.heap.size, 6, none⟩ = some (.int .i64 ly) ∧ W.cell? ⟨w.heap.size + 1, 0, none⟩ = some (.int .i64 k) ∧ W.cell? ⟨w.heap.size + 1, 1, none⟩ = some (.int .i64 ax) ∧ W.cell? ⟨w.heap.size + 1, 2, none⟩ = some (.int .i64 ay) ∧ W.cell? ⟨w.heap.size + 1, 3, none⟩ = some (.int .i64 bx) ∧ W.cell? ⟨w.heap.size + 1, 4, none⟩ = some (.int .i64 by') ∧ W.cell? ⟨w.heap.size + 1, 5, none⟩ = some (.int .i64 cx) ∧ W.cell? ⟨w.heap.size + 1, 6, none⟩ = some (.int .i64 cy)) ?_
  intro hKeep
  repeat (first | refine F_s ?_ | refine F_r ?_)
  (refine F_call (v := .agg #[.int .i64 (px-cx), .int .i64 (py-cy)]) (by rfl) (by rfl) ?_ ?_; (· (intro W hW; (try dsimp only at hW); go_simp; refine (SF.out _).mono ?_; rintro e w' ⟨rfl, hx⟩; exact ⟨_, rfl, rfl, hx⟩))); refine F_put ?_
  repeat (first | refine F_s ?_ | refine F_r ?_)
  refine F_al ?_
  intro g hg
  simp only [List.mem_cons, List.mem_range, not_or, Nat.not_lt] at hg
  refine F_w (fun W => _) (fun W hW => hW) ?_
  repeat (first | refine F_s ?_ | refine F_r ?_)
  rintro V1 ⟨⟨⟨ex, hz1, hc⟩, bk1⟩, _⟩
  clear hKeep
  go_upto_region 2 with (fail)
  refine wp_KB (V1.heap.size) (fun W => Ext V1 W ∧ V1.heap.size ≤ W.heap.size ∧ W.cell? ⟨w.heap.size, 0, none⟩ = some (.int .i64 1) ∧ W.cell? ⟨w.heap.size, 1, none⟩ = some (.int .i64 px) ∧ W.cell? ⟨w.heap.size, 2, none⟩ = some (.int .i64 py) ∧ W.cell? ⟨w.heap.size, 3, none⟩ = some (.int .i64 qx) ∧ W.cell? ⟨w.heap.size, 4, none⟩ = some (.int .i64 qy) ∧ W.cell? ⟨w.heap.size, 5, none⟩ = some (.int .i64 lx) ∧ W.cell? ⟨w.heap.size, 6, none⟩ = some (.int .i64 ly) ∧ W.cell? ⟨w.heap.size + 1, 0, none⟩ = some (.int .i64 k) ∧ W.cell? ⟨w.heap.size + 1, 1, none⟩ = some (.int .i64 ax) ∧ W.cell? ⟨w.heap.size + 1, 2, none⟩ = some (.int .i64 ay) ∧ W.cell? ⟨w.heap.size + 1, 3, none⟩ = some (.int .i64 bx) ∧ W.cell? ⟨w.heap.size + 1, 4, none⟩ = some (.int .i64 by') ∧ W.cell? ⟨w.heap.size + 1, 5, none⟩ = some (.int .i64 cx) ∧ W.cell? ⟨w.heap.size + 1, 6, none⟩ = some (.int .i64 cy)) ?_
  intro hKeep
  repeat (first | refine F_s ?_ | refine F_r ?_)
  (refine F_call (v := .agg #[.int .i64 (qx-px), .int .i64 (qy-py)]) (by rfl) (by rfl) ?_ ?_; (· (intro W hW; (try dsimp only at hW); go_simp; refine (SD.out _).mono ?_; rintro e w' ⟨rfl, hx⟩; exact ⟨_, rfl, rfl, hx⟩))); refine F_put ?_
  repeat (first | refine F_s ?_ | refine F_r ?_)
  refine F_al ?_
  intro g2 hg2
  simp only [List.mem_cons, List.mem_range, not_or, Nat.not_lt] at hg2
  refine F_w (fun W => _) (fun W hW => hW) ?_
  repeat (first | refine F_s ?_ | refine F_r ?_)
  rintro V2 ⟨⟨⟨hx, hz, hc2⟩, bk2⟩, _⟩
  replace ex := Ext.step ex hx
  replace bk1 := heap_ext bk1 hx
  obtain ⟨k0, k1, _, hl1⟩ := pt_block bk1
  obtain ⟨e0, e1, _, hl2⟩ := pt_block bk2
  have hl0 : w.heap.size + 1 < V2.heap.size := by omega
  clear hx hc hKeep bk1 bk2 hg hg2
  go_upto_region 3 with (fail)
  refine wp_FS (fun W => W.cell? ⟨w.heap.size, 0, none⟩ = some (.int .i64 1) ∧ W.cell? ⟨w.heap.size, 1, none⟩ = some (.int .i64 px) ∧ W.cell? ⟨w.heap.size, 2, none⟩ = some (.int .i64 py) ∧ W.cell? ⟨w.heap.size, 3, none⟩ = some (.int .i64 qx) ∧ W.cell? ⟨w.heap.size, 4, none⟩ = some (.int .i64 qy) ∧ W.cell? ⟨w.heap.size, 5, none⟩ = some (.int .i64 lx) ∧ W.cell? ⟨w.heap.size, 6, none⟩ = some (.int .i64 ly) ∧ W.cell? ⟨w.heap.size + 1, 0, none⟩ = some (.int .i64 k) ∧ W.cell? ⟨w.heap.size + 1, 1, none⟩ = some (.int .i64 ax) ∧ W.cell? ⟨w.heap.size + 1, 2, none⟩ = some (.int .i64 ay) ∧ W.cell? ⟨w.heap.size + 1, 3, none⟩ = some (.int .i64 bx) ∧ W.cell? ⟨w.heap.size + 1, 4, none⟩ = some (.int .i64 by') ∧ W.cell? ⟨w.heap.size + 1, 5, none⟩ = some (.int .i64 cx) ∧ W.cell? ⟨w.heap.size + 1, 6, none⟩ = some (.int .i64 cy) ∧ W.cell? ⟨g, 0, none⟩ = some (.int .i64 (px-cx)) ∧ W.cell? ⟨g, 1, none⟩ = some (.int .i64 (py-cy)) ∧ W.cell? ⟨g2, 0, none⟩ = some (.int .i64 (qx-px)) ∧ W.cell? ⟨g2, 1, none⟩ = some (.int .i64 (qy-py))) ?_
  repeat (first | refine F_s ?_ | refine F_r ?_)
  (refine F_call (v := .int .i64 r) (by rfl) (by rfl) ?_ ?_; (· (intro W hW; (try dsimp only at hW); go_simp; refine (RA.out _).mono ?_; rintro e w' ⟨rfl, hx⟩; exact ⟨_, rfl, rfl, hx⟩))); refine F_put ?_
  repeat (first | refine F_s ?_ | refine F_r ?_)
  rintro V3 ⟨hx, hc3⟩
  have hs3 := hx.size
  replace ex := Ext.step ex hx
  clear hx hc2 k0 k1 e0 e1
  go_upto_region 4 with (fail)
  refine wp_KB (V3.heap.size) (fun W => Ext V3 W ∧ V3.heap.size ≤ W.heap.size ∧ W.cell? ⟨w.heap.size, 0, none⟩ = some (.int .i64 1) ∧ W.cell? ⟨w.heap.size, 1, none⟩ = some (.int .i64 px) ∧ W.cell? ⟨w.heap.size, 2, none⟩ = some (.int .i64 py) ∧ W.cell? ⟨w.heap.size, 3, none⟩ = some (.int .i64 qx) ∧ W.cell? ⟨w.heap.size, 4, none⟩ = some (.int .i64 qy) ∧ W.cell? ⟨w.heap.size, 5, none⟩ = some (.int .i64 lx) ∧ W.cell? ⟨w.heap.size, 6, none⟩ = some (.int .i64 ly) ∧ W.cell? ⟨w.heap.size + 1, 0, none⟩ = some (.int .i64 k) ∧ W.cell? ⟨w.heap.size + 1, 1, none⟩ = some (.int .i64 ax) ∧ W.cell? ⟨w.heap.size + 1, 2, none⟩ = some (.int .i64 ay) ∧ W.cell? ⟨w.heap.size + 1, 3, none⟩ = some (.int .i64 bx) ∧ W.cell? ⟨w.heap.size + 1, 4, none⟩ = some (.int .i64 by') ∧ W.cell? ⟨w.heap.size + 1, 5, none⟩ = some (.int .i64 cx) ∧ W.cell? ⟨w.heap.size + 1, 6, none⟩ = some (.int .i64 cy) ∧ W.cell? ⟨g, 0, none⟩ = some (.int .i64 (px-cx)) ∧ W.cell? ⟨g, 1, none⟩ = some (.int .i64 (py-cy)) ∧ W.cell? ⟨g2, 0, none⟩ = some (.int .i64 (qx-px)) ∧ W.cell? ⟨g2, 1, none⟩ = some (.int .i64 (qy-py))) ?_
  intro hKeep
  repeat (first | refine F_s ?_ | refine F_r ?_)
  (refine F_call (v := .int .i64 S) (by rfl) (by rfl) ?_ ?_; (· (intro W hW; (try dsimp only at hW); go_simp; refine (DD.out _).mono ?_; rintro e w' ⟨rfl, hx⟩; exact ⟨_, rfl, rfl, hx⟩))); refine F_put ?_
  repeat (first | refine F_s ?_ | refine F_r ?_)
  refine F_num V3 (ofZ S) (by rfl) (by rfl) (by intro W hW; (try dsimp only at hW); have hwW : V3.heap.size ≤ W.heap.size := (by have hzz := hW; (repeat (first | exact hzz.size | exact hzz.1.size | replace hzz := hzz.1))); go_simp; exact (r07_of S _ iS.out).mono fun _ _ h => RetN.isN hwW h) ?_; intro n1 p1 l1 c1 hn1; refine F_put ?_
  repeat (first | refine F_s ?_ | refine F_r ?_)
  refine F_al ?_
  intro g3 hg3
  simp only [List.mem_cons, List.mem_range, not_or, Nat.not_lt] at hg3
  refine F_w (fun W => _ ∧ NR W n1 p1 l1 c1 (ofZ S)) (fun W hW => hW) ?_
  repeat (first | refine F_s ?_ | refine F_r ?_)
  rintro V4 ⟨⟨⟨⟨hx, hz4, hc4⟩, nS⟩, bk3⟩, _⟩
  obtain ⟨k0, k1, _, hl3⟩ := pt_block bk3
  replace ex := Ext.step ex hx
  clear hx hc3 bk3 hKeep hg3 hn1
  go_upto_region 5 with (fail)
  refine wp_KB (V4.heap.size) (fun W => Ext V4 W ∧ V4.heap.size ≤ W.heap.size ∧ W.cell? ⟨w.heap.size, 0, none⟩ = some (.int .i64 1) ∧ W.cell? ⟨w.heap.size, 1, none⟩ = some (.int .i64 px) ∧ W.cell? ⟨w.heap.size, 2, none⟩ = some (.int .i64 py) ∧ W.cell? ⟨w.heap.size, 3, none⟩ = some (.int .i64 qx) ∧ W.cell? ⟨w.heap.size, 4, none⟩ = some (.int .i64 qy) ∧ W.cell? ⟨w.heap.size, 5, none⟩ = some (.int .i64 lx) ∧ W.cell? ⟨w.heap.size, 6, none⟩ = some (.int .i64 ly) ∧ W.cell? ⟨w.heap.size + 1, 0, none⟩ = some (.int .i64 k) ∧ W.cell? ⟨w.heap.size + 1, 1, none⟩ = some (.int .i64 ax) ∧ W.cell? ⟨w.heap.size + 1, 2, none⟩ = some (.int .i64 ay) ∧ W.cell? ⟨w.heap.size + 1, 3, none⟩ = some (.int .i64 bx) ∧ W.cell? ⟨w.heap.size + 1, 4, none⟩ = some (.int .i64 by') ∧ W.cell? ⟨w.heap.size + 1, 5, none⟩ = some (.int .i64 cx) ∧ W.cell? ⟨w.heap.size + 1, 6, none⟩ = some (.int .i64 cy) ∧ W.cell? ⟨g, 0, none⟩ = some (.int .i64 (px-cx)) ∧ W.cell? ⟨g, 1, none⟩ = some (.int .i64 (py-cy)) ∧ W.cell? ⟨g2, 0, none⟩ = some (.int .i64 (qx-px)) ∧ W.cell? ⟨g2, 1, none⟩ = some (.int .i64 (qy-py)) ∧ W.cell? ⟨g3, 0, none⟩ = some (.bool n1) ∧ W.cell? ⟨g3, 1, none⟩ = some (.slice p1 l1 c1)) ?_
  intro hKeep
  repeat (first | refine F_s ?_ | refine F_r ?_)
  (refine F_call (v := .int .i64 h) (by rfl) (by rfl) ?_ ?_; (· (intro W hW; (try dsimp only at hW); go_simp; refine (DH.out _).mono ?_; rintro e w' ⟨rfl, hx⟩; exact ⟨_, rfl, rfl, hx⟩))); refine F_put ?_
  repeat (first | refine F_s ?_ | refine F_r ?_)
  refine F_num V4 (ofZ h) (by rfl) (by rfl) (by intro W hW; (try dsimp only at hW); have hwW : V4.heap.size ≤ W.heap.size := (by have hzz := hW; (repeat (first | exact hzz.size | exact hzz.1.size | replace hzz := hzz.1))); go_simp; exact (r07_of h _ ih.out).mono fun _ _ h => RetN.isN hwW h) ?_; intro n2 p2 l2 c2 hn2; refine F_put ?_
  repeat (first | refine F_s ?_ | refine F_r ?_)
  refine F_al ?_
  intro g4 hg4
  simp only [List.mem_cons, List.mem_range, not_or, Nat.not_lt] at hg4
  refine F_w (fun W => _ ∧ NR W n2 p2 l2 c2 (ofZ h)) (fun W hW => hW) ?_
  repeat (first | refine F_s ?_ | refine F_r ?_)
  rintro V5 ⟨⟨⟨⟨hx, hz5, hc5⟩, nh⟩, bk4⟩, _⟩
  obtain ⟨e0, e1, _, hl4⟩ := pt_block bk4
  replace ex := Ext.step ex hx
  replace nS := nS.ext hx
  clear hx hc4 bk4 hKeep hg4 hn2 k0 k1
  go_upto_region 6 with (fail)
  refine wp_KB (V5.heap.size) (fun W => Ext V5 W ∧ V5.heap.size ≤ W.heap.size ∧ W.cell? ⟨w.heap.size, 0, none⟩ = some (.int .i64 1) ∧ W.cell? ⟨w.heap.size, 1, none⟩ = some (.int .i64 px) ∧ W.cell? ⟨w.heap.size, 2, none⟩ = some (.int .i64 py) ∧ W.cell? ⟨w.heap.size, 3, none⟩ = some (.int .i64 qx) ∧ W.cell? ⟨w.heap.size, 4, none⟩ = some (.int .i64 qy) ∧ W.cell? ⟨w.heap.size, 5, none⟩ = some (.int .i64 lx) ∧ W.cell? ⟨w.heap.size, 6, none⟩ = some (.int .i64 ly) ∧ W.cell? ⟨w.heap.size + 1, 0, none⟩ = some (.int .i64 k) ∧ W.cell? ⟨w.heap.size + 1, 1, none⟩ = some (.int .i64 ax) ∧ W.cell? ⟨w.heap.size + 1, 2, none⟩ = some (.int .i64 ay) ∧ W.cell? ⟨w.heap.size + 1, 3, none⟩ = some (.int .i64 bx) ∧ W.cell? ⟨w.heap.size + 1, 4, none⟩ = some (.int .i64 by') ∧ W.cell? ⟨w.heap.size + 1, 5, none⟩ = some (.int .i64 cx) ∧ W.cell? ⟨w.heap.size + 1, 6, none⟩ = some (.int .i64 cy) ∧ W.cell? ⟨g, 0, none⟩ = some (.int .i64 (px-cx)) ∧ W.cell? ⟨g, 1, none⟩ = some (.int .i64 (py-cy)) ∧ W.cell? ⟨g2, 0, none⟩ = some (.int .i64 (qx-px)) ∧ W.cell? ⟨g2, 1, none⟩ = some (.int .i64 (qy-py)) ∧ W.cell? ⟨g3, 0, none⟩ = some (.bool n1) ∧ W.cell? ⟨g3, 1, none⟩ = some (.slice p1 l1 c1) ∧ W.cell? ⟨g4, 0, none⟩ = some (.bool n2) ∧ W.cell? ⟨g4, 1, none⟩ = some (.slice p2 l2 c2)) ?_
  intro hKeep
  repeat (first | refine F_s ?_ | refine F_r ?_)
  (refine F_call (v := .int .i64 F) (by rfl) (by rfl) ?_ ?_; (· (intro W hW; (try dsimp only at hW); go_simp; refine (DF.out _).mono ?_; rintro e w' ⟨rfl, hx⟩; exact ⟨_, rfl, rfl, hx⟩))); refine F_put ?_
  repeat (first | refine F_s ?_ | refine F_r ?_)
  refine F_num V5 (ofZ F) (by rfl) (by rfl) (by intro W hW; (try dsimp only at hW); have hwW : V5.heap.size ≤ W.heap.size := (by have hzz := hW; (repeat (first | exact hzz.size | exact hzz.1.size | replace hzz := hzz.1))); go_simp; exact (r07_of F _ iF.out).mono fun _ _ h => RetN.isN hwW h) ?_; intro n3 p3 l3 c3 hn3; refine F_put ?_
  repeat (first | refine F_s ?_ | refine F_r ?_)
  refine F_num V5 (ofZ r) (by rfl) (by rfl) (by intro W hW; (try dsimp only at hW); have hwW : V5.heap.size ≤ W.heap.size := (by have hzz := hW; (repeat (first | exact hzz.size | exact hzz.1.size | replace hzz := hzz.1))); go_simp; exact (r07_of r _ ir.out).mono fun _ _ h => RetN.isN hwW h) ?_; intro n4 p4 l4 c4 hn4; refine F_put ?_
  repeat (first | refine F_s ?_ | refine F_r ?_)
  refine F_num V5 (ofZ r) (by rfl) (by rfl) (by intro W hW; (try dsimp only at hW); have hwW : V5.heap.size ≤ W.heap.size := (by have hzz := hW; (repeat (first | exact hzz.size | exact hzz.1.size | replace hzz := hzz.1))); go_simp; exact (r07_of r _ ir.out).mono fun _ _ h => RetN.isN hwW h) ?_; intro n5 p5 l5 c5 hn5; refine F_put ?_
  repeat (first | refine F_s ?_ | refine F_r ?_)
  refine F_num V5 (ofZ rr) (by rfl) (by rfl) (by intro W hW; (try dsimp only at hW); have hwW : V5.heap.size ≤ W.heap.size := (by have hzz := hW; (repeat (first | exact hzz.size | exact hzz.1.size | replace hzz := hzz.1))); go_simp; exact (r07_mul r r n4 n5 p4 p5 l4 c4 l5 c5 W (by have hzz := hW; (try dsimp only at hzz); (repeat (first | exact hzz.2 | exact hzz.1 | exact NR.ext (by assumption) hzz | exact NR.ext (by assumption) hzz.1 | replace hzz := hzz.1))) (by have hzz := hW; (try dsimp only at hzz); (repeat (first | exact hzz.2 | exact hzz.1 | exact NR.ext (by assumption) hzz | exact NR.ext (by assumption) hzz.1 | replace hzz := hzz.1))) (wr.out.small (by omega)) (wr.out.small (by omega)) rr RRh.out (wrr.out.small (by omega))).mono fun _ _ h => RetN.isN hwW h) ?_; intro n6 p6 l6 c6 hn6; refine F_put ?_
  repeat (first | refine F_s ?_ | refine F_r ?_)
  refine F_num V5 (ofZ rest) (by rfl) (by rfl) (by intro W hW; (try dsimp only at hW); have hwW : V5.heap.size ≤ W.heap.size := (by have hzz := hW; (repeat (first | exact hzz.size | exact hzz.1.size | replace hzz := hzz.1))); go_simp; exact (r07_sub F rr n3 n6 p3 p6 l3 c3 l6 c6 W (by have hzz := hW; (try dsimp only at hzz); (repeat (first | exact hzz.2 | exact hzz.1 | exact NR.ext (by assumption) hzz | exact NR.ext (by assumption) hzz.1 | replace hzz := hzz.1))) (by have hzz := hW; (try dsimp only at hzz); (repeat (first | exact hzz.2 | exact hzz.1 | exact NR.ext (by assumption) hzz | exact NR.ext (by assumption) hzz.1 | replace hzz := hzz.1))) (wF.out.small (by omega)) (wrr.out.small (by omega)) rest RSh.out (wrs.out.small (by omega))).mono fun _ _ h => RetN.isN hwW h) ?_; intro n7 p7 l7 c7 hn7; refine F_put ?_
  repeat (first | refine F_s ?_ | refine F_r ?_)
  refine F_al ?_
  intro g5 hg5
  simp only [List.mem_cons, List.mem_range, not_or, Nat.not_lt] at hg5
  refine F_w (fun W => _ ∧ NR W n7 p7 l7 c7 (ofZ rest)) (fun W hW => ⟨⟨hW.1.1.1.1.1.1, hW.1.2⟩, hW.2⟩) ?_
  repeat (first | refine F_s ?_ | refine F_r ?_)
  rintro V6 ⟨⟨⟨⟨hx, hz6, hc6⟩, nR⟩, bk5⟩, _⟩
  obtain ⟨k0, k1, _, hl5⟩ := pt_block bk5
  replace ex := Ext.step ex hx
  replace nS := nS.ext hx
  replace nh := nh.ext hx
  clear hx hc5 bk5 hKeep hg5 hn3 hn4 hn5 hn6 hn7 e0 e1
  go_upto_region 7 with (fail)
  refine wp_KB (V6.heap.size) (fun W => Ext V6 W ∧ V6.heap.size ≤ W.heap.size ∧ W.cell? ⟨w.heap.size, 0, none⟩ = some (.int .i64 1) ∧ W.cell? ⟨w.heap.size, 1, none⟩ = some (.int .i64 px) ∧ W.cell? ⟨w.heap.size, 2, none⟩ = some (.int .i64 py) ∧ W.cell? ⟨w.heap.size, 3, none⟩ = some (.int .i64 qx) ∧ W.cell? ⟨w.heap.size, 4, none⟩ = some (.int .i64 qy) ∧ W.cell? ⟨w.heap.size, 5, none⟩ = some (.int .i64 lx) ∧ W.cell? ⟨w.heap.size, 6, none⟩ = some (.int .i64 ly) ∧ W.cell? ⟨w.heap.size + 1, 0, none⟩ = some (.int .i64 k) ∧ W.cell? ⟨w.heap.size + 1, 1, none⟩ = some (.int .i64 ax) ∧ W.cell? ⟨w.heap.size + 1, 2, none⟩ = some (.int .i64 ay) ∧ W.cell? ⟨w.heap.size + 1, 3, none⟩ = some (.int .i64 bx) ∧ W.cell? ⟨w.heap.size + 1, 4, none⟩ = some (.int .i64 by') ∧ W.cell? ⟨w.heap.size + 1, 5, none⟩ = some (.int .i64 cx) ∧ W.cell? ⟨w.heap.size + 1, 6, none⟩ = some (.int .i64 cy) ∧ W.cell? ⟨g, 0, none⟩ = some (.int .i64 (px-cx)) ∧ W.cell? ⟨g, 1, none⟩ = some (.int .i64 (py-cy)) ∧ W.cell? ⟨g2, 0, none⟩ = some (.int .i64 (qx-px)) ∧ W.cell? ⟨g2, 1, none⟩ = some (.int .i64 (qy-py)) ∧ W.cell? ⟨g3, 0, none⟩ = some (.bool n1) ∧ W.cell? ⟨g3, 1, none⟩ = some (.slice p1 l1 c1) ∧ W.cell? ⟨g4, 0, none⟩ = some (.bool n2) ∧ W.cell? ⟨g4, 1, none⟩ = some (.slice p2 l2 c2) ∧ W.cell? ⟨g5, 0, none⟩ = some (.bool n7) ∧ W.cell? ⟨g5, 1, none⟩ = some (.slice p7 l7 c7)) ?_
  intro hKeep
  repeat (first | refine F_s ?_ | refine F_r ?_)
  refine F_num V6 (ofZ hh) (by rfl) (by rfl) (by intro W hW; (try dsimp only at hW); have hwW : V6.heap.size ≤ W.heap.size := (by have hzz := hW; (repeat (first | exact hzz.size | exact hzz.1.size | replace hzz := hzz.1))); go_simp; exact (r07_mul h h n2 n2 p2 p2 l2 c2 l2 c2 W (by have hzz := hW; (try dsimp only at hzz); (repeat (first | exact hzz.2 | exact hzz.1 | exact NR.ext (by assumption) hzz | exact NR.ext (by assumption) hzz.1 | replace hzz := hzz.1))) (by have hzz := hW; (try dsimp only at hzz); (repeat (first | exact hzz.2 | exact hzz.1 | exact NR.ext (by assumption) hzz | exact NR.ext (by assumption) hzz.1 | replace hzz := hzz.1))) (wh.out.small (by omega)) (wh.out.small (by omega)) hh HHh.out (whh.out.small (by omega))).mono fun _ _ h => RetN.isN hwW h) ?_; intro n8 p8 l8 c8 hn8; refine F_put ?_
  repeat (first | refine F_s ?_ | refine F_r ?_)
  refine F_num V6 (ofZ sr) (by rfl) (by rfl) (by intro W hW; (try dsimp only at hW); have hwW : V6.heap.size ≤ W.heap.size := (by have hzz := hW; (repeat (first | exact hzz.size | exact hzz.1.size | replace hzz := hzz.1))); go_simp; exact (r07_mul S rest n1 n7 p1 p7 l1 c1 l7 c7 W (by have hzz := hW; (try dsimp only at hzz); (repeat (first | exact hzz.2 | exact hzz.1 | exact NR.ext (by assumption) hzz | exact NR.ext (by assumption) hzz.1 | replace hzz := hzz.1))) (by have hzz := hW; (try dsimp only at hzz); (repeat (first | exact hzz.2 | exact hzz.1 | exact NR.ext (by assumption) hzz | exact NR.ext (by assumption) hzz.1 | replace hzz := hzz.1))) (wS.out.small (by omega)) (wrs.out.small (by omega)) sr SRh.out (wsr.out.small (by omega))).mono fun _ _ h => RetN.isN hwW h) ?_; intro n9 p9 l9 c9 hn9; refine F_put ?_
  repeat (first | refine F_s ?_ | refine F_r ?_)
  refine F_num V6 (ofZ dl) (by rfl) (by rfl) (by intro W hW; (try dsimp only at hW); have hwW : V6.heap.size ≤ W.heap.size := (by have hzz := hW; (repeat (first | exact hzz.size | exact hzz.1.size | replace hzz := hzz.1))); go_simp; exact (r07_sub hh sr n8 n9 p8 p9 l8 c8 l9 c9 W (by have hzz := hW; (try dsimp only at hzz); (repeat (first | exact hzz.2 | exact hzz.1 | exact NR.ext (by assumption) hzz | exact NR.ext (by assumption) hzz.1 | replace hzz := hzz.1))) (by have hzz := hW; (try dsimp only at hzz); (repeat (first | exact hzz.2 | exact hzz.1 | exact NR.ext (by assumption) hzz | exact NR.ext (by assumption) hzz.1 | replace hzz := hzz.1))) (whh.out.small (by omega)) (wsr.out.small (by omega)) dl DLh.out (wdl.out.small (by omega))).mono fun _ _ h => RetN.isN hwW h) ?_; intro n10 p10 l10 c10 hn10; refine F_put ?_
  repeat (first | refine F_s ?_ | refine F_r ?_)
  refine F_al ?_
  intro g6 hg6
  simp only [List.mem_cons, List.mem_range, not_or, Nat.not_lt] at hg6
  refine F_w (fun W => _ ∧ NR W n10 p10 l10 c10 (ofZ dl)) (fun W hW => ⟨⟨hW.1.1.1.1, hW.1.2⟩, hW.2⟩) ?_
  repeat (first | refine F_s ?_ | refine F_r ?_)
  rintro V7 ⟨⟨⟨⟨hx, hz7, hc7⟩, nD⟩, bk6⟩, _⟩
  obtain ⟨e0, e1, _, hl6⟩ := pt_block bk6
  replace ex := Ext.step ex hx
  replace nS := nS.ext hx
  replace nh := nh.ext hx
  have hC : ∀ W, Ext V7 W → (W.cell? ⟨w.heap.size, 0, none⟩ = some (.int .i64 1) ∧ W.cell? ⟨w.heap.size, 1, none⟩ = some (.int .i64 px) ∧ W.cell? ⟨w.heap.size, 2, none⟩ = some (.int .i64 py) ∧ W.cell? ⟨w.heap.size, 3, none⟩ = some (.int .i64 qx) ∧ W.cell? ⟨w.heap.size, 4, none⟩ = some (.int .i64 qy) ∧ W.cell? ⟨w.heap.size, 5, none⟩ = some (.int .i64 lx) ∧ W.cell? ⟨w.heap.size, 6, none⟩ = some (.int .i64 ly) ∧ W.cell? ⟨w.heap.size + 1, 0, none⟩ = some (.int .i64 k) ∧ W.cell? ⟨w.heap.size + 1, 1, none⟩ = some (.int .i64 ax) ∧ W.cell? ⟨w.heap.size + 1, 2, none⟩ = some (.int .i64 ay) ∧ W.cell? ⟨w.heap.size + 1, 3, none⟩ = some (.int .i64 bx) ∧ W.cell? ⟨w.heap.size + 1, 4, none⟩ = some (.int .i64 by') ∧ W.cell? ⟨w.heap.size + 1, 5, none⟩ = some (.int .i64 cx) ∧ W.cell? ⟨w.heap.size + 1, 6, none⟩ = some (.int .i64 cy) ∧ W.cell? ⟨g, 0, none⟩ = some (.int .i64 (px-cx)) ∧ W.cell? ⟨g, 1, none⟩ = some (.int .i64 (py-cy)) ∧ W.cell? ⟨g2, 0, none⟩ = some (.int .i64 (qx-px)) ∧ W.cell? ⟨g2, 1, none⟩ = some (.int .i64 (qy-py)) ∧ W.cell? ⟨g3, 0, none⟩ = some (.bool n1) ∧ W.cell? ⟨g3, 1, none⟩ = some (.slice p1 l1 c1) ∧ W.cell? ⟨g4, 0, none⟩ = some (.bool n2) ∧ W.cell? ⟨g4, 1, none⟩ = some (.slice p2 l2 c2) ∧ W.cell? ⟨g6, 0, none⟩ = some (.bool n10) ∧ W.cell? ⟨g6, 1, none⟩ = some (.slice p10 l10 c10) ) := fun W hx => by
    have hbc : ∀ b o, b < V7.heap.size → W.cell? ⟨b, o, none⟩ = V7.cell? ⟨b, o, none⟩ := fun b o h => hx.cell (p := ⟨b, o, none⟩) h
    simp (disch := omega) only [hbc]
    go_simp
  have hlen : l10 = (digs dl.natAbs).length := nD.2.1
  have hneg : n10 = decide (dl < 0) := nD.1
  have hl10 : ((l10 : Int) == 0) = decide (dl = 0) := by
    have h0 := digs_len dl
    rw [← hlen] at h0
    by_cases h : dl = 0
    · rw [decide_eq_true h, h0.2 h]
      rfl
    · rw [decide_eq_false h, beq_eq_false_iff_ne]
      intro h1
      exact h (h0.1 (Int.natCast_eq_zero.1 h1))
  have HC := Lib.hid hC
  have q1 : g < V7.heap.size := by omega
  have q2 : g2 < V7.heap.size := by omega
  have q3 : g3 < V7.heap.size := by omega
  have q4 : g4 < V7.heap.size := by omega
  have q5 : g6 < V7.heap.size := by omega
  have q6 : w.heap.size + 1 < V7.heap.size := by omega
  clear hx hc6 hc7 bk6 hKeep hg6 hn8 hn9 hn10 k0 k1 nR hC hlen hl0 hl1 hl2 hl3 hl4 hl5 hl6 hz hz1 hs3 hz4 hz5 hz6 hz7
  have HL := Lib.hid hl10
  have NS := Lib.hid nS
  have NH := Lib.hid nh
  have ND := Lib.hid nD
  clear hl10 nS nh nD
  by_cases hd0 : dl < 0
  · have Q := RES.out
    rw [if_pos hd0] at Q
    subst Q
    rw [decide_eq_true hd0] at hneg
    subst hneg
    clear hd0
    go_wp2
    go_ret
    exact ⟨rfl, ex⟩
  rw [decide_eq_false hd0] at hneg
  subst hneg
  have D0 : Hid (0 ≤ dl) := Lib.hid (by omega)
  have RES2 : Hid (R = if dl = 0 then b01 ga else b01 ga + b01 gb) := Lib.hid (RES.out.trans (if_neg hd0))
  clear RES hd0
  go_wp2_with fail
  go_loopw [12, 13] (fun nv sv wr => ∃ s n : Int, nv = .int .i64 n ∧ sv = .int .i64 s ∧ ((s = -1 ∧ n = 0) ∨ (s = 1 ∧ n = b01 ga) ∨ (s = 3 ∧ n = R)) ∧ Ext V7 wr) (fun _ sv _ => (4 - intOf sv).toNat)
  case atStart => exact ⟨-1, 0, rfl, rfl, .inl ⟨rfl, rfl⟩, Below.refl _ _⟩
  case round =>
    clear e0 e1
    obtain ⟨s, n, rfl, rfl, hsn, hv⟩ := hrel
    replace ex := Ext.step ex hv
    by_cases hs3 : s = 3
    · obtain rfl : n = R := by omega
      subst hs3
      clear hsn
      go_wp2
      go_ret
      exact ⟨rfl, ex⟩
    have bs : s = 1 ∨ s = -1 := by omega
    have hle : decide (s ≤ 1) = true := by rw [decide_eq_true_eq]; omega
    have bga := b01_bd ga
    have bgb := b01_bd gb
    have ws : IntKind.i64.wrap (s + 2) = s + 2 := wrap_in (by unfold I64; omega)
    have wn : IntKind.i64.wrap (n + 1) = n + 1 := wrap_in (by unfold I64; omega)
    have wm : IntKind.i64.wrap (-s) = -s := wrap_in (by unfold I64; omega)
    have hcr := HC.out wr hv
    by_cases hcon : s = 1 ∧ dl = 0
    · have sb : (s == 1) = true := by simpa using hcon.1
      have lb : ((l10 : Int) == 0) = true := by rw [HL.out]; exact decide_eq_true hcon.2
      have q5r := Nat.lt_of_lt_of_le q5 hv.size
      have NEXT : Hid (s + 2 = 3 ∧ n = R) := Lib.hid (by have := RES2.out; rw [if_pos hcon.2] at this; omega)
      clear hcon hsn bs bga bgb wn wm
      go_wp2
      exact ⟨⟨s + 2, n, rfl, rfl, .inr (.inr NEXT.out), hv⟩, by simp [intOf]; have := NEXT.out; omega⟩
    have NEXT : Hid (∀ b, goodS dl s [(mh, 1), (sm, -1), (eu3, u2), (ev3, v2)] = b → ((s + 2 = -1 ∧ n + b01 b = 0) ∨ (s + 2 = 1 ∧ n + b01 b = b01 ga) ∨ (s + 2 = 3 ∧ n + b01 b = R))) := Lib.hid (by
      intro b hb
      rcases bs with rfl | rfl
      · have e : gb = b := GB.out.symm.trans hb
        have := RES2.out
        rw [if_neg (fun h => hcon ⟨rfl, h⟩), e] at this
        omega
      · have e : ga = b := GA.out.symm.trans hb
        rw [← e]
        omega)
    have hgd : (s == 1) = false ∨ ((s == 1) = true ∧ ((l10 : Int) == 0) = false) := by
      rcases bs with rfl | rfl
      · exact .inr ⟨rfl, by rw [HL.out]; exact decide_eq_false (fun h => hcon ⟨rfl, h⟩)⟩
      · exact .inl rfl
    obtain ⟨i0, I0⟩ : ∃ b, Hid (decide (0 ≤ sideZ mh s dl) = b) := ⟨_, rfl⟩
    obtain ⟨i1, I1⟩ : ∃ b, Hid (decide (0 ≤ sideZ sm (-s) dl) = b) := ⟨_, rfl⟩
    obtain ⟨pp, PP⟩ : ∃ b, Hid ((i0 && i1) = b) := ⟨_, rfl⟩
    obtain ⟨su, SU⟩ : ∃ z, Hid (s * u2 = z) := ⟨_, rfl⟩
    obtain ⟨sv, SV⟩ : ∃ z, Hid (s * v2 = z) := ⟨_, rfl⟩
    obtain ⟨iu, IU⟩ : ∃ b, Hid (decide (0 ≤ sideZ eu3 su dl) = b) := ⟨_, rfl⟩
    obtain ⟨iv, IV⟩ : ∃ b, Hid (decide (0 ≤ sideZ ev3 sv dl) = b) := ⟨_, rfl⟩
    have NX : Hid ((s + 2 = -1 ∧ n + b01 (pp && iu && iv) = 0) ∨ (s + 2 = 1 ∧ n + b01 (pp && iu && iv) = b01 ga) ∨ (s + 2 = 3 ∧ n + b01 (pp && iu && iv) = R)) := Lib.hid (NEXT.out _ (by
      unfold goodS
      simp only [List.all_cons, List.all_nil, Bool.and_true]
      rw [Int.mul_one, Int.mul_neg_one, SU.out, SV.out, I0.out, I1.out, IU.out, IV.out, ← PP.out]
      simp only [Bool.and_assoc]))
    have SSu := SU
    have SSv := SV
    have IIu := IU
    have IIv := IV
    have BS := Lib.hid bs
    have BM : Hid (-s = 1 ∨ -s = -1) := Lib.hid (by omega)
    have hlt : ¬ s = 3 := hs3
    have hmeas : Hid (s ≤ 1) := Lib.hid (by omega)
    have nS := NS.out.ext hv
    have nh := NH.out.ext hv
    have nD := ND.out.ext hv
    have q1r := Nat.lt_of_lt_of_le q1 hv.size
    have q2r := Nat.lt_of_lt_of_le q2 hv.size
    have q3r := Nat.lt_of_lt_of_le q3 hv.size
    have q4r := Nat.lt_of_lt_of_le q4 hv.size
    have q5r := Nat.lt_of_lt_of_le q5 hv.size
    have q6r := Nat.lt_of_lt_of_le q6 hv.size
    clear NEXT hsn bs bga bgb hcon hs3 hlt
    rcases hgd with sb | ⟨sb, lb⟩
    all_goals
      go_upto_region 15 with (fail)
      refine wp_KB (wr.heap.size) (fun W => Ext wr W ∧ wr.heap.size ≤ W.heap.size ∧ W.cell? ⟨w.heap.size, 0, none⟩ = some (.int .i64 1) ∧ W.cell? ⟨w.heap.size, 1, none⟩ = some (.int .i64 px) ∧ W.cell? ⟨w.heap.size, 2, none⟩ = some (.int .i64 py) ∧ W.cell? ⟨w.heap.size, 3, none⟩ = some (.int .i64 qx) ∧ W.cell? ⟨w.heap.size, 4, none⟩ = some (.int .i64 qy) ∧ W.cell? ⟨w.heap.size, 5, none⟩ = some (.int .i64 lx) ∧ W.cell? ⟨w.heap.size, 6, none⟩ = some (.int .i64 ly) ∧ W.cell? ⟨w.heap.size + 1, 0, none⟩ = some (.int .i64 k) ∧ W.cell? ⟨w.heap.size + 1, 1, none⟩ = some (.int .i64 ax) ∧ W.cell? ⟨w.heap.size + 1, 2, none⟩ = some (.int .i64 ay) ∧ W.cell? ⟨w.heap.size + 1, 3, none⟩ = some (.int .i64 bx) ∧ W.cell? ⟨w.heap.size + 1, 4, none⟩ = some (.int .i64 by') ∧ W.cell? ⟨w.heap.size + 1, 5, none⟩ = some (.int .i64 cx) ∧ W.cell? ⟨w.heap.size + 1, 6, none⟩ = some (.int .i64 cy) ∧ W.cell? ⟨g, 0, none⟩ = some (.int .i64 (px-cx)) ∧ W.cell? ⟨g, 1, none⟩ = some (.int .i64 (py-cy)) ∧ W.cell? ⟨g2, 0, none⟩ = some (.int .i64 (qx-px)) ∧ W.cell? ⟨g2, 1, none⟩ = some (.int .i64 (qy-py)) ∧ W.cell? ⟨g3, 0, none⟩ = some (.bool n1) ∧ W.cell? ⟨g3, 1, none⟩ = some (.slice p1 l1 c1) ∧ W.cell? ⟨g4, 0, none⟩ = some (.bool n2) ∧ W.cell? ⟨g4, 1, none⟩ = some (.slice p2 l2 c2) ∧ W.cell? ⟨g6, 0, none⟩ = some (.bool false) ∧ W.cell? ⟨g6, 1, none⟩ = some (.slice p10 l10 c10)) ?_
      intro hKeep
      repeat (first | refine F_s ?_ | refine F_r ?_)
      refine F_num wr (ofZ 0) (by rfl) (by rfl) (by intro W hW; (try dsimp only at hW); have hwW : wr.heap.size ≤ W.heap.size := (by have hzz := hW; (repeat (first | exact hzz.size | exact hzz.1.size | replace hzz := hzz.1))); go_simp; exact (r07_of 0 _ (by omega)).mono fun _ _ h => RetN.isN hwW h) ?_; intro n20 p20 l20 c20 hn20; refine F_put ?_
      repeat (first | refine F_s ?_ | refine F_r ?_)
      refine F_num wr (ofZ mh) (by rfl) (by rfl) (by intro W hW; (try dsimp only at hW); have hwW : wr.heap.size ≤ W.heap.size := (by have hzz := hW; (repeat (first | exact hzz.size | exact hzz.1.size | replace hzz := hzz.1))); go_simp; exact (r07_sub 0 h n20 n2 p20 p2 l20 c20 l2 c2 W (by have hzz := hW; (try dsimp only at hzz); (repeat (first | exact hzz.2 | exact hzz.1 | exact NR.ext (by assumption) hzz | exact NR.ext (by assumption) hzz.1 | replace hzz := hzz.1))) (by have hzz := hW; (try dsimp only at hzz); (repeat (first | exact hzz.2 | exact hzz.1 | exact NR.ext (by assumption) hzz | exact NR.ext (by assumption) hzz.1 | replace hzz := hzz.1))) z0.out (wh.out.small (by omega)) mh MHh.out (wmh.out.small (by omega))).mono fun _ _ h => RetN.isN hwW h) ?_; intro n21 p21 l21 c21 hn21; refine F_put ?_
      repeat (first | refine F_s ?_ | refine F_r ?_)
      refine F_num wr (ofZ 1) (by rfl) (by rfl) (by intro W hW; (try dsimp only at hW); have hwW : wr.heap.size ≤ W.heap.size := (by have hzz := hW; (repeat (first | exact hzz.size | exact hzz.1.size | replace hzz := hzz.1))); go_simp; exact (r07_of 1 _ (by omega)).mono fun _ _ h => RetN.isN hwW h) ?_; intro n22 p22 l22 c22 hn22; refine F_put ?_
      repeat (first | refine F_s ?_ | refine F_r ?_)
      (refine F_call (v := .bool i0) (by rfl) (by rfl) ?_ ?_; (· (intro W hW; (try dsimp only at hW); go_simp; refine (r07_positive mh s 1 dl s n21 n22 false p21 p22 p10 l21 c21 l22 c22 l10 c10 W (by have hzz := hW; (try dsimp only at hzz); (repeat (first | exact hzz.2 | exact hzz.1 | exact NR.ext (by assumption) hzz | exact NR.ext (by assumption) hzz.1 | replace hzz := hzz.1))) (by have hzz := hW; (try dsimp only at hzz); (repeat (first | exact hzz.2 | exact hzz.1 | exact NR.ext (by assumption) hzz | exact NR.ext (by assumption) hzz.1 | replace hzz := hzz.1))) (by have hzz := hW; (try dsimp only at hzz); (repeat (first | exact hzz.2 | exact hzz.1 | exact NR.ext (by assumption) hzz | exact NR.ext (by assumption) hzz.1 | replace hzz := hzz.1))) (wmh.out.gd (by omega)) z1.out (wdl.out.gd (by omega)) D0.out BS.out (Int.mul_one s) i0 I0.out).mono ?_; rintro e w' ⟨rfl, hx⟩; exact ⟨_, rfl, rfl, hx⟩))); refine F_put ?_
      (first | refine F_s ?_ | refine F_r ?_)
      cases i0
      case' true =>
        repeat (first | refine F_s ?_ | refine F_r ?_)
        refine F_num wr (ofZ 0) (by rfl) (by rfl) (by intro W hW; (try dsimp only at hW); have hwW : wr.heap.size ≤ W.heap.size := (by have hzz := hW; (repeat (first | exact hzz.size | exact hzz.1.size | replace hzz := hzz.1))); go_simp; exact (r07_of 0 _ (by omega)).mono fun _ _ h => RetN.isN hwW h) ?_; intro n23 p23 l23 c23 hn23; refine F_put ?_
        repeat (first | refine F_s ?_ | refine F_r ?_)
        refine F_num wr (ofZ mh) (by rfl) (by rfl) (by intro W hW; (try dsimp only at hW); have hwW : wr.heap.size ≤ W.heap.size := (by have hzz := hW; (repeat (first | exact hzz.size | exact hzz.1.size | replace hzz := hzz.1))); go_simp; exact (r07_sub 0 h n23 n2 p23 p2 l23 c23 l2 c2 W (by have hzz := hW; (try dsimp only at hzz); (repeat (first | exact hzz.2 | exact hzz.1 | exact NR.ext (by assumption) hzz | exact NR.ext (by assumption) hzz.1 | replace hzz := hzz.1))) (by have hzz := hW; (try dsimp only at hzz); (repeat (first | exact hzz.2 | exact hzz.1 | exact NR.ext (by assumption) hzz | exact NR.ext (by assumption) hzz.1 | replace hzz := hzz.1))) z0.out (wh.out.small (by omega)) mh MHh.out (wmh.out.small (by omega))).mono fun _ _ h => RetN.isN hwW h) ?_; intro n24 p24 l24 c24 hn24; refine F_put ?_
        repeat (first | refine F_s ?_ | refine F_r ?_)
        refine F_num wr (ofZ sm) (by rfl) (by rfl) (by intro W hW; (try dsimp only at hW); have hwW : wr.heap.size ≤ W.heap.size := (by have hzz := hW; (repeat (first | exact hzz.size | exact hzz.1.size | replace hzz := hzz.1))); go_simp; exact (r07_sub S mh n1 n24 p1 p24 l1 c1 l24 c24 W (by have hzz := hW; (try dsimp only at hzz); (repeat (first | exact hzz.2 | exact hzz.1 | exact NR.ext (by assumption) hzz | exact NR.ext (by assumption) hzz.1 | replace hzz := hzz.1))) (by have hzz := hW; (try dsimp only at hzz); (repeat (first | exact hzz.2 | exact hzz.1 | exact NR.ext (by assumption) hzz | exact NR.ext (by assumption) hzz.1 | replace hzz := hzz.1))) (wS.out.small (by omega)) (wmh.out.small (by omega)) sm SMh.out (wsm.out.small (by omega))).mono fun _ _ h => RetN.isN hwW h) ?_; intro n25 p25 l25 c25 hn25; refine F_put ?_
        repeat (first | refine F_s ?_ | refine F_r ?_)
        refine F_num wr (ofZ 1) (by rfl) (by rfl) (by intro W hW; (try dsimp only at hW); have hwW : wr.heap.size ≤ W.heap.size := (by have hzz := hW; (repeat (first | exact hzz.size | exact hzz.1.size | replace hzz := hzz.1))); go_simp; exact (r07_of 1 _ (by omega)).mono fun _ _ h => RetN.isN hwW h) ?_; intro n26 p26 l26 c26 hn26; refine F_put ?_
        repeat (first | refine F_s ?_ | refine F_r ?_)
        (refine F_call (v := .bool i1) (by rfl) (by rfl) ?_ ?_; (· (intro W hW; (try dsimp only at hW); go_simp; refine (r07_positive sm (-s) 1 dl (-s) n25 n26 false p25 p26 p10 l25 c25 l26 c26 l10 c10 W (by have hzz := hW; (try dsimp only at hzz); (repeat (first | exact hzz.2 | exact hzz.1 | exact NR.ext (by assumption) hzz | exact NR.ext (by assumption) hzz.1 | replace hzz := hzz.1))) (by have hzz := hW; (try dsimp only at hzz); (repeat (first | exact hzz.2 | exact hzz.1 | exact NR.ext (by assumption) hzz | exact NR.ext (by assumption) hzz.1 | replace hzz := hzz.1))) (by have hzz := hW; (try dsimp only at hzz); (repeat (first | exact hzz.2 | exact hzz.1 | exact NR.ext (by assumption) hzz | exact NR.ext (by assumption) hzz.1 | replace hzz := hzz.1))) (wsm.out.gd (by omega)) z1.out (wdl.out.gd (by omega)) D0.out BM.out (Int.mul_one (-s)) i1 I1.out).mono ?_; rintro e w' ⟨rfl, hx⟩; exact ⟨_, rfl, rfl, hx⟩))); refine F_put ?_
      all_goals
        repeat (first | refine F_s ?_ | refine F_r ?_)
        intro W15 hF
        obtain ⟨hx, hcw⟩ : Ext wr W15 ∧ (fun W => W.cell? ⟨w.heap.size, 0, none⟩ = some (.int .i64 1) ∧ W.cell? ⟨w.heap.size, 1, none⟩ = some (.int .i64 px) ∧ W.cell? ⟨w.heap.size, 2, none⟩ = some (.int .i64 py) ∧ W.cell? ⟨w.heap.size, 3, none⟩ = some (.int .i64 qx) ∧ W.cell? ⟨w.heap.size, 4, none⟩ = some (.int .i64 qy) ∧ W.cell? ⟨w.heap.size, 5, none⟩ = some (.int .i64 lx) ∧ W.cell? ⟨w.heap.size, 6, none⟩ = some (.int .i64 ly) ∧ W.cell? ⟨w.heap.size + 1, 0, none⟩ = some (.int .i64 k) ∧ W.cell? ⟨w.heap.size + 1, 1, none⟩ = some (.int .i64 ax) ∧ W.cell? ⟨w.heap.size + 1, 2, none⟩ = some (.int .i64 ay) ∧ W.cell? ⟨w.heap.size + 1, 3, none⟩ = some (.int .i64 bx) ∧ W.cell? ⟨w.heap.size + 1, 4, none⟩ = some (.int .i64 by') ∧ W.cell? ⟨w.heap.size + 1, 5, none⟩ = some (.int .i64 cx) ∧ W.cell? ⟨w.heap.size + 1, 6, none⟩ = some (.int .i64 cy) ∧ W.cell? ⟨g, 0, none⟩ = some (.int .i64 (px-cx)) ∧ W.cell? ⟨g, 1, none⟩ = some (.int .i64 (py-cy)) ∧ W.cell? ⟨g2, 0, none⟩ = some (.int .i64 (qx-px)) ∧ W.cell? ⟨g2, 1, none⟩ = some (.int .i64 (qy-py)) ∧ W.cell? ⟨g3, 0, none⟩ = some (.bool n1) ∧ W.cell? ⟨g3, 1, none⟩ = some (.slice p1 l1 c1) ∧ W.cell? ⟨g4, 0, none⟩ = some (.bool n2) ∧ W.cell? ⟨g4, 1, none⟩ = some (.slice p2 l2 c2) ∧ W.cell? ⟨g6, 0, none⟩ = some (.bool false) ∧ W.cell? ⟨g6, 1, none⟩ = some (.slice p10 l10 c10) ) W15 := (by have hzz := hF; (repeat (first | exact ⟨hzz.1, hzz.2.2⟩ | replace hzz := hzz.1)))
        clear hF hcr sb
        replace nS := nS.ext hx
        replace nh := nh.ext hx
        replace nD := nD.ext hx
        replace ex := Ext.step ex hx
        replace hv := Ext.step hv hx
        replace q1r := Nat.lt_of_lt_of_le q1r hx.size
        replace q2r := Nat.lt_of_lt_of_le q2r hx.size
        replace q3r := Nat.lt_of_lt_of_le q3r hx.size
        replace q4r := Nat.lt_of_lt_of_le q4r hx.size
        replace q5r := Nat.lt_of_lt_of_le q5r hx.size
        replace q6r := Nat.lt_of_lt_of_le q6r hx.size
        clear hx
        go_upto_region 16 with (fail)
        refine wp_KB (W15.heap.size) (fun W => Ext W15 W ∧ W15.heap.size ≤ W.heap.size ∧ W.cell? ⟨w.heap.size, 0, none⟩ = some (.int .i64 1) ∧ W.cell? ⟨w.heap.size, 1, none⟩ = some (.int .i64 px) ∧ W.cell? ⟨w.heap.size, 2, none⟩ = some (.int .i64 py) ∧ W.cell? ⟨w.heap.size, 3, none⟩ = some (.int .i64 qx) ∧ W.cell? ⟨w.heap.size, 4, none⟩ = some (.int .i64 qy) ∧ W.cell? ⟨w.heap.size, 5, none⟩ = some (.int .i64 lx) ∧ W.cell? ⟨w.heap.size, 6, none⟩ = some (.int .i64 ly) ∧ W.cell? ⟨w.heap.size + 1, 0, none⟩ = some (.int .i64 k) ∧ W.cell? ⟨w.heap.size + 1, 1, none⟩ = some (.int .i64 ax) ∧ W.cell? ⟨w.heap.size + 1, 2, none⟩ = some (.int .i64 ay) ∧ W.cell? ⟨w.heap.size + 1, 3, none⟩ = some (.int .i64 bx) ∧ W.cell? ⟨w.heap.size + 1, 4, none⟩ = some (.int .i64 by') ∧ W.cell? ⟨w.heap.size + 1, 5, none⟩ = some (.int .i64 cx) ∧ W.cell? ⟨w.heap.size + 1, 6, none⟩ = some (.int .i64 cy) ∧ W.cell? ⟨g, 0, none⟩ = some (.int .i64 (px-cx)) ∧ W.cell? ⟨g, 1, none⟩ = some (.int .i64 (py-cy)) ∧ W.cell? ⟨g2, 0, none⟩ = some (.int .i64 (qx-px)) ∧ W.cell? ⟨g2, 1, none⟩ = some (.int .i64 (qy-py)) ∧ W.cell? ⟨g3, 0, none⟩ = some (.bool n1) ∧ W.cell? ⟨g3, 1, none⟩ = some (.slice p1 l1 c1) ∧ W.cell? ⟨g4, 0, none⟩ = some (.bool n2) ∧ W.cell? ⟨g4, 1, none⟩ = some (.slice p2 l2 c2) ∧ W.cell? ⟨g6, 0, none⟩ = some (.bool false) ∧ W.cell? ⟨g6, 1, none⟩ = some (.slice p10 l10 c10)) ?_
        intro hKeep
        repeat (first | refine F_s ?_ | refine F_r ?_)
        (refine F_call (v := .agg #[.int .i64 ux, .int .i64 uy, .int .i64 vx, .int .i64 vy]) (by rfl) (by rfl) ?_ ?_; (· (intro W hW; (try dsimp only at hW); go_simp; refine (AX.out W).mono ?_; rintro e w' ⟨rfl, hx⟩; exact ⟨_, rfl, rfl, hx⟩))); refine F_put ?_
        repeat (first | refine F_s ?_ | refine F_r ?_)
        refine F_al ?_
        intro gx hgx
        simp only [List.mem_cons, List.mem_range, not_or, Nat.not_lt] at hgx
        refine F_w (fun W => _) (fun W hW => hW) ?_
        repeat (first | refine F_s ?_ | refine F_r ?_)
        rintro W16 ⟨⟨⟨hx, hz16, hc16⟩, bkx⟩, _⟩
        obtain ⟨x0, x1, x2, x3, hlx⟩ := cellsQ bkx
        have hC16 : ∀ W, Ext W16 W → (W.cell? ⟨w.heap.size, 0, none⟩ = some (.int .i64 1) ∧ W.cell? ⟨w.heap.size, 1, none⟩ = some (.int .i64 px) ∧ W.cell? ⟨w.heap.size, 2, none⟩ = some (.int .i64 py) ∧ W.cell? ⟨w.heap.size, 3, none⟩ = some (.int .i64 qx) ∧ W.cell? ⟨w.heap.size, 4, none⟩ = some (.int .i64 qy) ∧ W.cell? ⟨w.heap.size, 5, none⟩ = some (.int .i64 lx) ∧ W.cell? ⟨w.heap.size, 6, none⟩ = some (.int .i64 ly) ∧ W.cell? ⟨w.heap.size + 1, 0, none⟩ = some (.int .i64 k) ∧ W.cell? ⟨w.heap.size + 1, 1, none⟩ = some (.int .i64 ax) ∧ W.cell? ⟨w.heap.size + 1, 2, none⟩ = some (.int .i64 ay) ∧ W.cell? ⟨w.heap.size + 1, 3, none⟩ = some (.int .i64 bx) ∧ W.cell? ⟨w.heap.size + 1, 4, none⟩ = some (.int .i64 by') ∧ W.cell? ⟨w.heap.size + 1, 5, none⟩ = some (.int .i64 cx) ∧ W.cell? ⟨w.heap.size + 1, 6, none⟩ = some (.int .i64 cy) ∧ W.cell? ⟨g, 0, none⟩ = some (.int .i64 (px-cx)) ∧ W.cell? ⟨g, 1, none⟩ = some (.int .i64 (py-cy)) ∧ W.cell? ⟨g2, 0, none⟩ = some (.int .i64 (qx-px)) ∧ W.cell? ⟨g2, 1, none⟩ = some (.int .i64 (qy-py)) ∧ W.cell? ⟨g3, 0, none⟩ = some (.bool n1) ∧ W.cell? ⟨g3, 1, none⟩ = some (.slice p1 l1 c1) ∧ W.cell? ⟨g4, 0, none⟩ = some (.bool n2) ∧ W.cell? ⟨g4, 1, none⟩ = some (.slice p2 l2 c2) ∧ W.cell? ⟨g6, 0, none⟩ = some (.bool false) ∧ W.cell? ⟨g6, 1, none⟩ = some (.slice p10 l10 c10) ∧ W.cell? ⟨gx, 0, none⟩ = some (.int .i64 ux) ∧ W.cell? ⟨gx, 1, none⟩ = some (.int .i64 uy) ∧ W.cell? ⟨gx, 2, none⟩ = some (.int .i64 vx) ∧ W.cell? ⟨gx, 3, none⟩ = some (.int .i64 vy) ) := fun W hx => by
          have hbc : ∀ b o, b < W16.heap.size → W.cell? ⟨b, o, none⟩ = W16.cell? ⟨b, o, none⟩ := fun b o h => hx.cell (p := ⟨b, o, none⟩) h
          simp (disch := omega) only [hbc]
          go_simp
        have HC16 := Lib.hid hC16
        replace nS := Lib.hid (nS.ext hx)
        replace nh := Lib.hid (nh.ext hx)
        replace nD := Lib.hid (nD.ext hx)
        replace ex := Ext.step ex hx
        replace hv := Ext.step hv hx
        replace q1r := Nat.lt_of_lt_of_le q1r hx.size
        replace q2r := Nat.lt_of_lt_of_le q2r hx.size
        replace q3r := Nat.lt_of_lt_of_le q3r hx.size
        replace q4r := Nat.lt_of_lt_of_le q4r hx.size
        replace q5r := Nat.lt_of_lt_of_le q5r hx.size
        replace q6r := Nat.lt_of_lt_of_le q6r hx.size
        have NXB : Hid (∀ b, b = (pp && iu && iv) → ((s + 2 = -1 ∧ n + b01 b = 0) ∨ (s + 2 = 1 ∧ n + b01 b = b01 ga) ∨ (s + 2 = 3 ∧ n + b01 b = R))) := Lib.hid (by rintro b rfl; exact NX.out)
        clear hx hcw hc16 hC16 bkx hKeep hgx hz16 x0 x1 x2 x3 NX
        go_wp2_with fail
        go_loopw [14, 16] (fun bv kv wr => ∃ (kk : Int) (b : Bool), bv = .bool b ∧ kv = .int .i64 kk ∧ ((kk = 0 ∧ b = pp) ∨ (kk = 1 ∧ b = (pp && iu)) ∨ (kk = 2 ∧ b = (pp && iu && iv))) ∧ Ext W16 wr) (fun _ kv _ => (2 - intOf kv).toNat)
        case atStart => exact ⟨0, _, rfl, rfl, .inl ⟨rfl, PP.out⟩, Below.refl _ _⟩
        case round =>
          obtain ⟨kk, b, rfl, rfl, hkb, hw⟩ := hrel
          have hcq := HC16.out wr hw
          have nS' := nS.out.ext hw
          have nh' := nh.out.ext hw
          have nD' := nD.out.ext hw
          have exr := Ext.step ex hw
          have hvr := Ext.step hv hw
          replace q1r := Nat.lt_of_lt_of_le q1r hw.size
          replace q2r := Nat.lt_of_lt_of_le q2r hw.size
          replace q3r := Nat.lt_of_lt_of_le q3r hw.size
          replace q4r := Nat.lt_of_lt_of_le q4r hw.size
          replace q5r := Nat.lt_of_lt_of_le q5r hw.size
          replace q6r := Nat.lt_of_lt_of_le q6r hw.size
          have q7r := Nat.lt_of_lt_of_le hlx hw.size
          rcases hkb with ⟨rfl, hb⟩ | ⟨rfl, hb⟩ | ⟨rfl, hb⟩
          · have HB := Lib.hid hb
            clear hb
            go_upto_region 20 with (fail)
            refine wp_KB (wr.heap.size) (fun W => Ext wr W ∧ wr.heap.size ≤ W.heap.size ∧ W.cell? ⟨w.heap.size, 0, none⟩ = some (.int .i64 1) ∧ W.cell? ⟨w.heap.size, 1, none⟩ = some (.int .i64 px) ∧ W.cell? ⟨w.heap.size, 2, none⟩ = some (.int .i64 py) ∧ W.cell? ⟨w.heap.size, 3, none⟩ = some (.int .i64 qx) ∧ W.cell? ⟨w.heap.size, 4, none⟩ = some (.int .i64 qy) ∧ W.cell? ⟨w.heap.size, 5, none⟩ = some (.int .i64 lx) ∧ W.cell? ⟨w.heap.size, 6, none⟩ = some (.int .i64 ly) ∧ W.cell? ⟨w.heap.size + 1, 0, none⟩ = some (.int .i64 k) ∧ W.cell? ⟨w.heap.size + 1, 1, none⟩ = some (.int .i64 ax) ∧ W.cell? ⟨w.heap.size + 1, 2, none⟩ = some (.int .i64 ay) ∧ W.cell? ⟨w.heap.size + 1, 3, none⟩ = some (.int .i64 bx) ∧ W.cell? ⟨w.heap.size + 1, 4, none⟩ = some (.int .i64 by') ∧ W.cell? ⟨w.heap.size + 1, 5, none⟩ = some (.int .i64 cx) ∧ W.cell? ⟨w.heap.size + 1, 6, none⟩ = some (.int .i64 cy) ∧ W.cell? ⟨g, 0, none⟩ = some (.int .i64 (px-cx)) ∧ W.cell? ⟨g, 1, none⟩ = some (.int .i64 (py-cy)) ∧ W.cell? ⟨g2, 0, none⟩ = some (.int .i64 (qx-px)) ∧ W.cell? ⟨g2, 1, none⟩ = some (.int .i64 (qy-py)) ∧ W.cell? ⟨g3, 0, none⟩ = some (.bool n1) ∧ W.cell? ⟨g3, 1, none⟩ = some (.slice p1 l1 c1) ∧ W.cell? ⟨g4, 0, none⟩ = some (.bool n2) ∧ W.cell? ⟨g4, 1, none⟩ = some (.slice p2 l2 c2) ∧ W.cell? ⟨g6, 0, none⟩ = some (.bool false) ∧ W.cell? ⟨g6, 1, none⟩ = some (.slice p10 l10 c10) ∧ W.cell? ⟨gx, 0, none⟩ = some (.int .i64 ux) ∧ W.cell? ⟨gx, 1, none⟩ = some (.int .i64 uy) ∧ W.cell? ⟨gx, 2, none⟩ = some (.int .i64 vx) ∧ W.cell? ⟨gx, 3, none⟩ = some (.int .i64 vy)) ?_
            intro hKeep
            repeat (first | refine F_s ?_ | refine F_r ?_)
            (refine F_call (v := .int .i64 u1) (by rfl) (by rfl) ?_ ?_; (· (intro W hW; (try dsimp only at hW); go_simp; refine (Cu1.out _).mono ?_; rintro e w' ⟨rfl, hx⟩; exact ⟨_, rfl, rfl, hx⟩))); refine F_put ?_
            repeat (first | refine F_s ?_ | refine F_r ?_)
            refine F_num wr (ofZ u1) (by rfl) (by rfl) (by intro W hW; (try dsimp only at hW); have hwW : wr.heap.size ≤ W.heap.size := (by have hzz := hW; (repeat (first | exact hzz.size | exact hzz.1.size | replace hzz := hzz.1))); go_simp; exact (r07_of u1 _ iu1.out).mono fun _ _ h => RetN.isN hwW h) ?_; intro n30 p30 l30 c30 hn30; refine F_put ?_
            repeat (first | refine F_s ?_ | refine F_r ?_)
            refine F_num wr (ofZ eu1) (by rfl) (by rfl) (by intro W hW; (try dsimp only at hW); have hwW : wr.heap.size ≤ W.heap.size := (by have hzz := hW; (repeat (first | exact hzz.size | exact hzz.1.size | replace hzz := hzz.1))); go_simp; exact (r07_mul S u1 n1 n30 p1 p30 l1 c1 l30 c30 W (by have hzz := hW; (try dsimp only at hzz); (repeat (first | exact hzz.2 | exact hzz.1 | exact NR.ext (by assumption) hzz | exact NR.ext (by assumption) hzz.1 | replace hzz := hzz.1))) (by have hzz := hW; (try dsimp only at hzz); (repeat (first | exact hzz.2 | exact hzz.1 | exact NR.ext (by assumption) hzz | exact NR.ext (by assumption) hzz.1 | replace hzz := hzz.1))) (wS.out.small (by omega)) (wu1.out.small (by omega)) eu1 Eu1.out (weu1.out.small (by omega))).mono fun _ _ h => RetN.isN hwW h) ?_; intro n31 p31 l31 c31 hn31; refine F_put ?_
            repeat (first | refine F_s ?_ | refine F_r ?_)
            (refine F_call (v := .int .i64 u2) (by rfl) (by rfl) ?_ ?_; (· (intro W hW; (try dsimp only at hW); go_simp; refine (Cu2.out _).mono ?_; rintro e w' ⟨rfl, hx⟩; exact ⟨_, rfl, rfl, hx⟩))); refine F_put ?_
            repeat (first | refine F_s ?_ | refine F_r ?_)
            refine F_num wr (ofZ u2) (by rfl) (by rfl) (by intro W hW; (try dsimp only at hW); have hwW : wr.heap.size ≤ W.heap.size := (by have hzz := hW; (repeat (first | exact hzz.size | exact hzz.1.size | replace hzz := hzz.1))); go_simp; exact (r07_of u2 _ iu2.out).mono fun _ _ h => RetN.isN hwW h) ?_; intro n32 p32 l32 c32 hn32; refine F_put ?_
            repeat (first | refine F_s ?_ | refine F_r ?_)
            refine F_num wr (ofZ eu2) (by rfl) (by rfl) (by intro W hW; (try dsimp only at hW); have hwW : wr.heap.size ≤ W.heap.size := (by have hzz := hW; (repeat (first | exact hzz.size | exact hzz.1.size | replace hzz := hzz.1))); go_simp; exact (r07_mul h u2 n2 n32 p2 p32 l2 c2 l32 c32 W (by have hzz := hW; (try dsimp only at hzz); (repeat (first | exact hzz.2 | exact hzz.1 | exact NR.ext (by assumption) hzz | exact NR.ext (by assumption) hzz.1 | replace hzz := hzz.1))) (by have hzz := hW; (try dsimp only at hzz); (repeat (first | exact hzz.2 | exact hzz.1 | exact NR.ext (by assumption) hzz | exact NR.ext (by assumption) hzz.1 | replace hzz := hzz.1))) (wh.out.small (by omega)) (wu2.out.small (by omega)) eu2 Eu2.out (weu2.out.small (by omega))).mono fun _ _ h => RetN.isN hwW h) ?_; intro n33 p33 l33 c33 hn33; refine F_put ?_
            repeat (first | refine F_s ?_ | refine F_r ?_)
            refine F_num wr (ofZ eu3) (by rfl) (by rfl) (by intro W hW; (try dsimp only at hW); have hwW : wr.heap.size ≤ W.heap.size := (by have hzz := hW; (repeat (first | exact hzz.size | exact hzz.1.size | replace hzz := hzz.1))); go_simp; exact (r07_sub eu1 eu2 n31 n33 p31 p33 l31 c31 l33 c33 W (by have hzz := hW; (try dsimp only at hzz); (repeat (first | exact hzz.2 | exact hzz.1 | exact NR.ext (by assumption) hzz | exact NR.ext (by assumption) hzz.1 | replace hzz := hzz.1))) (by have hzz := hW; (try dsimp only at hzz); (repeat (first | exact hzz.2 | exact hzz.1 | exact NR.ext (by assumption) hzz | exact NR.ext (by assumption) hzz.1 | replace hzz := hzz.1))) (weu1.out.small (by omega)) (weu2.out.small (by omega)) eu3 Eu3.out (weu3.out.small (by omega))).mono fun _ _ h => RetN.isN hwW h) ?_; intro n34 p34 l34 c34 hn34; refine F_put ?_
            repeat (first | refine F_s ?_ | refine F_r ?_)
            refine F_al ?_
            intro g8 hg8
            simp only [List.mem_cons, List.mem_range, not_or, Nat.not_lt] at hg8
            refine F_w (fun W => _ ∧ NR W n34 p34 l34 c34 (ofZ eu3)) (fun W hW => ⟨⟨hW.1.1.1.1.1.1, hW.1.2⟩, hW.2⟩) ?_
            repeat (first | refine F_s ?_ | refine F_r ?_)
            rintro W20 ⟨⟨⟨⟨hx, hz20, hc20⟩, nA⟩, bk8⟩, _⟩
            obtain ⟨m0, m1, _, hl8⟩ := pt_block bk8
            replace nD' := nD'.ext hx
            replace hw := Ext.step hw hx
            replace q1r := Nat.lt_of_lt_of_le q1r hx.size
            replace q2r := Nat.lt_of_lt_of_le q2r hx.size
            replace q3r := Nat.lt_of_lt_of_le q3r hx.size
            replace q4r := Nat.lt_of_lt_of_le q4r hx.size
            replace q5r := Nat.lt_of_lt_of_le q5r hx.size
            replace q6r := Nat.lt_of_lt_of_le q6r hx.size
            replace q7r := Nat.lt_of_lt_of_le q7r hx.size
            clear hx bk8 hKeep hg8 hcq hz20 hn30 hn31 hn32 hn33 hn34 nS' nh'
            go_upto_region 21 with (fail)
            refine wp_KB (W20.heap.size) (fun W => Ext W20 W ∧ W20.heap.size ≤ W.heap.size ∧ W.cell? ⟨w.heap.size, 0, none⟩ = some (.int .i64 1) ∧ W.cell? ⟨w.heap.size, 1, none⟩ = some (.int .i64 px) ∧ W.cell? ⟨w.heap.size, 2, none⟩ = some (.int .i64 py) ∧ W.cell? ⟨w.heap.size, 3, none⟩ = some (.int .i64 qx) ∧ W.cell? ⟨w.heap.size, 4, none⟩ = some (.int .i64 qy) ∧ W.cell? ⟨w.heap.size, 5, none⟩ = some (.int .i64 lx) ∧ W.cell? ⟨w.heap.size, 6, none⟩ = some (.int .i64 ly) ∧ W.cell? ⟨w.heap.size + 1, 0, none⟩ = some (.int .i64 k) ∧ W.cell? ⟨w.heap.size + 1, 1, none⟩ = some (.int .i64 ax) ∧ W.cell? ⟨w.heap.size + 1, 2, none⟩ = some (.int .i64 ay) ∧ W.cell? ⟨w.heap.size + 1, 3, none⟩ = some (.int .i64 bx) ∧ W.cell? ⟨w.heap.size + 1, 4, none⟩ = some (.int .i64 by') ∧ W.cell? ⟨w.heap.size + 1, 5, none⟩ = some (.int .i64 cx) ∧ W.cell? ⟨w.heap.size + 1, 6, none⟩ = some (.int .i64 cy) ∧ W.cell? ⟨g, 0, none⟩ = some (.int .i64 (px-cx)) ∧ W.cell? ⟨g, 1, none⟩ = some (.int .i64 (py-cy)) ∧ W.cell? ⟨g2, 0, none⟩ = some (.int .i64 (qx-px)) ∧ W.cell? ⟨g2, 1, none⟩ = some (.int .i64 (qy-py)) ∧ W.cell? ⟨g3, 0, none⟩ = some (.bool n1) ∧ W.cell? ⟨g3, 1, none⟩ = some (.slice p1 l1 c1) ∧ W.cell? ⟨g4, 0, none⟩ = some (.bool n2) ∧ W.cell? ⟨g4, 1, none⟩ = some (.slice p2 l2 c2) ∧ W.cell? ⟨g6, 0, none⟩ = some (.bool false) ∧ W.cell? ⟨g6, 1, none⟩ = some (.slice p10 l10 c10) ∧ W.cell? ⟨gx, 0, none⟩ = some (.int .i64 ux) ∧ W.cell? ⟨gx, 1, none⟩ = some (.int .i64 uy) ∧ W.cell? ⟨gx, 2, none⟩ = some (.int .i64 vx) ∧ W.cell? ⟨gx, 3, none⟩ = some (.int .i64 vy) ∧ W.cell? ⟨g8, 0, none⟩ = some (.bool n34) ∧ W.cell? ⟨g8, 1, none⟩ = some (.slice p34 l34 c34)) ?_
            intro hKeep
            (first | refine F_s ?_ | refine F_r ?_)
            (first | refine F_s ?_ | refine F_r ?_)
            cases b
            case' true =>
              repeat (first | refine F_s ?_ | refine F_r ?_)
              (refine F_call (v := .int .i64 u2) (by rfl) (by rfl) ?_ ?_; (· (intro W hW; (try dsimp only at hW); go_simp; refine (Cu2.out _).mono ?_; rintro e w' ⟨rfl, hx⟩; exact ⟨_, rfl, rfl, hx⟩))); refine F_put ?_
              repeat (first | refine F_s ?_ | refine F_r ?_)
              refine F_num W20 (ofZ u2) (by rfl) (by rfl) (by intro W hW; (try dsimp only at hW); have hwW : W20.heap.size ≤ W.heap.size := (by have hzz := hW; (repeat (first | exact hzz.size | exact hzz.1.size | replace hzz := hzz.1))); go_simp; exact (r07_of u2 _ iu2.out).mono fun _ _ h => RetN.isN hwW h) ?_; intro n35 p35 l35 c35 hn35; refine F_put ?_
              repeat (first | refine F_s ?_ | refine F_r ?_)
              (refine F_call (v := .bool iu) (by rfl) (by rfl) ?_ ?_; (· (intro W hW; (try dsimp only at hW); go_simp; refine (r07_positive eu3 s u2 dl su n34 n35 false p34 p35 p10 l34 c34 l35 c35 l10 c10 W (by have hzz := hW; (try dsimp only at hzz); (repeat (first | exact hzz.2 | exact hzz.1 | exact NR.ext (by assumption) hzz | exact NR.ext (by assumption) hzz.1 | replace hzz := hzz.1))) (by have hzz := hW; (try dsimp only at hzz); (repeat (first | exact hzz.2 | exact hzz.1 | exact NR.ext (by assumption) hzz | exact NR.ext (by assumption) hzz.1 | replace hzz := hzz.1))) (by have hzz := hW; (try dsimp only at hzz); (repeat (first | exact hzz.2 | exact hzz.1 | exact NR.ext (by assumption) hzz | exact NR.ext (by assumption) hzz.1 | replace hzz := hzz.1))) (weu3.out.gd (by omega)) (wu2.out.gd (by omega)) (wdl.out.gd (by omega)) D0.out BS.out SSu.out iu IIu.out).mono ?_; rintro e w' ⟨rfl, hx⟩; exact ⟨_, rfl, rfl, hx⟩))); refine F_put ?_
            all_goals
              repeat (first | refine F_s ?_ | refine F_r ?_)
              intro W21 hF
              have hx : Ext W20 W21 := (by have hzz := hF; (repeat (first | exact hzz.1 | replace hzz := hzz.1)))
              replace hw := Ext.step hw hx
              clear hF hx hc20 m0 m1
              go_wp2_with fail
              first | exact ⟨⟨1, _, rfl, rfl, .inr (.inl ⟨rfl, by rw [← HB.out]; rfl⟩), hw⟩, by simp [intOf]⟩ | exact ⟨⟨2, _, rfl, rfl, .inr (.inr ⟨rfl, by rw [← HB.out]; rfl⟩), hw⟩, by simp [intOf]⟩
          · have HB := Lib.hid hb
            clear hb
            go_upto_region 20 with (fail)
            refine wp_KB (wr.heap.size) (fun W => Ext wr W ∧ wr.heap.size ≤ W.heap.size ∧ W.cell? ⟨w.heap.size, 0, none⟩ = some (.int .i64 1) ∧ W.cell? ⟨w.heap.size, 1, none⟩ = some (.int .i64 px) ∧ W.cell? ⟨w.heap.size, 2, none⟩ = some (.int .i64 py) ∧ W.cell? ⟨w.heap.size, 3, none⟩ = some (.int .i64 qx) ∧ W.cell? ⟨w.heap.size, 4, none⟩ = some (.int .i64 qy) ∧ W.cell? ⟨w.heap.size, 5, none⟩ = some (.int .i64 lx) ∧ W.cell? ⟨w.heap.size, 6, none⟩ = some (.int .i64 ly) ∧ W.cell? ⟨w.heap.size + 1, 0, none⟩ = some (.int .i64 k) ∧ W.cell? ⟨w.heap.size + 1, 1, none⟩ = some (.int .i64 ax) ∧ W.cell? ⟨w.heap.size + 1, 2, none⟩ = some (.int .i64 ay) ∧ W.cell? ⟨w.heap.size + 1, 3, none⟩ = some (.int .i64 bx) ∧ W.cell? ⟨w.heap.size + 1, 4, none⟩ = some (.int .i64 by') ∧ W.cell? ⟨w.heap.size + 1, 5, none⟩ = some (.int .i64 cx) ∧ W.cell? ⟨w.heap.size + 1, 6, none⟩ = some (.int .i64 cy) ∧ W.cell? ⟨g, 0, none⟩ = some (.int .i64 (px-cx)) ∧ W.cell? ⟨g, 1, none⟩ = some (.int .i64 (py-cy)) ∧ W.cell? ⟨g2, 0, none⟩ = some (.int .i64 (qx-px)) ∧ W.cell? ⟨g2, 1, none⟩ = some (.int .i64 (qy-py)) ∧ W.cell? ⟨g3, 0, none⟩ = some (.bool n1) ∧ W.cell? ⟨g3, 1, none⟩ = some (.slice p1 l1 c1) ∧ W.cell? ⟨g4, 0, none⟩ = some (.bool n2) ∧ W.cell? ⟨g4, 1, none⟩ = some (.slice p2 l2 c2) ∧ W.cell? ⟨g6, 0, none⟩ = some (.bool false) ∧ W.cell? ⟨g6, 1, none⟩ = some (.slice p10 l10 c10) ∧ W.cell? ⟨gx, 0, none⟩ = some (.int .i64 ux) ∧ W.cell? ⟨gx, 1, none⟩ = some (.int .i64 uy) ∧ W.cell? ⟨gx, 2, none⟩ = some (.int .i64 vx) ∧ W.cell? ⟨gx, 3, none⟩ = some (.int .i64 vy)) ?_
            intro hKeep
            repeat (first | refine F_s ?_ | refine F_r ?_)
            (refine F_call (v := .int .i64 v1) (by rfl) (by rfl) ?_ ?_; (· (intro W hW; (try dsimp only at hW); go_simp; refine (Cv1.out _).mono ?_; rintro e w' ⟨rfl, hx⟩; exact ⟨_, rfl, rfl, hx⟩))); refine F_put ?_
            repeat (first | refine F_s ?_ | refine F_r ?_)
            refine F_num wr (ofZ v1) (by rfl) (by rfl) (by intro W hW; (try dsimp only at hW); have hwW : wr.heap.size ≤ W.heap.size := (by have hzz := hW; (repeat (first | exact hzz.size | exact hzz.1.size | replace hzz := hzz.1))); go_simp; exact (r07_of v1 _ iv1.out).mono fun _ _ h => RetN.isN hwW h) ?_; intro n30 p30 l30 c30 hn30; refine F_put ?_
            repeat (first | refine F_s ?_ | refine F_r ?_)
            refine F_num wr (ofZ ev1) (by rfl) (by rfl) (by intro W hW; (try dsimp only at hW); have hwW : wr.heap.size ≤ W.heap.size := (by have hzz := hW; (repeat (first | exact hzz.size | exact hzz.1.size | replace hzz := hzz.1))); go_simp; exact (r07_mul S v1 n1 n30 p1 p30 l1 c1 l30 c30 W (by have hzz := hW; (try dsimp only at hzz); (repeat (first | exact hzz.2 | exact hzz.1 | exact NR.ext (by assumption) hzz | exact NR.ext (by assumption) hzz.1 | replace hzz := hzz.1))) (by have hzz := hW; (try dsimp only at hzz); (repeat (first | exact hzz.2 | exact hzz.1 | exact NR.ext (by assumption) hzz | exact NR.ext (by assumption) hzz.1 | replace hzz := hzz.1))) (wS.out.small (by omega)) (wv1.out.small (by omega)) ev1 Ev1.out (wev1.out.small (by omega))).mono fun _ _ h => RetN.isN hwW h) ?_; intro n31 p31 l31 c31 hn31; refine F_put ?_
            repeat (first | refine F_s ?_ | refine F_r ?_)
            (refine F_call (v := .int .i64 v2) (by rfl) (by rfl) ?_ ?_; (· (intro W hW; (try dsimp only at hW); go_simp; refine (Cv2.out _).mono ?_; rintro e w' ⟨rfl, hx⟩; exact ⟨_, rfl, rfl, hx⟩))); refine F_put ?_
            repeat (first | refine F_s ?_ | refine F_r ?_)
            refine F_num wr (ofZ v2) (by rfl) (by rfl) (by intro W hW; (try dsimp only at hW); have hwW : wr.heap.size ≤ W.heap.size := (by have hzz := hW; (repeat (first | exact hzz.size | exact hzz.1.size | replace hzz := hzz.1))); go_simp; exact (r07_of v2 _ iv2.out).mono fun _ _ h => RetN.isN hwW h) ?_; intro n32 p32 l32 c32 hn32; refine F_put ?_
            repeat (first | refine F_s ?_ | refine F_r ?_)
            refine F_num wr (ofZ ev2) (by rfl) (by rfl) (by intro W hW; (try dsimp only at hW); have hwW : wr.heap.size ≤ W.heap.size := (by have hzz := hW; (repeat (first | exact hzz.size | exact hzz.1.size | replace hzz := hzz.1))); go_simp; exact (r07_mul h v2 n2 n32 p2 p32 l2 c2 l32 c32 W (by have hzz := hW; (try dsimp only at hzz); (repeat (first | exact hzz.2 | exact hzz.1 | exact NR.ext (by assumption) hzz | exact NR.ext (by assumption) hzz.1 | replace hzz := hzz.1))) (by have hzz := hW; (try dsimp only at hzz); (repeat (first | exact hzz.2 | exact hzz.1 | exact NR.ext (by assumption) hzz | exact NR.ext (by assumption) hzz.1 | replace hzz := hzz.1))) (wh.out.small (by omega)) (wv2.out.small (by omega)) ev2 Ev2.out (wev2.out.small (by omega))).mono fun _ _ h => RetN.isN hwW h) ?_; intro n33 p33 l33 c33 hn33; refine F_put ?_
            repeat (first | refine F_s ?_ | refine F_r ?_)
            refine F_num wr (ofZ ev3) (by rfl) (by rfl) (by intro W hW; (try dsimp only at hW); have hwW : wr.heap.size ≤ W.heap.size := (by have hzz := hW; (repeat (first | exact hzz.size | exact hzz.1.size | replace hzz := hzz.1))); go_simp; exact (r07_sub ev1 ev2 n31 n33 p31 p33 l31 c31 l33 c33 W (by have hzz := hW; (try dsimp only at hzz); (repeat (first | exact hzz.2 | exact hzz.1 | exact NR.ext (by assumption) hzz | exact NR.ext (by assumption) hzz.1 | replace hzz := hzz.1))) (by have hzz := hW; (try dsimp only at hzz); (repeat (first | exact hzz.2 | exact hzz.1 | exact NR.ext (by assumption) hzz | exact NR.ext (by assumption) hzz.1 | replace hzz := hzz.1))) (wev1.out.small (by omega)) (wev2.out.small (by omega)) ev3 Ev3.out (wev3.out.small (by omega))).mono fun _ _ h => RetN.isN hwW h) ?_; intro n34 p34 l34 c34 hn34; refine F_put ?_
            repeat (first | refine F_s ?_ | refine F_r ?_)
            refine F_al ?_
            intro g8 hg8
            simp only [List.mem_cons, List.mem_range, not_or, Nat.not_lt] at hg8
            refine F_w (fun W => _ ∧ NR W n34 p34 l34 c34 (ofZ ev3)) (fun W hW => ⟨⟨hW.1.1.1.1.1.1, hW.1.2⟩, hW.2⟩) ?_
            repeat (first | refine F_s ?_ | refine F_r ?_)
            rintro W20 ⟨⟨⟨⟨hx, hz20, hc20⟩, nA⟩, bk8⟩, _⟩
            obtain ⟨m0, m1, _, hl8⟩ := pt_block bk8
            replace nD' := nD'.ext hx
            replace hw := Ext.step hw hx
            replace q1r := Nat.lt_of_lt_of_le q1r hx.size
            replace q2r := Nat.lt_of_lt_of_le q2r hx.size
            replace q3r := Nat.lt_of_lt_of_le q3r hx.size
            replace q4r := Nat.lt_of_lt_of_le q4r hx.size
            replace q5r := Nat.lt_of_lt_of_le q5r hx.size
            replace q6r := Nat.lt_of_lt_of_le q6r hx.size
            replace q7r := Nat.lt_of_lt_of_le q7r hx.size
            clear hx bk8 hKeep hg8 hcq hz20 hn30 hn31 hn32 hn33 hn34 nS' nh'
            go_upto_region 21 with (fail)
            refine wp_KB (W20.heap.size) (fun W => Ext W20 W ∧ W20.heap.size ≤ W.heap.size ∧ W.cell? ⟨w.heap.size, 0, none⟩ = some (.int .i64 1) ∧ W.cell? ⟨w.heap.size, 1, none⟩ = some (.int .i64 px) ∧ W.cell? ⟨w.heap.size, 2, none⟩ = some (.int .i64 py) ∧ W.cell? ⟨w.heap.size, 3, none⟩ = some (.int .i64 qx) ∧ W.cell? ⟨w.heap.size, 4, none⟩ = some (.int .i64 qy) ∧ W.cell? ⟨w.heap.size, 5, none⟩ = some (.int .i64 lx) ∧ W.cell? ⟨w.heap.size, 6, none⟩ = some (.int .i64 ly) ∧ W.cell? ⟨w.heap.size + 1, 0, none⟩ = some (.int .i64 k) ∧ W.cell? ⟨w.heap.size + 1, 1, none⟩ = some (.int .i64 ax) ∧ W.cell? ⟨w.heap.size + 1, 2, none⟩ = some (.int .i64 ay) ∧ W.cell? ⟨w.heap.size + 1, 3, none⟩ = some (.int .i64 bx) ∧ W.cell? ⟨w.heap.size + 1, 4, none⟩ = some (.int .i64 by') ∧ W.cell? ⟨w.heap.size + 1, 5, none⟩ = some (.int .i64 cx) ∧ W.cell? ⟨w.heap.size + 1, 6, none⟩ = some (.int .i64 cy) ∧ W.cell? ⟨g, 0, none⟩ = some (.int .i64 (px-cx)) ∧ W.cell? ⟨g, 1, none⟩ = some (.int .i64 (py-cy)) ∧ W.cell? ⟨g2, 0, none⟩ = some (.int .i64 (qx-px)) ∧ W.cell? ⟨g2, 1, none⟩ = some (.int .i64 (qy-py)) ∧ W.cell? ⟨g3, 0, none⟩ = some (.bool n1) ∧ W.cell? ⟨g3, 1, none⟩ = some (.slice p1 l1 c1) ∧ W.cell? ⟨g4, 0, none⟩ = some (.bool n2) ∧ W.cell? ⟨g4, 1, none⟩ = some (.slice p2 l2 c2) ∧ W.cell? ⟨g6, 0, none⟩ = some (.bool false) ∧ W.cell? ⟨g6, 1, none⟩ = some (.slice p10 l10 c10) ∧ W.cell? ⟨gx, 0, none⟩ = some (.int .i64 ux) ∧ W.cell? ⟨gx, 1, none⟩ = some (.int .i64 uy) ∧ W.cell? ⟨gx, 2, none⟩ = some (.int .i64 vx) ∧ W.cell? ⟨gx, 3, none⟩ = some (.int .i64 vy) ∧ W.cell? ⟨g8, 0, none⟩ = some (.bool n34) ∧ W.cell? ⟨g8, 1, none⟩ = some (.slice p34 l34 c34)) ?_
            intro hKeep
            (first | refine F_s ?_ | refine F_r ?_)
            (first | refine F_s ?_ | refine F_r ?_)
            cases b
            case' true =>
              repeat (first | refine F_s ?_ | refine F_r ?_)
              (refine F_call (v := .int .i64 v2) (by rfl) (by rfl) ?_ ?_; (· (intro W hW; (try dsimp only at hW); go_simp; refine (Cv2.out _).mono ?_; rintro e w' ⟨rfl, hx⟩; exact ⟨_, rfl, rfl, hx⟩))); refine F_put ?_
              repeat (first | refine F_s ?_ | refine F_r ?_)
              refine F_num W20 (ofZ v2) (by rfl) (by rfl) (by intro W hW; (try dsimp only at hW); have hwW : W20.heap.size ≤ W.heap.size := (by have hzz := hW; (repeat (first | exact hzz.size | exact hzz.1.size | replace hzz := hzz.1))); go_simp; exact (r07_of v2 _ iv2.out).mono fun _ _ h => RetN.isN hwW h) ?_; intro n35 p35 l35 c35 hn35; refine F_put ?_
              repeat (first | refine F_s ?_ | refine F_r ?_)
              (refine F_call (v := .bool iv) (by rfl) (by rfl) ?_ ?_; (· (intro W hW; (try dsimp only at hW); go_simp; refine (r07_positive ev3 s v2 dl sv n34 n35 false p34 p35 p10 l34 c34 l35 c35 l10 c10 W (by have hzz := hW; (try dsimp only at hzz); (repeat (first | exact hzz.2 | exact hzz.1 | exact NR.ext (by assumption) hzz | exact NR.ext (by assumption) hzz.1 | replace hzz := hzz.1))) (by have hzz := hW; (try dsimp only at hzz); (repeat (first | exact hzz.2 | exact hzz.1 | exact NR.ext (by assumption) hzz | exact NR.ext (by assumption) hzz.1 | replace hzz := hzz.1))) (by have hzz := hW; (try dsimp only at hzz); (repeat (first | exact hzz.2 | exact hzz.1 | exact NR.ext (by assumption) hzz | exact NR.ext (by assumption) hzz.1 | replace hzz := hzz.1))) (wev3.out.gd (by omega)) (wv2.out.gd (by omega)) (wdl.out.gd (by omega)) D0.out BS.out SSv.out iv IIv.out).mono ?_; rintro e w' ⟨rfl, hx⟩; exact ⟨_, rfl, rfl, hx⟩))); refine F_put ?_
            all_goals
              repeat (first | refine F_s ?_ | refine F_r ?_)
              intro W21 hF
              have hx : Ext W20 W21 := (by have hzz := hF; (repeat (first | exact hzz.1 | replace hzz := hzz.1)))
              replace hw := Ext.step hw hx
              clear hF hx hc20 m0 m1
              go_wp2_with fail
              first | exact ⟨⟨1, _, rfl, rfl, .inr (.inl ⟨rfl, by rw [← HB.out]; rfl⟩), hw⟩, by simp [intOf]⟩ | exact ⟨⟨2, _, rfl, rfl, .inr (.inr ⟨rfl, by rw [← HB.out]; rfl⟩), hw⟩, by simp [intOf]⟩
          · have NB := Lib.hid (NXB.out b hb)
            clear hb hcq NXB nS' nh' nD'
            cases b
            · go_wp2_with fail
              exact ⟨⟨s + 2, n, rfl, rfl, by have h := NB.out; rw [show b01 false = 0 from rfl, Int.add_zero] at h; exact h, hvr⟩, by simp [intOf]; have := hmeas.out; omega⟩
            · go_wp2_with fail
              exact ⟨⟨s + 2, n + 1, rfl, rfl, NB.out, hvr⟩, by simp [intOf]; have := hmeas.out; omega⟩
end Go.Proofs.YtmmhiiiaccldmaaGreat
