/- Contract: etchantref07.arcs (printed by gen_refh.py). -/
import Derived.Test.YtmmhiiiaccldmaaGreatJ25
set_option linter.unusedVariables false
set_option linter.unusedSimpArgs false

namespace Go.Proofs.YtmmhiiiaccldmaaGreat
open Go.RowKit
attribute [local go_sem] Gives givesU

theorem sameZ_true (a b c d : Bool) : sameZ true a b c d = if b01 a + b01 b + b01 c + b01 d = 2 then -1 else b01 a + b01 b + b01 c + b01 d := by
  cases a <;> cases b <;> cases c <;> cases d <;> rfl
theorem sameZ_false (a b c d : Bool) : sameZ false a b c d = 0 := by
  cases a <;> cases b <;> cases c <;> cases d <;> rfl
set_option maxRecDepth 100000 in
set_option maxHeartbeats 16000000 in
theorem r07_arcs_same (k ax ay bx by' cx cy k' dx dy ex ey fx fy : Int) (w : World) (he : (Ed.mk k ax ay bx by' cx cy).ok = true) (hf : (Ed.mk k' dx dy ex ey fx fy).ok = true) (hk : ¬ k = 1) (hk' : ¬ k' = 1) (hc : cx = fx ∧ cy = fy) (R : Int) (hR : arcsZ (Ed.mk k ax ay bx by' cx cy) (Ed.mk k' dx dy ex ey fx fy) = R) :
    Calls Tryz.prog 26 #[.agg #[.int .i64 k, .int .i64 ax, .int .i64 ay, .int .i64 bx, .int .i64 by', .int .i64 cx, .int .i64 cy], .agg #[.int .i64 k', .int .i64 dx, .int .i64 dy, .int .i64 ex, .int .i64 ey, .int .i64 fx, .int .i64 fy]] w fun e w' => e = .returned (.int .i64 R) ∧ Ext w w' := by
  obtain ⟨hr, hux, huy, hvx, hvy⟩ := arc_di he hk
  obtain ⟨hq, hsx, hsy, htx, hty⟩ := arc_di hf hk'
  have AX := fun ux uy vx vy e1 e2 e3 e4 w => r07_axes k ax ay bx by' cx cy w he hk ux uy vx vy e1 e2 e3 e4
  have AY := fun ux uy vx vy e1 e2 e3 e4 w => r07_axes k' dx dy ex ey fx fy w hf hk' ux uy vx vy e1 e2 e3 e4
  have RA := fun w => r06_Radius k ax ay bx by' cx cy w
  have RB := fun w => r06_Radius k' dx dy ex ey fx fy w
  obtain ⟨ux, UX⟩ : ∃ z, Hid (Ed.ux (Ed.mk k ax ay bx by' cx cy) = z) := ⟨_, rfl⟩
  obtain ⟨uy, UY⟩ : ∃ z, Hid (Ed.uy (Ed.mk k ax ay bx by' cx cy) = z) := ⟨_, rfl⟩
  obtain ⟨vx, VX⟩ : ∃ z, Hid (Ed.vx (Ed.mk k ax ay bx by' cx cy) = z) := ⟨_, rfl⟩
  obtain ⟨vy, VY⟩ : ∃ z, Hid (Ed.vy (Ed.mk k ax ay bx by' cx cy) = z) := ⟨_, rfl⟩
  obtain ⟨sx, SX⟩ : ∃ z, Hid (Ed.ux (Ed.mk k' dx dy ex ey fx fy) = z) := ⟨_, rfl⟩
  obtain ⟨sy, SY⟩ : ∃ z, Hid (Ed.uy (Ed.mk k' dx dy ex ey fx fy) = z) := ⟨_, rfl⟩
  obtain ⟨tx, TX⟩ : ∃ z, Hid (Ed.vx (Ed.mk k' dx dy ex ey fx fy) = z) := ⟨_, rfl⟩
  obtain ⟨ty, TY⟩ : ∃ z, Hid (Ed.vy (Ed.mk k' dx dy ex ey fx fy) = z) := ⟨_, rfl⟩
  obtain ⟨r, RR⟩ : ∃ z, Hid (radZ (Ed.mk k ax ay bx by' cx cy) = z) := ⟨_, rfl⟩
  obtain ⟨q, QQ⟩ : ∃ z, Hid (radZ (Ed.mk k' dx dy ex ey fx fy) = z) := ⟨_, rfl⟩
  replace AX := Lib.hid (AX ux uy vx vy UX.out UY.out VX.out VY.out)
  replace AY := Lib.hid (AY sx sy tx ty SX.out SY.out TX.out TY.out)
  rw [UX.out] at hux
  rw [UY.out] at huy
  rw [VX.out] at hvx
  rw [VY.out] at hvy
  rw [SX.out] at hsx
  rw [SY.out] at hsy
  rw [TX.out] at htx
  rw [TY.out] at hty
  rw [RR.out] at hr RA
  rw [QQ.out] at hq RB
  replace RA := Lib.hid RA
  replace RB := Lib.hid RB
  have hR' := hR
  unfold arcsZ at hR'
  rw [if_pos hc] at hR'
  rw [UX.out, UY.out, VX.out, VY.out, SX.out, SY.out, TX.out, TY.out, RR.out, QQ.out] at hR'
  obtain ⟨o1, O1⟩ : ∃ b, Hid ((ux == sx && uy == sy) = b) := ⟨_, rfl⟩
  obtain ⟨o2, O2⟩ : ∃ b, Hid ((ux == tx && uy == ty) = b) := ⟨_, rfl⟩
  obtain ⟨o3, O3⟩ : ∃ b, Hid ((vx == sx && vy == sy) = b) := ⟨_, rfl⟩
  obtain ⟨o4, O4⟩ : ∃ b, Hid ((vx == tx && vy == ty) = b) := ⟨_, rfl⟩
  rw [O1.out, O2.out, O3.out, O4.out] at hR'
  have hcb : (cx == fx && cy == fy) = true := by simp [hc]
  have heq : ∀ w : World, (binOp .eql 25 (.agg #[.int .i64 cx, .int .i64 cy]) (.agg #[.int .i64 fx, .int .i64 fy])).run Tryz.prog w = .ok (.bool true) w := fun w => by rw [eql_pt, hcb]
  have heq1 : ∀ w : World, (binOp .eql 25 (.agg #[.int .i64 ux, .int .i64 uy]) (.agg #[.int .i64 sx, .int .i64 sy])).run Tryz.prog w = .ok (.bool o1) w := fun w => by rw [eql_pt, O1.out]
  have heq2 : ∀ w : World, (binOp .eql 25 (.agg #[.int .i64 ux, .int .i64 uy]) (.agg #[.int .i64 tx, .int .i64 ty])).run Tryz.prog w = .ok (.bool o2) w := fun w => by rw [eql_pt, O2.out]
  have heq3 : ∀ w : World, (binOp .eql 25 (.agg #[.int .i64 vx, .int .i64 vy]) (.agg #[.int .i64 sx, .int .i64 sy])).run Tryz.prog w = .ok (.bool o3) w := fun w => by rw [eql_pt, O3.out]
  have heq4 : ∀ w : World, (binOp .eql 25 (.agg #[.int .i64 vx, .int .i64 vy]) (.agg #[.int .i64 tx, .int .i64 ty])).run Tryz.prog w = .ok (.bool o4) w := fun w => by rw [eql_pt, O4.out]
  clear hR he hf hk hk' hr hux huy hvx hvy hq hsx hsy htx hty UX UY VX VY SX SY TX TY RR QQ O1 O2 O3 O4 hcb hc
  go_enter Tryz.func26, Tryz.ntmps26
  go_wp2_with fail
  refine (RA.out _).mono ?_
  rintro e w1 ⟨rfl, hx⟩
  have ex' : Ext w w1 := Ext.step bxx hx
  have hz_w1 : w.heap.size + 2 ≤ w1.heap.size := Nat.le_trans omm hx.size
  obtain ⟨hl_w1_0, hk_w1_0, hf_w1_0⟩ := extK hx (w.heap.size)
  obtain ⟨hl_w1_1, hk_w1_1, hf_w1_1⟩ := extK hx (w.heap.size + 1)
  clear hx
  go_wp2_with fail
  refine (RB.out _).mono ?_
  rintro e w2 ⟨rfl, hx⟩
  replace ex' := Ext.step ex' hx
  have hz_w2 : w.heap.size + 2 ≤ w2.heap.size := Nat.le_trans omm hx.size
  obtain ⟨hl_w2_0, hk_w2_0, hf_w2_0⟩ := extK hx (w.heap.size)
  obtain ⟨hl_w2_1, hk_w2_1, hf_w2_1⟩ := extK hx (w.heap.size + 1)
  clear hx
  go_upto_region 3 with (fail)
  refine wp_KB (w2.heap.size) (fun W => Ext w2 W ∧ w2.heap.size ≤ W.heap.size ∧ W.cell? ⟨w.heap.size, 0, none⟩ = some (.int .i64 k) ∧ W.cell? ⟨w.heap.size, 1, none⟩ = some (.int .i64 ax) ∧ W.cell? ⟨w.heap.size, 2, none⟩ = some (.int .i64 ay) ∧ W.cell? ⟨w.heap.size, 3, none⟩ = some (.int .i64 bx) ∧ W.cell? ⟨w.heap.size, 4, none⟩ = some (.int .i64 by') ∧ W.cell? ⟨w.heap.size, 5, none⟩ = some (.int .i64 cx) ∧ W.cell? ⟨w.heap.size, 6, none⟩ = some (.int .i64 cy) ∧ W.cell? ⟨w.heap.size + 1, 0, none⟩ = some (.int .i64 k') ∧ W.cell? ⟨w.heap.size + 1, 1, none⟩ = some (.int .i64 dx) ∧ W.cell? ⟨w.heap.size + 1, 2, none⟩ = some (.int .i64 dy) ∧ W.cell? ⟨w.heap.size + 1, 3, none⟩ = some (.int .i64 ex) ∧ W.cell? ⟨w.heap.size + 1, 4, none⟩ = some (.int .i64 ey) ∧ W.cell? ⟨w.heap.size + 1, 5, none⟩ = some (.int .i64 fx) ∧ W.cell? ⟨w.heap.size + 1, 6, none⟩ = some (.int .i64 fy)) ?_
  intro hKeep
  repeat (first | refine F_s ?_ | refine F_r ?_)
  (refine F_call (v := .agg #[.int .i64 ux, .int .i64 uy, .int .i64 vx, .int .i64 vy]) (by rfl) (by rfl) ?_ ?_; (· (intro W hW; (try dsimp only at hW); go_simp; refine (AX.out W).mono ?_; rintro e w' ⟨rfl, hx⟩; exact ⟨_, rfl, rfl, hx⟩))); refine F_put ?_
  repeat (first | refine F_s ?_ | refine F_r ?_)
  refine F_al ?_
  intro gu hgu
  simp only [List.mem_cons, List.mem_range, not_or, Nat.not_lt] at hgu
  refine F_w (fun W => _) (fun W hW => hW) ?_
  repeat (first | refine F_s ?_ | refine F_r ?_)
  rintro V1 ⟨⟨⟨hx, hz1, hc1⟩, bk⟩, _⟩
  obtain ⟨x0, x1, x2, x3, hlu⟩ := cellsQ bk
  replace ex' := Ext.step ex' hx
  have hl0 : w.heap.size + 1 < V1.heap.size := by omega
  have hl1 : w.heap.size < V1.heap.size := by omega
  clear hx bk hk_w1_0 hk_w1_1 hf_w1_0 hf_w1_1 hk_w2_0 hk_w2_1 hf_w2_0 hf_w2_1 hKeep
  go_upto_region 4 with (fail)
  refine wp_KB (V1.heap.size) (fun W => Ext V1 W ∧ V1.heap.size ≤ W.heap.size ∧ W.cell? ⟨w.heap.size, 0, none⟩ = some (.int .i64 k) ∧ W.cell? ⟨w.heap.size, 1, none⟩ = some (.int .i64 ax) ∧ W.cell? ⟨w.heap.size, 2, none⟩ = some (.int .i64 ay) ∧ W.cell? ⟨w.heap.size, 3, none⟩ = some (.int .i64 bx) ∧ W.cell? ⟨w.heap.size, 4, none⟩ = some (.int .i64 by') ∧ W.cell? ⟨w.heap.size, 5, none⟩ = some (.int .i64 cx) ∧ W.cell? ⟨w.heap.size, 6, none⟩ = some (.int .i64 cy) ∧ W.cell? ⟨w.heap.size + 1, 0, none⟩ = some (.int .i64 k') ∧ W.cell? ⟨w.heap.size + 1, 1, none⟩ = some (.int .i64 dx) ∧ W.cell? ⟨w.heap.size + 1, 2, none⟩ = some (.int .i64 dy) ∧ W.cell? ⟨w.heap.size + 1, 3, none⟩ = some (.int .i64 ex) ∧ W.cell? ⟨w.heap.size + 1, 4, none⟩ = some (.int .i64 ey) ∧ W.cell? ⟨w.heap.size + 1, 5, none⟩ = some (.int .i64 fx) ∧ W.cell? ⟨w.heap.size + 1, 6, none⟩ = some (.int .i64 fy) ∧ W.cell? ⟨gu, 0, none⟩ = some (.int .i64 ux) ∧ W.cell? ⟨gu, 1, none⟩ = some (.int .i64 uy) ∧ W.cell? ⟨gu, 2, none⟩ = some (.int .i64 vx) ∧ W.cell? ⟨gu, 3, none⟩ = some (.int .i64 vy)) ?_
  intro hKeep
  repeat (first | refine F_s ?_ | refine F_r ?_)
  (refine F_call (v := .agg #[.int .i64 sx, .int .i64 sy, .int .i64 tx, .int .i64 ty]) (by rfl) (by rfl) ?_ ?_; (· (intro W hW; (try dsimp only at hW); go_simp; refine (AY.out W).mono ?_; rintro e w' ⟨rfl, hx⟩; exact ⟨_, rfl, rfl, hx⟩))); refine F_put ?_
  repeat (first | refine F_s ?_ | refine F_r ?_)
  refine F_al ?_
  intro gv hgv
  simp only [List.mem_cons, List.mem_range, not_or, Nat.not_lt] at hgv
  refine F_w (fun W => _) (fun W hW => hW) ?_
  repeat (first | refine F_s ?_ | refine F_r ?_)
  rintro V2 ⟨⟨⟨hx, hz2, hc2⟩, bk⟩, _⟩
  obtain ⟨y0, y1, y2, y3, hlv⟩ := cellsQ bk
  replace ex' := Ext.step ex' hx
  have hlu2 : gu < V2.heap.size := Nat.lt_of_lt_of_le hlu hx.size
  have hl02 : w.heap.size + 1 < V2.heap.size := by omega
  have hl12 : w.heap.size < V2.heap.size := by omega
  clear bk x0 x1 x2 x3 hc1 hKeep hgv hgu hx hlu hl0 hl1
  by_cases hrq : r = q
  · have rqb : (r == q) = true := by simpa using hrq
    rw [rqb, sameZ_true] at hR'
    obtain ⟨T, TT⟩ : ∃ T, Hid (b01 o1 + b01 o2 + b01 o3 + b01 o4 = T) := ⟨_, rfl⟩
    rw [TT.out] at hR'
    have HR := Lib.hid hR'
    have rqn : (r != q) = false := by simpa using hrq
    clear hrq hR'
    go_wp2_with fail
    have HC : Hid (∀ W, Ext V2 W → (W.cell? ⟨gu, 0, none⟩ = some (.int .i64 ux) ∧ W.cell? ⟨gu, 1, none⟩ = some (.int .i64 uy) ∧ W.cell? ⟨gu, 2, none⟩ = some (.int .i64 vx) ∧ W.cell? ⟨gu, 3, none⟩ = some (.int .i64 vy) ∧ W.cell? ⟨gv, 0, none⟩ = some (.int .i64 sx) ∧ W.cell? ⟨gv, 1, none⟩ = some (.int .i64 sy) ∧ W.cell? ⟨gv, 2, none⟩ = some (.int .i64 tx) ∧ W.cell? ⟨gv, 3, none⟩ = some (.int .i64 ty) )) := Lib.hid (fun W hx => by
      have hbc : ∀ b o, b < V2.heap.size → W.cell? ⟨b, o, none⟩ = V2.cell? ⟨b, o, none⟩ := fun b o h => hx.cell (p := ⟨b, o, none⟩) h
      simp (disch := omega) only [hbc]
      go_simp)
    clear hc2 y0 y1 y2 y3
    go_loopw [9, 10] (fun nv kv wr => ∃ n i : Int, nv = .int .i64 n ∧ kv = .int .i64 i ∧ ((i = 0 ∧ n = 0) ∨ (i = 1 ∧ n = b01 o1) ∨ (i = 2 ∧ n = b01 o1 + b01 o2) ∨ (i = 3 ∧ n = b01 o1 + b01 o2 + b01 o3) ∨ (i = 4 ∧ n = T)) ∧ Ext V2 wr) (fun _ kv _ => (4 - intOf kv).toNat)
    case atStart => exact ⟨0, 0, rfl, rfl, .inl ⟨rfl, rfl⟩, Below.refl _ _⟩
    case round =>
      obtain ⟨n, i, rfl, rfl, hin, hv⟩ := hrel
      have hcr := HC.out wr hv
      have q1 := Nat.lt_of_lt_of_le hlu2 hv.size
      have q2 := Nat.lt_of_lt_of_le hlv hv.size
      have bo1 := b01_bd o1
      have bo2 := b01_bd o2
      have bo3 := b01_bd o3
      have bo4 := b01_bd o4
      have wn : IntKind.i64.wrap (n + 1) = n + 1 := wrap_in (by have := TT.out; unfold I64; omega)
      rcases hin with ⟨rfl, hn⟩ | ⟨rfl, hn⟩ | ⟨rfl, hn⟩ | ⟨rfl, hn⟩ | ⟨rfl, hn⟩
      · have HN := Lib.hid hn
        have H4 := Lib.hid TT.out
        clear hn bo1 bo2 bo3 bo4
        have wr0 : IntKind.i64.wrap 0 = 0 := by decide
        have wr1 : IntKind.i64.wrap 1 = 1 := by decide
        go_upto_region 12 with (fail)
        refine wp_FS (fun W => W.cell? ⟨gu, 0, none⟩ = some (.int .i64 ux) ∧ W.cell? ⟨gu, 1, none⟩ = some (.int .i64 uy) ∧ W.cell? ⟨gu, 2, none⟩ = some (.int .i64 vx) ∧ W.cell? ⟨gu, 3, none⟩ = some (.int .i64 vy) ∧ W.cell? ⟨gv, 0, none⟩ = some (.int .i64 sx) ∧ W.cell? ⟨gv, 1, none⟩ = some (.int .i64 sy) ∧ W.cell? ⟨gv, 2, none⟩ = some (.int .i64 tx) ∧ W.cell? ⟨gv, 3, none⟩ = some (.int .i64 ty)) ?_
        repeat (first | refine F_s ?_ | refine F_r ?_)
        rintro W2 ⟨hx, _⟩
        replace hv := Ext.step hv hx
        clear hx hcr q1 q2
        cases o1
        · go_wp2_with fail
          exact ⟨⟨n, 1, rfl, rfl, by have h := HN.out; have h4 := H4.out; have e0 : b01 false = 0 := rfl; omega, hv⟩, by simp [intOf]⟩
        · go_wp2_with fail
          exact ⟨⟨n + 1, 1, rfl, rfl, by have h := HN.out; have h4 := H4.out; have e1 : b01 true = 1 := rfl; omega, hv⟩, by simp [intOf]⟩
      · have HN := Lib.hid hn
        have H4 := Lib.hid TT.out
        clear hn bo1 bo2 bo3 bo4
        have wr0 : IntKind.i64.wrap 0 = 0 := by decide
        have wr1 : IntKind.i64.wrap 1 = 1 := by decide
        go_upto_region 12 with (fail)
        refine wp_FS (fun W => W.cell? ⟨gu, 0, none⟩ = some (.int .i64 ux) ∧ W.cell? ⟨gu, 1, none⟩ = some (.int .i64 uy) ∧ W.cell? ⟨gu, 2, none⟩ = some (.int .i64 vx) ∧ W.cell? ⟨gu, 3, none⟩ = some (.int .i64 vy) ∧ W.cell? ⟨gv, 0, none⟩ = some (.int .i64 sx) ∧ W.cell? ⟨gv, 1, none⟩ = some (.int .i64 sy) ∧ W.cell? ⟨gv, 2, none⟩ = some (.int .i64 tx) ∧ W.cell? ⟨gv, 3, none⟩ = some (.int .i64 ty)) ?_
        repeat (first | refine F_s ?_ | refine F_r ?_)
        rintro W2 ⟨hx, _⟩
        replace hv := Ext.step hv hx
        clear hx hcr q1 q2
        cases o2
        · go_wp2_with fail
          exact ⟨⟨n, 2, rfl, rfl, by have h := HN.out; have h4 := H4.out; have e0 : b01 false = 0 := rfl; omega, hv⟩, by simp [intOf]⟩
        · go_wp2_with fail
          exact ⟨⟨n + 1, 2, rfl, rfl, by have h := HN.out; have h4 := H4.out; have e1 : b01 true = 1 := rfl; omega, hv⟩, by simp [intOf]⟩
      · have HN := Lib.hid hn
        have H4 := Lib.hid TT.out
        clear hn bo1 bo2 bo3 bo4
        have wr0 : IntKind.i64.wrap 0 = 0 := by decide
        have wr1 : IntKind.i64.wrap 1 = 1 := by decide
        go_upto_region 12 with (fail)
        refine wp_FS (fun W => W.cell? ⟨gu, 0, none⟩ = some (.int .i64 ux) ∧ W.cell? ⟨gu, 1, none⟩ = some (.int .i64 uy) ∧ W.cell? ⟨gu, 2, none⟩ = some (.int .i64 vx) ∧ W.cell? ⟨gu, 3, none⟩ = some (.int .i64 vy) ∧ W.cell? ⟨gv, 0, none⟩ = some (.int .i64 sx) ∧ W.cell? ⟨gv, 1, none⟩ = some (.int .i64 sy) ∧ W.cell? ⟨gv, 2, none⟩ = some (.int .i64 tx) ∧ W.cell? ⟨gv, 3, none⟩ = some (.int .i64 ty)) ?_
        repeat (first | refine F_s ?_ | refine F_r ?_)
        rintro W2 ⟨hx, _⟩
        replace hv := Ext.step hv hx
        clear hx hcr q1 q2
        cases o3
        · go_wp2_with fail
          exact ⟨⟨n, 3, rfl, rfl, by have h := HN.out; have h4 := H4.out; have e0 : b01 false = 0 := rfl; omega, hv⟩, by simp [intOf]⟩
        · go_wp2_with fail
          exact ⟨⟨n + 1, 3, rfl, rfl, by have h := HN.out; have h4 := H4.out; have e1 : b01 true = 1 := rfl; omega, hv⟩, by simp [intOf]⟩
      · have HN := Lib.hid hn
        have H4 := Lib.hid TT.out
        clear hn bo1 bo2 bo3 bo4
        have wr0 : IntKind.i64.wrap 0 = 0 := by decide
        have wr1 : IntKind.i64.wrap 1 = 1 := by decide
        go_upto_region 12 with (fail)
        refine wp_FS (fun W => W.cell? ⟨gu, 0, none⟩ = some (.int .i64 ux) ∧ W.cell? ⟨gu, 1, none⟩ = some (.int .i64 uy) ∧ W.cell? ⟨gu, 2, none⟩ = some (.int .i64 vx) ∧ W.cell? ⟨gu, 3, none⟩ = some (.int .i64 vy) ∧ W.cell? ⟨gv, 0, none⟩ = some (.int .i64 sx) ∧ W.cell? ⟨gv, 1, none⟩ = some (.int .i64 sy) ∧ W.cell? ⟨gv, 2, none⟩ = some (.int .i64 tx) ∧ W.cell? ⟨gv, 3, none⟩ = some (.int .i64 ty)) ?_
        repeat (first | refine F_s ?_ | refine F_r ?_)
        rintro W2 ⟨hx, _⟩
        replace hv := Ext.step hv hx
        clear hx hcr q1 q2
        cases o4
        · go_wp2_with fail
          exact ⟨⟨n, 4, rfl, rfl, by have h := HN.out; have h4 := H4.out; have e0 : b01 false = 0 := rfl; omega, hv⟩, by simp [intOf]⟩
        · go_wp2_with fail
          exact ⟨⟨n + 1, 4, rfl, rfl, by have h := HN.out; have h4 := H4.out; have e1 : b01 true = 1 := rfl; omega, hv⟩, by simp [intOf]⟩
      · subst hn
        replace ex' := Ext.step ex' hv
        clear hcr q1 q2 bo1 bo2 bo3 bo4 wn hv TT
        by_cases h2 : n = 2
        · have e2 := HR.out
          rw [if_pos h2] at e2
          subst h2 e2
          clear HR
          go_wp2
          go_ret
          exact ⟨rfl, ex'⟩
        · have e2 := HR.out
          rw [if_neg h2] at e2
          have nb : (n == 2) = false := by simpa using h2
          subst e2
          clear h2 HR
          go_wp2
          go_ret
          exact ⟨rfl, ex'⟩
  · have rqb : (r == q) = false := by simpa using hrq
    have rqn : (r != q) = true := by simpa using hrq
    rw [rqb, sameZ_false] at hR'
    subst hR'
    clear hrq
    go_wp2
    go_ret
    exact ⟨rfl, ex'⟩
set_option maxRecDepth 100000 in
set_option maxHeartbeats 16000000 in
theorem r07_arcs_apart (k ax ay bx by' cx cy k' dx dy ex ey fx fy : Int) (w : World) (he : (Ed.mk k ax ay bx by' cx cy).ok = true) (hf : (Ed.mk k' dx dy ex ey fx fy).ok = true) (hk : ¬ k = 1) (hk' : ¬ k' = 1) (hc : ¬ (cx = fx ∧ cy = fy)) (R : Int) (hR : arcsZ (Ed.mk k ax ay bx by' cx cy) (Ed.mk k' dx dy ex ey fx fy) = R) :
    Calls Tryz.prog 26 #[.agg #[.int .i64 k, .int .i64 ax, .int .i64 ay, .int .i64 bx, .int .i64 by', .int .i64 cx, .int .i64 cy], .agg #[.int .i64 k', .int .i64 dx, .int .i64 dy, .int .i64 ex, .int .i64 ey, .int .i64 fx, .int .i64 fy]] w fun e w' => e = .returned (.int .i64 R) ∧ Ext w w' := by
  obtain ⟨hr, hux, huy, hvx, hvy⟩ := arc_di he hk
  obtain ⟨hq, hsx, hsy, htx, hty⟩ := arc_di hf hk'
  have AX := fun ux uy vx vy e1 e2 e3 e4 w => r07_axes k ax ay bx by' cx cy w he hk ux uy vx vy e1 e2 e3 e4
  have AY := fun ux uy vx vy e1 e2 e3 e4 w => r07_axes k' dx dy ex ey fx fy w hf hk' ux uy vx vy e1 e2 e3 e4
  have RA := fun w => r06_Radius k ax ay bx by' cx cy w
  have RB := fun w => r06_Radius k' dx dy ex ey fx fy w
  obtain ⟨ux, UX⟩ : ∃ z, Hid (Ed.ux (Ed.mk k ax ay bx by' cx cy) = z) := ⟨_, rfl⟩
  obtain ⟨uy, UY⟩ : ∃ z, Hid (Ed.uy (Ed.mk k ax ay bx by' cx cy) = z) := ⟨_, rfl⟩
  obtain ⟨vx, VX⟩ : ∃ z, Hid (Ed.vx (Ed.mk k ax ay bx by' cx cy) = z) := ⟨_, rfl⟩
  obtain ⟨vy, VY⟩ : ∃ z, Hid (Ed.vy (Ed.mk k ax ay bx by' cx cy) = z) := ⟨_, rfl⟩
  obtain ⟨sx, SX⟩ : ∃ z, Hid (Ed.ux (Ed.mk k' dx dy ex ey fx fy) = z) := ⟨_, rfl⟩
  obtain ⟨sy, SY⟩ : ∃ z, Hid (Ed.uy (Ed.mk k' dx dy ex ey fx fy) = z) := ⟨_, rfl⟩
  obtain ⟨tx, TX⟩ : ∃ z, Hid (Ed.vx (Ed.mk k' dx dy ex ey fx fy) = z) := ⟨_, rfl⟩
  obtain ⟨ty, TY⟩ : ∃ z, Hid (Ed.vy (Ed.mk k' dx dy ex ey fx fy) = z) := ⟨_, rfl⟩
  obtain ⟨r, RR⟩ : ∃ z, Hid (radZ (Ed.mk k ax ay bx by' cx cy) = z) := ⟨_, rfl⟩
  obtain ⟨q, QQ⟩ : ∃ z, Hid (radZ (Ed.mk k' dx dy ex ey fx fy) = z) := ⟨_, rfl⟩
  replace AX := Lib.hid (AX ux uy vx vy UX.out UY.out VX.out VY.out)
  replace AY := Lib.hid (AY sx sy tx ty SX.out SY.out TX.out TY.out)
  rw [UX.out] at hux
  rw [UY.out] at huy
  rw [VX.out] at hvx
  rw [VY.out] at hvy
  rw [SX.out] at hsx
  rw [SY.out] at hsy
  rw [TX.out] at htx
  rw [TY.out] at hty
  rw [RR.out] at hr RA
  rw [QQ.out] at hq RB
  replace RA := Lib.hid RA
  replace RB := Lib.hid RB
  obtain ⟨_, _, h1, h2⟩ := ok_right he
  obtain ⟨_, _, h3, h4⟩ := ok_right hf
  simp only at h1 h2 h3 h4
  have hR' := hR
  unfold arcsZ at hR'
  rw [if_neg hc] at hR'
  unfold aaE at hR'
  simp only at hR'
  rw [UX.out, UY.out, VX.out, VY.out, SX.out, SY.out, TX.out, TY.out, RR.out, QQ.out] at hR'
  have hcb : (cx == fx && cy == fy) = false := by rw [Bool.eq_false_iff]; simpa using hc
  have heq : ∀ w : World, (binOp .eql 25 (.agg #[.int .i64 cx, .int .i64 cy]) (.agg #[.int .i64 fx, .int .i64 fy])).run Tryz.prog w = .ok (.bool false) w := fun w => by rw [eql_pt, hcb]
  have DX := h3.sub h1
  have DY := h4.sub h2
  have SD := Lib.hid (fun w => r05_Sub fx fy cx cy w DX.i64 DY.i64)
  obtain ⟨Dx, HDX⟩ : ∃ z, Hid (fx - cx = z) := ⟨_, rfl⟩
  obtain ⟨Dy, HDY⟩ : ∃ z, Hid (fy - cy = z) := ⟨_, rfl⟩
  rw [HDX.out] at DX hR' SD
  rw [HDY.out] at DY hR' SD
  have NY : Di (-Dy) := by unfold Di at *; omega
  have wny : IntKind.i64.wrap (-Dy) = -Dy := wrap_in NY.i64
  obtain ⟨Ny, HNY⟩ : ∃ z, Hid (-Dy = z) := ⟨_, rfl⟩
  rw [HNY.out] at NY hR'
  have wny' : IntKind.i64.wrap (-Dy) = Ny := wny.trans HNY.out
  clear hR he hf hk hk' UX UY VX VY SX SY TX TY RR QQ hcb hc h1 h2 h3 h4 HDX HDY wny HNY
  have DD := fun w => r05_Dot Dx Dy Dx Dy w (DX.mul64 DX) (DY.mul64 DY) (DX.dot DX DY DY)
  have iS := DX.dot DX DY DY
  obtain ⟨S, hS⟩ : ∃ z, Hid (Dx * Dx + Dy * Dy = z) := ⟨_, rfl⟩
  rw [hS.out] at DD iS hR'
  replace DD := Lib.hid DD
  replace iS := Lib.hid iS
  have ir := Lib.hid hr.i64
  have iq := Lib.hid hq.i64
  have Cdu := fun w => r05_Dot Dx Dy ux uy w (DX.mul64 hux) (DY.mul64 huy) (DX.dot hux DY huy)
  have idu := DX.dot hux DY huy
  obtain ⟨du, hdu⟩ : ∃ z, Hid (Dx * ux + Dy * uy = z) := ⟨_, rfl⟩
  rw [hdu.out] at Cdu idu hR'
  replace Cdu := Lib.hid Cdu
  replace idu := Lib.hid idu
  have Cpu := fun w => r05_Dot Ny Dx ux uy w (NY.mul64 hux) (DX.mul64 huy) (NY.dot hux DX huy)
  have ipu := NY.dot hux DX huy
  obtain ⟨pu, hpu⟩ : ∃ z, Hid (Ny * ux + Dx * uy = z) := ⟨_, rfl⟩
  rw [hpu.out] at Cpu ipu hR'
  replace Cpu := Lib.hid Cpu
  replace ipu := Lib.hid ipu
  have Cdv := fun w => r05_Dot Dx Dy vx vy w (DX.mul64 hvx) (DY.mul64 hvy) (DX.dot hvx DY hvy)
  have idv := DX.dot hvx DY hvy
  obtain ⟨dv, hdv⟩ : ∃ z, Hid (Dx * vx + Dy * vy = z) := ⟨_, rfl⟩
  rw [hdv.out] at Cdv idv hR'
  replace Cdv := Lib.hid Cdv
  replace idv := Lib.hid idv
  have Cpv := fun w => r05_Dot Ny Dx vx vy w (NY.mul64 hvx) (DX.mul64 hvy) (NY.dot hvx DX hvy)
  have ipv := NY.dot hvx DX hvy
  obtain ⟨pv, hpv⟩ : ∃ z, Hid (Ny * vx + Dx * vy = z) := ⟨_, rfl⟩
  rw [hpv.out] at Cpv ipv hR'
  replace Cpv := Lib.hid Cpv
  replace ipv := Lib.hid ipv
  have Cds := fun w => r05_Dot Dx Dy sx sy w (DX.mul64 hsx) (DY.mul64 hsy) (DX.dot hsx DY hsy)
  have ids := DX.dot hsx DY hsy
  obtain ⟨ds, hds⟩ : ∃ z, Hid (Dx * sx + Dy * sy = z) := ⟨_, rfl⟩
  rw [hds.out] at Cds ids hR'
  replace Cds := Lib.hid Cds
  replace ids := Lib.hid ids
  have Cps := fun w => r05_Dot Ny Dx sx sy w (NY.mul64 hsx) (DX.mul64 hsy) (NY.dot hsx DX hsy)
  have ips := NY.dot hsx DX hsy
  obtain ⟨ps, hps⟩ : ∃ z, Hid (Ny * sx + Dx * sy = z) := ⟨_, rfl⟩
  rw [hps.out] at Cps ips hR'
  replace Cps := Lib.hid Cps
  replace ips := Lib.hid ips
  have Cdt := fun w => r05_Dot Dx Dy tx ty w (DX.mul64 htx) (DY.mul64 hty) (DX.dot htx DY hty)
  have idt := DX.dot htx DY hty
  obtain ⟨dt, hdt⟩ : ∃ z, Hid (Dx * tx + Dy * ty = z) := ⟨_, rfl⟩
  rw [hdt.out] at Cdt idt hR'
  replace Cdt := Lib.hid Cdt
  replace idt := Lib.hid idt
  have Cpt := fun w => r05_Dot Ny Dx tx ty w (NY.mul64 htx) (DX.mul64 hty) (NY.dot htx DX hty)
  have ipt := NY.dot htx DX hty
  obtain ⟨pt, hpt⟩ : ∃ z, Hid (Ny * tx + Dx * ty = z) := ⟨_, rfl⟩
  rw [hpt.out] at Cpt ipt hR'
  replace Cpt := Lib.hid Cpt
  replace ipt := Lib.hid ipt
  clear DX DY NY hS hr hq hux huy hdu hpu hvx hvy hdv hpv hsx hsy hds hps htx hty hdt hpt
  obtain ⟨rr, Err⟩ : ∃ z, Hid (r * r = z) := ⟨_, rfl⟩
  obtain ⟨qq, Eqq⟩ : ∃ z, Hid (q * q = z) := ⟨_, rfl⟩
  obtain ⟨df, Edf⟩ : ∃ z, Hid (qq - rr = z) := ⟨_, rfl⟩
  obtain ⟨K, EK⟩ : ∃ z, Hid (S - df = z) := ⟨_, rfl⟩
  obtain ⟨T2, ET2⟩ : ∃ z, Hid (2 * S = z) := ⟨_, rfl⟩
  obtain ⟨T4, ET4⟩ : ∃ z, Hid (T2 * 2 = z) := ⟨_, rfl⟩
  obtain ⟨TR, ETR⟩ : ∃ z, Hid (T4 * rr = z) := ⟨_, rfl⟩
  obtain ⟨KK, EKK⟩ : ∃ z, Hid (K * K = z) := ⟨_, rfl⟩
  obtain ⟨dl, Edl⟩ : ∃ z, Hid (TR - KK = z) := ⟨_, rfl⟩
  obtain ⟨km, Ekm⟩ : ∃ z, Hid (K - T2 = z) := ⟨_, rfl⟩
  obtain ⟨mu, Emu⟩ : ∃ z, Hid (K * du = z) := ⟨_, rfl⟩
  obtain ⟨mv, Emv⟩ : ∃ z, Hid (K * dv = z) := ⟨_, rfl⟩
  obtain ⟨ms, Ems⟩ : ∃ z, Hid (km * ds = z) := ⟨_, rfl⟩
  obtain ⟨mt, Emt⟩ : ∃ z, Hid (km * dt = z) := ⟨_, rfl⟩
  have wS : Hid (Wd 2 S) := Wd.of64 iS.out
  have wr : Hid (Wd 2 r) := Wd.of64 ir.out
  have wq : Hid (Wd 2 q) := Wd.of64 iq.out
  have wdu : Hid (Wd 2 du) := Wd.of64 idu.out
  have wpu : Hid (Wd 2 pu) := Wd.of64 ipu.out
  have wdv : Hid (Wd 2 dv) := Wd.of64 idv.out
  have wpv : Hid (Wd 2 pv) := Wd.of64 ipv.out
  have wds : Hid (Wd 2 ds) := Wd.of64 ids.out
  have wps : Hid (Wd 2 ps) := Wd.of64 ips.out
  have wdt : Hid (Wd 2 dt) := Wd.of64 idt.out
  have wpt : Hid (Wd 2 pt) := Wd.of64 ipt.out
  have wtwo : Hid (Wd 1 2) := by show Wd 1 2; unfold Wd; decide
  have wrr : Hid (Wd 4 rr) := by show Wd 4 rr; rw [← Err.out]; exact wr.out.mul wr.out
  have wqq : Hid (Wd 4 qq) := by show Wd 4 qq; rw [← Eqq.out]; exact wq.out.mul wq.out
  have wdf : Hid (Wd 5 df) := by show Wd 5 df; rw [← Edf.out]; exact Wd.sub (a := 4) (wqq.out.mono (by omega)) (wrr.out.mono (by omega))
  have wK : Hid (Wd 6 K) := by show Wd 6 K; rw [← EK.out]; exact Wd.sub (a := 5) (wS.out.mono (by omega)) (wdf.out.mono (by omega))
  have wT2 : Hid (Wd 3 T2) := by show Wd 3 T2; rw [← ET2.out]; exact wtwo.out.mul wS.out
  have wT4 : Hid (Wd 4 T4) := by show Wd 4 T4; rw [← ET4.out]; exact wT2.out.mul wtwo.out
  have wTR : Hid (Wd 8 TR) := by show Wd 8 TR; rw [← ETR.out]; exact wT4.out.mul wrr.out
  have wKK : Hid (Wd 12 KK) := by show Wd 12 KK; rw [← EKK.out]; exact wK.out.mul wK.out
  have wdl : Hid (Wd 13 dl) := by show Wd 13 dl; rw [← Edl.out]; exact Wd.sub (a := 12) (wTR.out.mono (by omega)) (wKK.out.mono (by omega))
  have wkm : Hid (Wd 7 km) := by show Wd 7 km; rw [← Ekm.out]; exact Wd.sub (a := 6) (wK.out.mono (by omega)) (wT2.out.mono (by omega))
  have wmu : Hid (Wd 8 mu) := by show Wd 8 mu; rw [← Emu.out]; exact wK.out.mul wdu.out
  have wmv : Hid (Wd 8 mv) := by show Wd 8 mv; rw [← Emv.out]; exact wK.out.mul wdv.out
  have wms : Hid (Wd 9 ms) := by show Wd 9 ms; rw [← Ems.out]; exact wkm.out.mul wds.out
  have wmt : Hid (Wd 9 mt) := by show Wd 9 mt; rw [← Emt.out]; exact wkm.out.mul wdt.out
  obtain ⟨ga, GA⟩ : ∃ b, Hid (goodS dl (-1) [(mu, pu), (mv, pv), (ms, ps), (mt, pt)] = b) := ⟨_, rfl⟩
  obtain ⟨gb, GB⟩ : ∃ b, Hid (goodS dl 1 [(mu, pu), (mv, pv), (ms, ps), (mt, pt)] = b) := ⟨_, rfl⟩
  have RES : Hid (R = if dl < 0 then 0 else if dl = 0 then b01 ga else b01 ga + b01 gb) := by
    show R = _
    rw [← hR', ← countZ_ref GA.out GB.out]
    unfold AA.delta AA.list AA.k
    simp only
    rw [Err.out, Eqq.out, Edf.out, EK.out, show 4 * S = T4 by rw [← ET4.out, ← ET2.out]; omega, ETR.out, EKK.out, Edl.out, ET2.out, Ekm.out, Emu.out, Emv.out, Ems.out, Emt.out]
  clear hR'
  go_enter Tryz.func26, Tryz.ntmps26
  go_wp2_with fail
  refine (RA.out _).mono ?_
  rintro e w1 ⟨rfl, hx⟩
  have ex' : Ext w w1 := Ext.step bxx hx
  have hz_w1 : w.heap.size + 2 ≤ w1.heap.size := Nat.le_trans omm hx.size
  obtain ⟨hl_w1_0, hk_w1_0, hf_w1_0⟩ := extK hx (w.heap.size)
  obtain ⟨hl_w1_1, hk_w1_1, hf_w1_1⟩ := extK hx (w.heap.size + 1)
  clear hx
  go_wp2_with fail
  refine (RB.out _).mono ?_
  rintro e w2 ⟨rfl, hx⟩
  replace ex' := Ext.step ex' hx
  have hz_w2 : w.heap.size + 2 ≤ w2.heap.size := Nat.le_trans omm hx.size
  obtain ⟨hl_w2_0, hk_w2_0, hf_w2_0⟩ := extK hx (w.heap.size)
  obtain ⟨hl_w2_1, hk_w2_1, hf_w2_1⟩ := extK hx (w.heap.size + 1)
  clear hx
  go_upto_region 3 with (fail)
  refine wp_KB (w2.heap.size) (fun W => Ext w2 W ∧ w2.heap.size ≤ W.heap.size ∧ W.cell? ⟨w.heap.size, 0, none⟩ = some (.int .i64 k) ∧ W.cell? ⟨w.heap.size, 1, none⟩ = some (.int .i64 ax) ∧ W.cell? ⟨w.heap.size, 2, none⟩ = some (.int .i64 ay) ∧ W.cell? ⟨w.heap.size, 3, none⟩ = some (.int .i64 bx) ∧ W.cell? ⟨w.heap.size, 4, none⟩ = some (.int .i64 by') ∧ W.cell? ⟨w.heap.size, 5, none⟩ = some (.int .i64 cx) ∧ W.cell? ⟨w.heap.size, 6, none⟩ = some (.int .i64 cy) ∧ W.cell? ⟨w.heap.size + 1, 0, none⟩ = some (.int .i64 k') ∧ W.cell? ⟨w.heap.size + 1, 1, none⟩ = some (.int .i64 dx) ∧ W.cell? ⟨w.heap.size + 1, 2, none⟩ = some (.int .i64 dy) ∧ W.cell? ⟨w.heap.size + 1, 3, none⟩ = some (.int .i64 ex) ∧ W.cell? ⟨w.heap.size + 1, 4, none⟩ = some (.int .i64 ey) ∧ W.cell? ⟨w.heap.size + 1, 5, none⟩ = some (.int .i64 fx) ∧ W.cell? ⟨w.heap.size + 1, 6, none⟩ = some (.int .i64 fy)) ?_
  intro hKeep
  repeat (first | refine F_s ?_ | refine F_r ?_)
  (refine F_call (v := .agg #[.int .i64 ux, .int .i64 uy, .int .i64 vx, .int .i64 vy]) (by rfl) (by rfl) ?_ ?_; (· (intro W hW; (try dsimp only at hW); go_simp; refine (AX.out W).mono ?_; rintro e w' ⟨rfl, hx⟩; exact ⟨_, rfl, rfl, hx⟩))); refine F_put ?_
  repeat (first | refine F_s ?_ | refine F_r ?_)
  refine F_al ?_
  intro gu hgu
  simp only [List.mem_cons, List.mem_range, not_or, Nat.not_lt] at hgu
  refine F_w (fun W => _) (fun W hW => hW) ?_
  repeat (first | refine F_s ?_ | refine F_r ?_)
  rintro V1 ⟨⟨⟨hx, hz1, hc1⟩, bk⟩, _⟩
  obtain ⟨x0, x1, x2, x3, hlu⟩ := cellsQ bk
  replace ex' := Ext.step ex' hx
  have hl0 : w.heap.size + 1 < V1.heap.size := by omega
  have hl1 : w.heap.size < V1.heap.size := by omega
  clear hx bk hk_w1_0 hk_w1_1 hf_w1_0 hf_w1_1 hk_w2_0 hk_w2_1 hf_w2_0 hf_w2_1 hKeep
  go_upto_region 4 with (fail)
  refine wp_KB (V1.heap.size) (fun W => Ext V1 W ∧ V1.heap.size ≤ W.heap.size ∧ W.cell? ⟨w.heap.size, 0, none⟩ = some (.int .i64 k) ∧ W.cell? ⟨w.heap.size, 1, none⟩ = some (.int .i64 ax) ∧ W.cell? ⟨w.heap.size, 2, none⟩ = some (.int .i64 ay) ∧ W.cell? ⟨w.heap.size, 3, none⟩ = some (.int .i64 bx) ∧ W.cell? ⟨w.heap.size, 4, none⟩ = some (.int .i64 by') ∧ W.cell? ⟨w.heap.size, 5, none⟩ = some (.int .i64 cx) ∧ W.cell? ⟨w.heap.size, 6, none⟩ = some (.int .i64 cy) ∧ W.cell? ⟨w.heap.size + 1, 0, none⟩ = some (.int .i64 k') ∧ W.cell? ⟨w.heap.size + 1, 1, none⟩ = some (.int .i64 dx) ∧ W.cell? ⟨w.heap.size + 1, 2, none⟩ = some (.int .i64 dy) ∧ W.cell? ⟨w.heap.size + 1, 3, none⟩ = some (.int .i64 ex) ∧ W.cell? ⟨w.heap.size + 1, 4, none⟩ = some (.int .i64 ey) ∧ W.cell? ⟨w.heap.size + 1, 5, none⟩ = some (.int .i64 fx) ∧ W.cell? ⟨w.heap.size + 1, 6, none⟩ = some (.int .i64 fy) ∧ W.cell? ⟨gu, 0, none⟩ = some (.int .i64 ux) ∧ W.cell? ⟨gu, 1, none⟩ = some (.int .i64 uy) ∧ W.cell? ⟨gu, 2, none⟩ = some (.int .i64 vx) ∧ W.cell? ⟨gu, 3, none⟩ = some (.int .i64 vy)) ?_
  intro hKeep
  repeat (first | refine F_s ?_ | refine F_r ?_)
  (refine F_call (v := .agg #[.int .i64 sx, .int .i64 sy, .int .i64 tx, .int .i64 ty]) (by rfl) (by rfl) ?_ ?_; (· (intro W hW; (try dsimp only at hW); go_simp; refine (AY.out W).mono ?_; rintro e w' ⟨rfl, hx⟩; exact ⟨_, rfl, rfl, hx⟩))); refine F_put ?_
  repeat (first | refine F_s ?_ | refine F_r ?_)
  refine F_al ?_
  intro gv hgv
  simp only [List.mem_cons, List.mem_range, not_or, Nat.not_lt] at hgv
  refine F_w (fun W => _) (fun W hW => hW) ?_
  repeat (first | refine F_s ?_ | refine F_r ?_)
  rintro V2 ⟨⟨⟨hx, hz2, hc2⟩, bk⟩, _⟩
  obtain ⟨y0, y1, y2, y3, hlv⟩ := cellsQ bk
  replace ex' := Ext.step ex' hx
  have hlu2 : gu < V2.heap.size := Nat.lt_of_lt_of_le hlu hx.size
  have hl02 : w.heap.size + 1 < V2.heap.size := by omega
  have hl12 : w.heap.size < V2.heap.size := by omega
  clear bk x0 x1 x2 x3 hc1 hKeep hgv hgu hx hlu hl0 hl1
  go_upto_region 17 with (fail)
  refine wp_KB (V2.heap.size) (fun W => Ext V2 W ∧ V2.heap.size ≤ W.heap.size ∧ W.cell? ⟨w.heap.size, 0, none⟩ = some (.int .i64 k) ∧ W.cell? ⟨w.heap.size, 1, none⟩ = some (.int .i64 ax) ∧ W.cell? ⟨w.heap.size, 2, none⟩ = some (.int .i64 ay) ∧ W.cell? ⟨w.heap.size, 3, none⟩ = some (.int .i64 bx) ∧ W.cell? ⟨w.heap.size, 4, none⟩ = some (.int .i64 by') ∧ W.cell? ⟨w.heap.size, 5, none⟩ = some (.int .i64 cx) ∧ W.cell? ⟨w.heap.size, 6, none⟩ = some (.int .i64 cy) ∧ W.cell? ⟨w.heap.size + 1, 0, none⟩ = some (.int .i64 k') ∧ W.cell? ⟨w.heap.size + 1, 1, none⟩ = some (.int .i64 dx) ∧ W.cell? ⟨w.heap.size + 1, 2, none⟩ = some (.int .i64 dy) ∧ W.cell? ⟨w.heap.size + 1, 3, none⟩ = some (.int .i64 ex) ∧ W.cell? ⟨w.heap.size + 1, 4, none⟩ = some (.int .i64 ey) ∧ W.cell? ⟨w.heap.size + 1, 5, none⟩ = some (.int .i64 fx) ∧ W.cell? ⟨w.heap.size + 1, 6, none⟩ = some (.int .i64 fy) ∧ W.cell? ⟨gu, 0, none⟩ = some (.int .i64 ux) ∧ W.cell? ⟨gu, 1, none⟩ = some (.int .i64 uy) ∧ W.cell? ⟨gu, 2, none⟩ = some (.int .i64 vx) ∧ W.cell? ⟨gu, 3, none⟩ = some (.int .i64 vy) ∧ W.cell? ⟨gv, 0, none⟩ = some (.int .i64 sx) ∧ W.cell? ⟨gv, 1, none⟩ = some (.int .i64 sy) ∧ W.cell? ⟨gv, 2, none⟩ = some (.int .i64 tx) ∧ W.cell? ⟨gv, 3, none⟩ = some (.int .i64 ty)) ?_
  intro hKeep
  repeat (first | refine F_s ?_ | refine F_r ?_)
  (refine F_call (v := .agg #[.int .i64 Dx, .int .i64 Dy]) (by rfl) (by rfl) ?_ ?_; (· (intro W hW; (try dsimp only at hW); go_simp; refine (SD.out W).mono ?_; rintro e w' ⟨rfl, hx⟩; exact ⟨_, rfl, rfl, hx⟩))); refine F_put ?_
  repeat (first | refine F_s ?_ | refine F_r ?_)
  refine F_al ?_
  intro gd hgd
  simp only [List.mem_cons, List.mem_range, not_or, Nat.not_lt] at hgd
  refine F_w (fun W => _) (fun W hW => hW) ?_
  repeat (first | refine F_s ?_ | refine F_r ?_)
  rintro V3 ⟨⟨⟨hx, hz3, hc3⟩, bk⟩, _⟩
  obtain ⟨e0, e1, _, hld⟩ := pt_block bk
  replace ex' := Ext.step ex' hx
  clear bk y0 y1 y2 y3 hc2 hKeep hgd hx
  go_upto_region 18 with (fail)
  refine wp_KB (V3.heap.size) (fun W => Ext V3 W ∧ V3.heap.size ≤ W.heap.size ∧ W.cell? ⟨w.heap.size, 0, none⟩ = some (.int .i64 k) ∧ W.cell? ⟨w.heap.size, 1, none⟩ = some (.int .i64 ax) ∧ W.cell? ⟨w.heap.size, 2, none⟩ = some (.int .i64 ay) ∧ W.cell? ⟨w.heap.size, 3, none⟩ = some (.int .i64 bx) ∧ W.cell? ⟨w.heap.size, 4, none⟩ = some (.int .i64 by') ∧ W.cell? ⟨w.heap.size, 5, none⟩ = some (.int .i64 cx) ∧ W.cell? ⟨w.heap.size, 6, none⟩ = some (.int .i64 cy) ∧ W.cell? ⟨w.heap.size + 1, 0, none⟩ = some (.int .i64 k') ∧ W.cell? ⟨w.heap.size + 1, 1, none⟩ = some (.int .i64 dx) ∧ W.cell? ⟨w.heap.size + 1, 2, none⟩ = some (.int .i64 dy) ∧ W.cell? ⟨w.heap.size + 1, 3, none⟩ = some (.int .i64 ex) ∧ W.cell? ⟨w.heap.size + 1, 4, none⟩ = some (.int .i64 ey) ∧ W.cell? ⟨w.heap.size + 1, 5, none⟩ = some (.int .i64 fx) ∧ W.cell? ⟨w.heap.size + 1, 6, none⟩ = some (.int .i64 fy) ∧ W.cell? ⟨gu, 0, none⟩ = some (.int .i64 ux) ∧ W.cell? ⟨gu, 1, none⟩ = some (.int .i64 uy) ∧ W.cell? ⟨gu, 2, none⟩ = some (.int .i64 vx) ∧ W.cell? ⟨gu, 3, none⟩ = some (.int .i64 vy) ∧ W.cell? ⟨gv, 0, none⟩ = some (.int .i64 sx) ∧ W.cell? ⟨gv, 1, none⟩ = some (.int .i64 sy) ∧ W.cell? ⟨gv, 2, none⟩ = some (.int .i64 tx) ∧ W.cell? ⟨gv, 3, none⟩ = some (.int .i64 ty) ∧ W.cell? ⟨gd, 0, none⟩ = some (.int .i64 Dx) ∧ W.cell? ⟨gd, 1, none⟩ = some (.int .i64 Dy)) ?_
  intro hKeep
  repeat (first | refine F_s ?_ | refine F_r ?_)
  refine F_al ?_
  intro gp hgp
  simp only [List.mem_cons, List.mem_range, not_or, Nat.not_lt] at hgp
  refine F_w (fun W => _) (fun W hW => hW) ?_
  repeat (first | refine F_s ?_ | refine F_r ?_)
  rintro V4 ⟨⟨⟨hx, hz4, hc4⟩, bk⟩, _⟩
  obtain ⟨m0, m1, _, hlp⟩ := pt_block bk
  replace ex' := Ext.step ex' hx
  clear bk e0 e1 hc3 hKeep hgp hx
  go_upto_region 19 with (fail)
  refine wp_KB (V4.heap.size) (fun W => Ext V4 W ∧ V4.heap.size ≤ W.heap.size ∧ W.cell? ⟨w.heap.size, 0, none⟩ = some (.int .i64 k) ∧ W.cell? ⟨w.heap.size, 1, none⟩ = some (.int .i64 ax) ∧ W.cell? ⟨w.heap.size, 2, none⟩ = some (.int .i64 ay) ∧ W.cell? ⟨w.heap.size, 3, none⟩ = some (.int .i64 bx) ∧ W.cell? ⟨w.heap.size, 4, none⟩ = some (.int .i64 by') ∧ W.cell? ⟨w.heap.size, 5, none⟩ = some (.int .i64 cx) ∧ W.cell? ⟨w.heap.size, 6, none⟩ = some (.int .i64 cy) ∧ W.cell? ⟨w.heap.size + 1, 0, none⟩ = some (.int .i64 k') ∧ W.cell? ⟨w.heap.size + 1, 1, none⟩ = some (.int .i64 dx) ∧ W.cell? ⟨w.heap.size + 1, 2, none⟩ = some (.int .i64 dy) ∧ W.cell? ⟨w.heap.size + 1, 3, none⟩ = some (.int .i64 ex) ∧ W.cell? ⟨w.heap.size + 1, 4, none⟩ = some (.int .i64 ey) ∧ W.cell? ⟨w.heap.size + 1, 5, none⟩ = some (.int .i64 fx) ∧ W.cell? ⟨w.heap.size + 1, 6, none⟩ = some (.int .i64 fy) ∧ W.cell? ⟨gu, 0, none⟩ = some (.int .i64 ux) ∧ W.cell? ⟨gu, 1, none⟩ = some (.int .i64 uy) ∧ W.cell? ⟨gu, 2, none⟩ = some (.int .i64 vx) ∧ W.cell? ⟨gu, 3, none⟩ = some (.int .i64 vy) ∧ W.cell? ⟨gv, 0, none⟩ = some (.int .i64 sx) ∧ W.cell? ⟨gv, 1, none⟩ = some (.int .i64 sy) ∧ W.cell? ⟨gv, 2, none⟩ = some (.int .i64 tx) ∧ W.cell? ⟨gv, 3, none⟩ = some (.int .i64 ty) ∧ W.cell? ⟨gd, 0, none⟩ = some (.int .i64 Dx) ∧ W.cell? ⟨gd, 1, none⟩ = some (.int .i64 Dy) ∧ W.cell? ⟨gp, 0, none⟩ = some (.int .i64 Ny) ∧ W.cell? ⟨gp, 1, none⟩ = some (.int .i64 Dx)) ?_
  intro hKeep
  repeat (first | refine F_s ?_ | refine F_r ?_)
  (refine F_call (v := .int .i64 S) (by rfl) (by rfl) ?_ ?_; (· (intro W hW; (try dsimp only at hW); go_simp; refine (DD.out _).mono ?_; rintro e w' ⟨rfl, hx⟩; exact ⟨_, rfl, rfl, hx⟩))); refine F_put ?_
  repeat (first | refine F_s ?_ | refine F_r ?_)
  refine F_num V4 (ofZ S) (by rfl) (by rfl) (by intro W hW; (try dsimp only at hW); have hwW : V4.heap.size ≤ W.heap.size := (by have hzz := hW; (repeat (first | exact hzz.size | exact hzz.1.size | replace hzz := hzz.1))); go_simp; exact (r07_of S _ iS.out).mono fun _ _ h => RetN.isN hwW h) ?_; intro n1 p1 l1 c1 hn1; refine F_put ?_
  repeat (first | refine F_s ?_ | refine F_r ?_)
  refine F_al ?_
  intro g1 hg1
  simp only [List.mem_cons, List.mem_range, not_or, Nat.not_lt] at hg1
  refine F_w (fun W => _ ∧ NR W n1 p1 l1 c1 (ofZ S)) (fun W hW => hW) ?_
  repeat (first | refine F_s ?_ | refine F_r ?_)
  rintro V5 ⟨⟨⟨⟨hx, hz5, hc5⟩, nS⟩, bk⟩, _⟩
  obtain ⟨e0, e1, _, hl1⟩ := pt_block bk
  replace ex' := Ext.step ex' hx
  clear bk m0 m1 hc4 hKeep hg1 hx hn1
  go_upto_region 20 with (fail)
  refine wp_KB (V5.heap.size) (fun W => Ext V5 W ∧ V5.heap.size ≤ W.heap.size ∧ W.cell? ⟨w.heap.size, 0, none⟩ = some (.int .i64 k) ∧ W.cell? ⟨w.heap.size, 1, none⟩ = some (.int .i64 ax) ∧ W.cell? ⟨w.heap.size, 2, none⟩ = some (.int .i64 ay) ∧ W.cell? ⟨w.heap.size, 3, none⟩ = some (.int .i64 bx) ∧ W.cell? ⟨w.heap.size, 4, none⟩ = some (.int .i64 by') ∧ W.cell? ⟨w.heap.size, 5, none⟩ = some (.int .i64 cx) ∧ W.cell? ⟨w.heap.size, 6, none⟩ = some (.int .i64 cy) ∧ W.cell? ⟨w.heap.size + 1, 0, none⟩ = some (.int .i64 k') ∧ W.cell? ⟨w.heap.size + 1, 1, none⟩ = some (.int .i64 dx) ∧ W.cell? ⟨w.heap.size + 1, 2, none⟩ = some (.int .i64 dy) ∧ W.cell? ⟨w.heap.size + 1, 3, none⟩ = some (.int .i64 ex) ∧ W.cell? ⟨w.heap.size + 1, 4, none⟩ = some (.int .i64 ey) ∧ W.cell? ⟨w.heap.size + 1, 5, none⟩ = some (.int .i64 fx) ∧ W.cell? ⟨w.heap.size + 1, 6, none⟩ = some (.int .i64 fy) ∧ W.cell? ⟨gu, 0, none⟩ = some (.int .i64 ux) ∧ W.cell? ⟨gu, 1, none⟩ = some (.int .i64 uy) ∧ W.cell? ⟨gu, 2, none⟩ = some (.int .i64 vx) ∧ W.cell? ⟨gu, 3, none⟩ = some (.int .i64 vy) ∧ W.cell? ⟨gv, 0, none⟩ = some (.int .i64 sx) ∧ W.cell? ⟨gv, 1, none⟩ = some (.int .i64 sy) ∧ W.cell? ⟨gv, 2, none⟩ = some (.int .i64 tx) ∧ W.cell? ⟨gv, 3, none⟩ = some (.int .i64 ty) ∧ W.cell? ⟨gd, 0, none⟩ = some (.int .i64 Dx) ∧ W.cell? ⟨gd, 1, none⟩ = some (.int .i64 Dy) ∧ W.cell? ⟨gp, 0, none⟩ = some (.int .i64 Ny) ∧ W.cell? ⟨gp, 1, none⟩ = some (.int .i64 Dx) ∧ W.cell? ⟨g1, 0, none⟩ = some (.bool n1) ∧ W.cell? ⟨g1, 1, none⟩ = some (.slice p1 l1 c1)) ?_
  intro hKeep
  repeat (first | refine F_s ?_ | refine F_r ?_)
  refine F_num V5 (ofZ 2) (by rfl) (by rfl) (by intro W hW; (try dsimp only at hW); have hwW : V5.heap.size ≤ W.heap.size := (by have hzz := hW; (repeat (first | exact hzz.size | exact hzz.1.size | replace hzz := hzz.1))); go_simp; exact (r07_of 2 _ (by omega)).mono fun _ _ h => RetN.isN hwW h) ?_; intro n11 p11 l11 c11 hn11; refine F_put ?_
  repeat (first | refine F_s ?_ | refine F_r ?_)
  refine F_num V5 (ofZ T2) (by rfl) (by rfl) (by intro W hW; (try dsimp only at hW); have hwW : V5.heap.size ≤ W.heap.size := (by have hzz := hW; (repeat (first | exact hzz.size | exact hzz.1.size | replace hzz := hzz.1))); go_simp; exact (r07_mul 2 S n11 n1 p11 p1 l11 c11 l1 c1 W (by have hzz := hW; (try dsimp only at hzz); (repeat (first | exact hzz.2 | exact hzz.1 | exact NR.ext (by assumption) hzz | exact NR.ext (by assumption) hzz.1 | replace hzz := hzz.1))) (by have hzz := hW; (try dsimp only at hzz); (repeat (first | exact hzz.2 | exact hzz.1 | exact NR.ext (by assumption) hzz | exact NR.ext (by assumption) hzz.1 | replace hzz := hzz.1))) (wtwo.out.small (by omega)) (wS.out.small (by omega)) T2 ET2.out (wT2.out.small (by omega))).mono fun _ _ h => RetN.isN hwW h) ?_; intro n2 p2 l2 c2 hn2; refine F_put ?_
  repeat (first | refine F_s ?_ | refine F_r ?_)
  refine F_al ?_
  intro g2 hg2
  simp only [List.mem_cons, List.mem_range, not_or, Nat.not_lt] at hg2
  refine F_w (fun W => _ ∧ NR W n2 p2 l2 c2 (ofZ T2)) (fun W hW => ⟨⟨hW.1.1.1, hW.1.2⟩, hW.2⟩) ?_
  repeat (first | refine F_s ?_ | refine F_r ?_)
  rintro V6 ⟨⟨⟨⟨hx, hz6, hc6⟩, nT⟩, bk⟩, _⟩
  obtain ⟨m0, m1, _, hl2⟩ := pt_block bk
  replace ex' := Ext.step ex' hx
  replace nS := nS.ext hx
  clear bk e0 e1 hc5 hKeep hg2 hx hn11 hn2
  go_upto_region 21 with (fail)
  refine wp_KB (V6.heap.size) (fun W => Ext V6 W ∧ V6.heap.size ≤ W.heap.size ∧ W.cell? ⟨w.heap.size, 0, none⟩ = some (.int .i64 k) ∧ W.cell? ⟨w.heap.size, 1, none⟩ = some (.int .i64 ax) ∧ W.cell? ⟨w.heap.size, 2, none⟩ = some (.int .i64 ay) ∧ W.cell? ⟨w.heap.size, 3, none⟩ = some (.int .i64 bx) ∧ W.cell? ⟨w.heap.size, 4, none⟩ = some (.int .i64 by') ∧ W.cell? ⟨w.heap.size, 5, none⟩ = some (.int .i64 cx) ∧ W.cell? ⟨w.heap.size, 6, none⟩ = some (.int .i64 cy) ∧ W.cell? ⟨w.heap.size + 1, 0, none⟩ = some (.int .i64 k') ∧ W.cell? ⟨w.heap.size + 1, 1, none⟩ = some (.int .i64 dx) ∧ W.cell? ⟨w.heap.size + 1, 2, none⟩ = some (.int .i64 dy) ∧ W.cell? ⟨w.heap.size + 1, 3, none⟩ = some (.int .i64 ex) ∧ W.cell? ⟨w.heap.size + 1, 4, none⟩ = some (.int .i64 ey) ∧ W.cell? ⟨w.heap.size + 1, 5, none⟩ = some (.int .i64 fx) ∧ W.cell? ⟨w.heap.size + 1, 6, none⟩ = some (.int .i64 fy) ∧ W.cell? ⟨gu, 0, none⟩ = some (.int .i64 ux) ∧ W.cell? ⟨gu, 1, none⟩ = some (.int .i64 uy) ∧ W.cell? ⟨gu, 2, none⟩ = some (.int .i64 vx) ∧ W.cell? ⟨gu, 3, none⟩ = some (.int .i64 vy) ∧ W.cell? ⟨gv, 0, none⟩ = some (.int .i64 sx) ∧ W.cell? ⟨gv, 1, none⟩ = some (.int .i64 sy) ∧ W.cell? ⟨gv, 2, none⟩ = some (.int .i64 tx) ∧ W.cell? ⟨gv, 3, none⟩ = some (.int .i64 ty) ∧ W.cell? ⟨gd, 0, none⟩ = some (.int .i64 Dx) ∧ W.cell? ⟨gd, 1, none⟩ = some (.int .i64 Dy) ∧ W.cell? ⟨gp, 0, none⟩ = some (.int .i64 Ny) ∧ W.cell? ⟨gp, 1, none⟩ = some (.int .i64 Dx) ∧ W.cell? ⟨g1, 0, none⟩ = some (.bool n1) ∧ W.cell? ⟨g1, 1, none⟩ = some (.slice p1 l1 c1) ∧ W.cell? ⟨g2, 0, none⟩ = some (.bool n2) ∧ W.cell? ⟨g2, 1, none⟩ = some (.slice p2 l2 c2)) ?_
  intro hKeep
  repeat (first | refine F_s ?_ | refine F_r ?_)
  refine F_num V6 (ofZ q) (by rfl) (by rfl) (by intro W hW; (try dsimp only at hW); have hwW : V6.heap.size ≤ W.heap.size := (by have hzz := hW; (repeat (first | exact hzz.size | exact hzz.1.size | replace hzz := hzz.1))); go_simp; exact (r07_of q _ iq.out).mono fun _ _ h => RetN.isN hwW h) ?_; intro n12 p12 l12 c12 hn12; refine F_put ?_
  repeat (first | refine F_s ?_ | refine F_r ?_)
  refine F_num V6 (ofZ q) (by rfl) (by rfl) (by intro W hW; (try dsimp only at hW); have hwW : V6.heap.size ≤ W.heap.size := (by have hzz := hW; (repeat (first | exact hzz.size | exact hzz.1.size | replace hzz := hzz.1))); go_simp; exact (r07_of q _ iq.out).mono fun _ _ h => RetN.isN hwW h) ?_; intro n13 p13 l13 c13 hn13; refine F_put ?_
  repeat (first | refine F_s ?_ | refine F_r ?_)
  refine F_num V6 (ofZ qq) (by rfl) (by rfl) (by intro W hW; (try dsimp only at hW); have hwW : V6.heap.size ≤ W.heap.size := (by have hzz := hW; (repeat (first | exact hzz.size | exact hzz.1.size | replace hzz := hzz.1))); go_simp; exact (r07_mul q q n12 n13 p12 p13 l12 c12 l13 c13 W (by have hzz := hW; (try dsimp only at hzz); (repeat (first | exact hzz.2 | exact hzz.1 | exact NR.ext (by assumption) hzz | exact NR.ext (by assumption) hzz.1 | replace hzz := hzz.1))) (by have hzz := hW; (try dsimp only at hzz); (repeat (first | exact hzz.2 | exact hzz.1 | exact NR.ext (by assumption) hzz | exact NR.ext (by assumption) hzz.1 | replace hzz := hzz.1))) (wq.out.small (by omega)) (wq.out.small (by omega)) qq Eqq.out (wqq.out.small (by omega))).mono fun _ _ h => RetN.isN hwW h) ?_; intro n14 p14 l14 c14 hn14; refine F_put ?_
  repeat (first | refine F_s ?_ | refine F_r ?_)
  refine F_num V6 (ofZ r) (by rfl) (by rfl) (by intro W hW; (try dsimp only at hW); have hwW : V6.heap.size ≤ W.heap.size := (by have hzz := hW; (repeat (first | exact hzz.size | exact hzz.1.size | replace hzz := hzz.1))); go_simp; exact (r07_of r _ ir.out).mono fun _ _ h => RetN.isN hwW h) ?_; intro n15 p15 l15 c15 hn15; refine F_put ?_
  repeat (first | refine F_s ?_ | refine F_r ?_)
  refine F_num V6 (ofZ r) (by rfl) (by rfl) (by intro W hW; (try dsimp only at hW); have hwW : V6.heap.size ≤ W.heap.size := (by have hzz := hW; (repeat (first | exact hzz.size | exact hzz.1.size | replace hzz := hzz.1))); go_simp; exact (r07_of r _ ir.out).mono fun _ _ h => RetN.isN hwW h) ?_; intro n16 p16 l16 c16 hn16; refine F_put ?_
  repeat (first | refine F_s ?_ | refine F_r ?_)
  refine F_num V6 (ofZ rr) (by rfl) (by rfl) (by intro W hW; (try dsimp only at hW); have hwW : V6.heap.size ≤ W.heap.size := (by have hzz := hW; (repeat (first | exact hzz.size | exact hzz.1.size | replace hzz := hzz.1))); go_simp; exact (r07_mul r r n15 n16 p15 p16 l15 c15 l16 c16 W (by have hzz := hW; (try dsimp only at hzz); (repeat (first | exact hzz.2 | exact hzz.1 | exact NR.ext (by assumption) hzz | exact NR.ext (by assumption) hzz.1 | replace hzz := hzz.1))) (by have hzz := hW; (try dsimp only at hzz); (repeat (first | exact hzz.2 | exact hzz.1 | exact NR.ext (by assumption) hzz | exact NR.ext (by assumption) hzz.1 | replace hzz := hzz.1))) (wr.out.small (by omega)) (wr.out.small (by omega)) rr Err.out (wrr.out.small (by omega))).mono fun _ _ h => RetN.isN hwW h) ?_; intro n17 p17 l17 c17 hn17; refine F_put ?_
  repeat (first | refine F_s ?_ | refine F_r ?_)
  refine F_num V6 (ofZ df) (by rfl) (by rfl) (by intro W hW; (try dsimp only at hW); have hwW : V6.heap.size ≤ W.heap.size := (by have hzz := hW; (repeat (first | exact hzz.size | exact hzz.1.size | replace hzz := hzz.1))); go_simp; exact (r07_sub qq rr n14 n17 p14 p17 l14 c14 l17 c17 W (by have hzz := hW; (try dsimp only at hzz); (repeat (first | exact hzz.2 | exact hzz.1 | exact NR.ext (by assumption) hzz | exact NR.ext (by assumption) hzz.1 | replace hzz := hzz.1))) (by have hzz := hW; (try dsimp only at hzz); (repeat (first | exact hzz.2 | exact hzz.1 | exact NR.ext (by assumption) hzz | exact NR.ext (by assumption) hzz.1 | replace hzz := hzz.1))) (wqq.out.small (by omega)) (wrr.out.small (by omega)) df Edf.out (wdf.out.small (by omega))).mono fun _ _ h => RetN.isN hwW h) ?_; intro n18 p18 l18 c18 hn18; refine F_put ?_
  repeat (first | refine F_s ?_ | refine F_r ?_)
  refine F_num V6 (ofZ K) (by rfl) (by rfl) (by intro W hW; (try dsimp only at hW); have hwW : V6.heap.size ≤ W.heap.size := (by have hzz := hW; (repeat (first | exact hzz.size | exact hzz.1.size | replace hzz := hzz.1))); go_simp; exact (r07_sub S df n1 n18 p1 p18 l1 c1 l18 c18 W (by have hzz := hW; (try dsimp only at hzz); (repeat (first | exact hzz.2 | exact hzz.1 | exact NR.ext (by assumption) hzz | exact NR.ext (by assumption) hzz.1 | replace hzz := hzz.1))) (by have hzz := hW; (try dsimp only at hzz); (repeat (first | exact hzz.2 | exact hzz.1 | exact NR.ext (by assumption) hzz | exact NR.ext (by assumption) hzz.1 | replace hzz := hzz.1))) (wS.out.small (by omega)) (wdf.out.small (by omega)) K EK.out (wK.out.small (by omega))).mono fun _ _ h => RetN.isN hwW h) ?_; intro n3 p3 l3 c3 hn3; refine F_put ?_
  repeat (first | refine F_s ?_ | refine F_r ?_)
  refine F_al ?_
  intro g3 hg3
  simp only [List.mem_cons, List.mem_range, not_or, Nat.not_lt] at hg3
  refine F_w (fun W => _ ∧ NR W n3 p3 l3 c3 (ofZ K)) (fun W hW => ⟨⟨hW.1.1.1.1.1.1.1.1.1, hW.1.2⟩, hW.2⟩) ?_
  repeat (first | refine F_s ?_ | refine F_r ?_)
  rintro V7 ⟨⟨⟨⟨hx, hz7, hc7⟩, nK⟩, bk⟩, _⟩
  obtain ⟨e0, e1, _, hl3⟩ := pt_block bk
  replace ex' := Ext.step ex' hx
  replace nS := nS.ext hx
  replace nT := nT.ext hx
  clear bk m0 m1 hc6 hKeep hg3 hx hn12 hn13 hn14 hn15 hn16 hn17 hn18 hn3
  go_upto_region 22 with (fail)
  refine wp_KB (V7.heap.size) (fun W => Ext V7 W ∧ V7.heap.size ≤ W.heap.size ∧ W.cell? ⟨w.heap.size, 0, none⟩ = some (.int .i64 k) ∧ W.cell? ⟨w.heap.size, 1, none⟩ = some (.int .i64 ax) ∧ W.cell? ⟨w.heap.size, 2, none⟩ = some (.int .i64 ay) ∧ W.cell? ⟨w.heap.size, 3, none⟩ = some (.int .i64 bx) ∧ W.cell? ⟨w.heap.size, 4, none⟩ = some (.int .i64 by') ∧ W.cell? ⟨w.heap.size, 5, none⟩ = some (.int .i64 cx) ∧ W.cell? ⟨w.heap.size, 6, none⟩ = some (.int .i64 cy) ∧ W.cell? ⟨w.heap.size + 1, 0, none⟩ = some (.int .i64 k') ∧ W.cell? ⟨w.heap.size + 1, 1, none⟩ = some (.int .i64 dx) ∧ W.cell? ⟨w.heap.size + 1, 2, none⟩ = some (.int .i64 dy) ∧ W.cell? ⟨w.heap.size + 1, 3, none⟩ = some (.int .i64 ex) ∧ W.cell? ⟨w.heap.size + 1, 4, none⟩ = some (.int .i64 ey) ∧ W.cell? ⟨w.heap.size + 1, 5, none⟩ = some (.int .i64 fx) ∧ W.cell? ⟨w.heap.size + 1, 6, none⟩ = some (.int .i64 fy) ∧ W.cell? ⟨gu, 0, none⟩ = some (.int .i64 ux) ∧ W.cell? ⟨gu, 1, none⟩ = some (.int .i64 uy) ∧ W.cell? ⟨gu, 2, none⟩ = some (.int .i64 vx) ∧ W.cell? ⟨gu, 3, none⟩ = some (.int .i64 vy) ∧ W.cell? ⟨gv, 0, none⟩ = some (.int .i64 sx) ∧ W.cell? ⟨gv, 1, none⟩ = some (.int .i64 sy) ∧ W.cell? ⟨gv, 2, none⟩ = some (.int .i64 tx) ∧ W.cell? ⟨gv, 3, none⟩ = some (.int .i64 ty) ∧ W.cell? ⟨gd, 0, none⟩ = some (.int .i64 Dx) ∧ W.cell? ⟨gd, 1, none⟩ = some (.int .i64 Dy) ∧ W.cell? ⟨gp, 0, none⟩ = some (.int .i64 Ny) ∧ W.cell? ⟨gp, 1, none⟩ = some (.int .i64 Dx) ∧ W.cell? ⟨g1, 0, none⟩ = some (.bool n1) ∧ W.cell? ⟨g1, 1, none⟩ = some (.slice p1 l1 c1) ∧ W.cell? ⟨g2, 0, none⟩ = some (.bool n2) ∧ W.cell? ⟨g2, 1, none⟩ = some (.slice p2 l2 c2) ∧ W.cell? ⟨g3, 0, none⟩ = some (.bool n3) ∧ W.cell? ⟨g3, 1, none⟩ = some (.slice p3 l3 c3)) ?_
  intro hKeep
  repeat (first | refine F_s ?_ | refine F_r ?_)
  refine F_num V7 (ofZ 2) (by rfl) (by rfl) (by intro W hW; (try dsimp only at hW); have hwW : V7.heap.size ≤ W.heap.size := (by have hzz := hW; (repeat (first | exact hzz.size | exact hzz.1.size | replace hzz := hzz.1))); go_simp; exact (r07_of 2 _ (by omega)).mono fun _ _ h => RetN.isN hwW h) ?_; intro n21 p21 l21 c21 hn21; refine F_put ?_
  repeat (first | refine F_s ?_ | refine F_r ?_)
  refine F_num V7 (ofZ T4) (by rfl) (by rfl) (by intro W hW; (try dsimp only at hW); have hwW : V7.heap.size ≤ W.heap.size := (by have hzz := hW; (repeat (first | exact hzz.size | exact hzz.1.size | replace hzz := hzz.1))); go_simp; exact (r07_mul T2 2 n2 n21 p2 p21 l2 c2 l21 c21 W (by have hzz := hW; (try dsimp only at hzz); (repeat (first | exact hzz.2 | exact hzz.1 | exact NR.ext (by assumption) hzz | exact NR.ext (by assumption) hzz.1 | replace hzz := hzz.1))) (by have hzz := hW; (try dsimp only at hzz); (repeat (first | exact hzz.2 | exact hzz.1 | exact NR.ext (by assumption) hzz | exact NR.ext (by assumption) hzz.1 | replace hzz := hzz.1))) (wT2.out.small (by omega)) (wtwo.out.small (by omega)) T4 ET4.out (wT4.out.small (by omega))).mono fun _ _ h => RetN.isN hwW h) ?_; intro n22 p22 l22 c22 hn22; refine F_put ?_
  repeat (first | refine F_s ?_ | refine F_r ?_)
  refine F_num V7 (ofZ r) (by rfl) (by rfl) (by intro W hW; (try dsimp only at hW); have hwW : V7.heap.size ≤ W.heap.size := (by have hzz := hW; (repeat (first | exact hzz.size | exact hzz.1.size | replace hzz := hzz.1))); go_simp; exact (r07_of r _ ir.out).mono fun _ _ h => RetN.isN hwW h) ?_; intro n23 p23 l23 c23 hn23; refine F_put ?_
  repeat (first | refine F_s ?_ | refine F_r ?_)
  refine F_num V7 (ofZ r) (by rfl) (by rfl) (by intro W hW; (try dsimp only at hW); have hwW : V7.heap.size ≤ W.heap.size := (by have hzz := hW; (repeat (first | exact hzz.size | exact hzz.1.size | replace hzz := hzz.1))); go_simp; exact (r07_of r _ ir.out).mono fun _ _ h => RetN.isN hwW h) ?_; intro n24 p24 l24 c24 hn24; refine F_put ?_
  repeat (first | refine F_s ?_ | refine F_r ?_)
  refine F_num V7 (ofZ rr) (by rfl) (by rfl) (by intro W hW; (try dsimp only at hW); have hwW : V7.heap.size ≤ W.heap.size := (by have hzz := hW; (repeat (first | exact hzz.size | exact hzz.1.size | replace hzz := hzz.1))); go_simp; exact (r07_mul r r n23 n24 p23 p24 l23 c23 l24 c24 W (by have hzz := hW; (try dsimp only at hzz); (repeat (first | exact hzz.2 | exact hzz.1 | exact NR.ext (by assumption) hzz | exact NR.ext (by assumption) hzz.1 | replace hzz := hzz.1))) (by have hzz := hW; (try dsimp only at hzz); (repeat (first | exact hzz.2 | exact hzz.1 | exact NR.ext (by assumption) hzz | exact NR.ext (by assumption) hzz.1 | replace hzz := hzz.1))) (wr.out.small (by omega)) (wr.out.small (by omega)) rr Err.out (wrr.out.small (by omega))).mono fun _ _ h => RetN.isN hwW h) ?_; intro n25 p25 l25 c25 hn25; refine F_put ?_
  repeat (first | refine F_s ?_ | refine F_r ?_)
  refine F_num V7 (ofZ TR) (by rfl) (by rfl) (by intro W hW; (try dsimp only at hW); have hwW : V7.heap.size ≤ W.heap.size := (by have hzz := hW; (repeat (first | exact hzz.size | exact hzz.1.size | replace hzz := hzz.1))); go_simp; exact (r07_mul T4 rr n22 n25 p22 p25 l22 c22 l25 c25 W (by have hzz := hW; (try dsimp only at hzz); (repeat (first | exact hzz.2 | exact hzz.1 | exact NR.ext (by assumption) hzz | exact NR.ext (by assumption) hzz.1 | replace hzz := hzz.1))) (by have hzz := hW; (try dsimp only at hzz); (repeat (first | exact hzz.2 | exact hzz.1 | exact NR.ext (by assumption) hzz | exact NR.ext (by assumption) hzz.1 | replace hzz := hzz.1))) (wT4.out.small (by omega)) (wrr.out.small (by omega)) TR ETR.out (wTR.out.small (by omega))).mono fun _ _ h => RetN.isN hwW h) ?_; intro n26 p26 l26 c26 hn26; refine F_put ?_
  repeat (first | refine F_s ?_ | refine F_r ?_)
  refine F_num V7 (ofZ KK) (by rfl) (by rfl) (by intro W hW; (try dsimp only at hW); have hwW : V7.heap.size ≤ W.heap.size := (by have hzz := hW; (repeat (first | exact hzz.size | exact hzz.1.size | replace hzz := hzz.1))); go_simp; exact (r07_mul K K n3 n3 p3 p3 l3 c3 l3 c3 W (by have hzz := hW; (try dsimp only at hzz); (repeat (first | exact hzz.2 | exact hzz.1 | exact NR.ext (by assumption) hzz | exact NR.ext (by assumption) hzz.1 | replace hzz := hzz.1))) (by have hzz := hW; (try dsimp only at hzz); (repeat (first | exact hzz.2 | exact hzz.1 | exact NR.ext (by assumption) hzz | exact NR.ext (by assumption) hzz.1 | replace hzz := hzz.1))) (wK.out.small (by omega)) (wK.out.small (by omega)) KK EKK.out (wKK.out.small (by omega))).mono fun _ _ h => RetN.isN hwW h) ?_; intro n27 p27 l27 c27 hn27; refine F_put ?_
  repeat (first | refine F_s ?_ | refine F_r ?_)
  refine F_num V7 (ofZ dl) (by rfl) (by rfl) (by intro W hW; (try dsimp only at hW); have hwW : V7.heap.size ≤ W.heap.size := (by have hzz := hW; (repeat (first | exact hzz.size | exact hzz.1.size | replace hzz := hzz.1))); go_simp; exact (r07_sub TR KK n26 n27 p26 p27 l26 c26 l27 c27 W (by have hzz := hW; (try dsimp only at hzz); (repeat (first | exact hzz.2 | exact hzz.1 | exact NR.ext (by assumption) hzz | exact NR.ext (by assumption) hzz.1 | replace hzz := hzz.1))) (by have hzz := hW; (try dsimp only at hzz); (repeat (first | exact hzz.2 | exact hzz.1 | exact NR.ext (by assumption) hzz | exact NR.ext (by assumption) hzz.1 | replace hzz := hzz.1))) (wTR.out.small (by omega)) (wKK.out.small (by omega)) dl Edl.out (wdl.out.small (by omega))).mono fun _ _ h => RetN.isN hwW h) ?_; intro n4 p4 l4 c4 hn4; refine F_put ?_
  repeat (first | refine F_s ?_ | refine F_r ?_)
  refine F_al ?_
  intro g4 hg4
  simp only [List.mem_cons, List.mem_range, not_or, Nat.not_lt] at hg4
  refine F_w (fun W => _ ∧ NR W n4 p4 l4 c4 (ofZ dl)) (fun W hW => ⟨⟨hW.1.1.1.1.1.1.1.1.1, hW.1.2⟩, hW.2⟩) ?_
  repeat (first | refine F_s ?_ | refine F_r ?_)
  rintro V8 ⟨⟨⟨⟨hx, hz8, hc8⟩, nD⟩, bk⟩, _⟩
  obtain ⟨m0, m1, _, hl4⟩ := pt_block bk
  replace ex' := Ext.step ex' hx
  replace nT := nT.ext hx
  replace nK := nK.ext hx
  have hlen : l4 = (digs dl.natAbs).length := nD.2.1
  have hneg : n4 = decide (dl < 0) := nD.1
  have hl10 : ((l4 : Int) == 0) = decide (dl = 0) := by
    have h0 := digs_len dl
    rw [← hlen] at h0
    by_cases h : dl = 0
    · rw [decide_eq_true h, h0.2 h]
      rfl
    · rw [decide_eq_false h, beq_eq_false_iff_ne]
      intro h1
      exact h (h0.1 (Int.natCast_eq_zero.1 h1))
  subst hneg
  clear bk e0 e1 hc7 hKeep hg4 hx hn21 hn22 hn23 hn24 hn25 hn26 hn27 hn4 hlen nS
  by_cases hd0 : dl < 0
  · have Q := RES.out
    rw [if_pos hd0] at Q
    subst Q
    rw [decide_eq_true hd0] at m0
    clear hd0
    go_wp2
    go_ret
    exact ⟨rfl, ex'⟩
  rw [decide_eq_false hd0] at m0 nD
  have hCC : ∀ W, Ext V8 W → (W.cell? ⟨w.heap.size, 0, none⟩ = some (.int .i64 k) ∧ W.cell? ⟨w.heap.size, 1, none⟩ = some (.int .i64 ax) ∧ W.cell? ⟨w.heap.size, 2, none⟩ = some (.int .i64 ay) ∧ W.cell? ⟨w.heap.size, 3, none⟩ = some (.int .i64 bx) ∧ W.cell? ⟨w.heap.size, 4, none⟩ = some (.int .i64 by') ∧ W.cell? ⟨w.heap.size, 5, none⟩ = some (.int .i64 cx) ∧ W.cell? ⟨w.heap.size, 6, none⟩ = some (.int .i64 cy) ∧ W.cell? ⟨w.heap.size + 1, 0, none⟩ = some (.int .i64 k') ∧ W.cell? ⟨w.heap.size + 1, 1, none⟩ = some (.int .i64 dx) ∧ W.cell? ⟨w.heap.size + 1, 2, none⟩ = some (.int .i64 dy) ∧ W.cell? ⟨w.heap.size + 1, 3, none⟩ = some (.int .i64 ex) ∧ W.cell? ⟨w.heap.size + 1, 4, none⟩ = some (.int .i64 ey) ∧ W.cell? ⟨w.heap.size + 1, 5, none⟩ = some (.int .i64 fx) ∧ W.cell? ⟨w.heap.size + 1, 6, none⟩ = some (.int .i64 fy) ∧ W.cell? ⟨gu, 0, none⟩ = some (.int .i64 ux) ∧ W.cell? ⟨gu, 1, none⟩ = some (.int .i64 uy) ∧ W.cell? ⟨gu, 2, none⟩ = some (.int .i64 vx) ∧ W.cell? ⟨gu, 3, none⟩ = some (.int .i64 vy) ∧ W.cell? ⟨gv, 0, none⟩ = some (.int .i64 sx) ∧ W.cell? ⟨gv, 1, none⟩ = some (.int .i64 sy) ∧ W.cell? ⟨gv, 2, none⟩ = some (.int .i64 tx) ∧ W.cell? ⟨gv, 3, none⟩ = some (.int .i64 ty) ∧ W.cell? ⟨gd, 0, none⟩ = some (.int .i64 Dx) ∧ W.cell? ⟨gd, 1, none⟩ = some (.int .i64 Dy) ∧ W.cell? ⟨gp, 0, none⟩ = some (.int .i64 Ny) ∧ W.cell? ⟨gp, 1, none⟩ = some (.int .i64 Dx) ∧ W.cell? ⟨g1, 0, none⟩ = some (.bool n1) ∧ W.cell? ⟨g1, 1, none⟩ = some (.slice p1 l1 c1) ∧ W.cell? ⟨g2, 0, none⟩ = some (.bool n2) ∧ W.cell? ⟨g2, 1, none⟩ = some (.slice p2 l2 c2) ∧ W.cell? ⟨g3, 0, none⟩ = some (.bool n3) ∧ W.cell? ⟨g3, 1, none⟩ = some (.slice p3 l3 c3) ∧ W.cell? ⟨g4, 0, none⟩ = some (.bool false) ∧ W.cell? ⟨g4, 1, none⟩ = some (.slice p4 l4 c4) ) := fun W hx => by
    have hbc : ∀ b o, b < V8.heap.size → W.cell? ⟨b, o, none⟩ = V8.cell? ⟨b, o, none⟩ := fun b o h => hx.cell (p := ⟨b, o, none⟩) h
    simp (disch := omega) only [hbc]
    go_simp
  have HC := Lib.hid hCC
  have q0 : w.heap.size + 1 < V8.heap.size := by omega
  have q1 : gu < V8.heap.size := by omega
  have q2 : gv < V8.heap.size := by omega
  have q3 : gd < V8.heap.size := by omega
  have q4 : gp < V8.heap.size := by omega
  have q5 : g1 < V8.heap.size := by omega
  have q6 : g2 < V8.heap.size := by omega
  have q7 : g3 < V8.heap.size := by omega
  have q8 : g4 < V8.heap.size := by omega
  have HL := Lib.hid hl10
  have NT := Lib.hid nT
  have NK := Lib.hid nK
  have ND := Lib.hid nD
  have D0 : Hid (0 ≤ dl) := Lib.hid (by omega)
  have RES2 : Hid (R = if dl = 0 then b01 ga else b01 ga + b01 gb) := Lib.hid (RES.out.trans (if_neg hd0))
  clear hl10 nT nK nD hCC hc8 RES hd0 hlu2 hl02 hl12 hlv hld hlp hl1 hl2 hl3 hl4 hz2 hz3 hz4 hz5 hz6 hz7 hz8 hz1
  go_wp2_with fail
  go_loopw [17, 18] (fun nv sv wr => ∃ s n : Int, nv = .int .i64 n ∧ sv = .int .i64 s ∧ ((s = -1 ∧ n = 0) ∨ (s = 1 ∧ n = b01 ga) ∨ (s = 3 ∧ n = R)) ∧ Ext V8 wr) (fun _ sv _ => (4 - intOf sv).toNat)
  case atStart => exact ⟨-1, 0, rfl, rfl, .inl ⟨rfl, rfl⟩, Below.refl _ _⟩
  case round =>
    clear m0 m1
    obtain ⟨s, n, rfl, rfl, hsn, hv⟩ := hrel
    replace ex' := Ext.step ex' hv
    by_cases hs3 : s = 3
    · obtain rfl : n = R := by omega
      subst hs3
      clear hsn
      go_wp2
      go_ret
      exact ⟨rfl, ex'⟩
    have bs : s = 1 ∨ s = -1 := by omega
    have hle : decide (s ≤ 1) = true := by rw [decide_eq_true_eq]; omega
    have bga := b01_bd ga
    have bgb := b01_bd gb
    have ws : IntKind.i64.wrap (s + 2) = s + 2 := wrap_in (by unfold I64; omega)
    have wn : IntKind.i64.wrap (n + 1) = n + 1 := wrap_in (by unfold I64; omega)
    have hcr := HC.out wr hv
    have q8r := Nat.lt_of_lt_of_le q8 hv.size
    by_cases hcon : s = 1 ∧ dl = 0
    · have sb : (s == 1) = true := by simpa using hcon.1
      have lb : ((l4 : Int) == 0) = true := by rw [HL.out]; exact decide_eq_true hcon.2
      have NEXT : Hid (s + 2 = 3 ∧ n = R) := Lib.hid (by have := RES2.out; rw [if_pos hcon.2] at this; omega)
      clear hcon hsn bs bga bgb wn
      go_wp2
      exact ⟨⟨s + 2, n, rfl, rfl, .inr (.inr NEXT.out), hv⟩, by simp [intOf]; have := NEXT.out; omega⟩
    have NEXT : Hid (∀ b, goodS dl s [(mu, pu), (mv, pv), (ms, ps), (mt, pt)] = b → ((s + 2 = -1 ∧ n + b01 b = 0) ∨ (s + 2 = 1 ∧ n + b01 b = b01 ga) ∨ (s + 2 = 3 ∧ n + b01 b = R))) := Lib.hid (by
      intro b hb
      rcases bs with rfl | rfl
      · have e : gb = b := GB.out.symm.trans hb
        have := RES2.out
        rw [if_neg (fun h => hcon ⟨rfl, h⟩), e] at this
        omega
      · have e : ga = b := GA.out.symm.trans hb
        rw [← e]
        omega)
    have hgd : (s == 1) = false ∨ ((s == 1) = true ∧ ((l4 : Int) == 0) = false) := by
      rcases bs with rfl | rfl
      · exact .inr ⟨rfl, by rw [HL.out]; exact decide_eq_false (fun h => hcon ⟨rfl, h⟩)⟩
      · exact .inl rfl
    obtain ⟨tt, TT⟩ : ∃ b, Hid (true = b) := ⟨_, rfl⟩
    obtain ⟨su, Esu⟩ : ∃ z, Hid (s * pu = z) := ⟨_, rfl⟩
    obtain ⟨iu, Iu⟩ : ∃ b, Hid (decide (0 ≤ sideZ mu su dl) = b) := ⟨_, rfl⟩
    obtain ⟨sv, Esv⟩ : ∃ z, Hid (s * pv = z) := ⟨_, rfl⟩
    obtain ⟨iv, Iv⟩ : ∃ b, Hid (decide (0 ≤ sideZ mv sv dl) = b) := ⟨_, rfl⟩
    obtain ⟨ss, Ess⟩ : ∃ z, Hid (s * ps = z) := ⟨_, rfl⟩
    obtain ⟨is, Is⟩ : ∃ b, Hid (decide (0 ≤ sideZ ms ss dl) = b) := ⟨_, rfl⟩
    obtain ⟨st, Est⟩ : ∃ z, Hid (s * pt = z) := ⟨_, rfl⟩
    obtain ⟨it, It⟩ : ∃ b, Hid (decide (0 ≤ sideZ mt st dl) = b) := ⟨_, rfl⟩
    have NXB : Hid (∀ b, b = (tt && iu && is && iv && it) → ((s + 2 = -1 ∧ n + b01 b = 0) ∨ (s + 2 = 1 ∧ n + b01 b = b01 ga) ∨ (s + 2 = 3 ∧ n + b01 b = R))) := Lib.hid (by
      rintro b rfl
      refine NEXT.out _ ?_
      unfold goodS
      simp only [List.all_cons, List.all_nil, Bool.and_true]
      rw [Esu.out, Esv.out, Ess.out, Est.out, Iu.out, Iv.out, Is.out, It.out, ← TT.out]
      cases iu <;> cases is <;> cases iv <;> cases it <;> rfl)
    have BS := Lib.hid bs
    have hmeas : Hid (s ≤ 1) := Lib.hid (by omega)
    clear NEXT hsn bs bga bgb hcon hs3
    rcases hgd with sb | ⟨sb, lb⟩
    all_goals
      go_wp2_with fail
      clear hcr q8r sb
      go_loopw [19, 20] (fun bv kv wr => ∃ (kk : Int) (b : Bool), bv = .bool b ∧ kv = .int .i64 kk ∧ ((kk = 0 ∧ b = tt) ∨ (kk = 1 ∧ b = (tt && iu && is)) ∨ (kk = 2 ∧ b = (tt && iu && is && iv && it))) ∧ Ext V8 wr) (fun _ kv _ => (2 - intOf kv).toNat)
      case atStart => exact ⟨0, _, rfl, rfl, .inl ⟨rfl, TT.out⟩, hv⟩
      case round =>
        obtain ⟨kk, b, rfl, rfl, hkb, hw⟩ := hrel
        have hcq := HC.out wr hw
        have nT := NT.out.ext hw
        have nK := NK.out.ext hw
        have nD := ND.out.ext hw
        have q0r := Nat.lt_of_lt_of_le q0 hw.size
        have q1r := Nat.lt_of_lt_of_le q1 hw.size
        have q2r := Nat.lt_of_lt_of_le q2 hw.size
        have q3r := Nat.lt_of_lt_of_le q3 hw.size
        have q4r := Nat.lt_of_lt_of_le q4 hw.size
        have q5r := Nat.lt_of_lt_of_le q5 hw.size
        have q6r := Nat.lt_of_lt_of_le q6 hw.size
        have q7r := Nat.lt_of_lt_of_le q7 hw.size
        have q8r := Nat.lt_of_lt_of_le q8 hw.size
        rcases hkb with ⟨rfl, hb⟩ | ⟨rfl, hb⟩ | ⟨rfl, hb⟩
        · have HB := Lib.hid hb
          clear hb
          go_upto_region 34 with (fail)
          refine wp_KB (wr.heap.size) (fun W => Ext wr W ∧ wr.heap.size ≤ W.heap.size ∧ W.cell? ⟨w.heap.size, 0, none⟩ = some (.int .i64 k) ∧ W.cell? ⟨w.heap.size, 1, none⟩ = some (.int .i64 ax) ∧ W.cell? ⟨w.heap.size, 2, none⟩ = some (.int .i64 ay) ∧ W.cell? ⟨w.heap.size, 3, none⟩ = some (.int .i64 bx) ∧ W.cell? ⟨w.heap.size, 4, none⟩ = some (.int .i64 by') ∧ W.cell? ⟨w.heap.size, 5, none⟩ = some (.int .i64 cx) ∧ W.cell? ⟨w.heap.size, 6, none⟩ = some (.int .i64 cy) ∧ W.cell? ⟨w.heap.size + 1, 0, none⟩ = some (.int .i64 k') ∧ W.cell? ⟨w.heap.size + 1, 1, none⟩ = some (.int .i64 dx) ∧ W.cell? ⟨w.heap.size + 1, 2, none⟩ = some (.int .i64 dy) ∧ W.cell? ⟨w.heap.size + 1, 3, none⟩ = some (.int .i64 ex) ∧ W.cell? ⟨w.heap.size + 1, 4, none⟩ = some (.int .i64 ey) ∧ W.cell? ⟨w.heap.size + 1, 5, none⟩ = some (.int .i64 fx) ∧ W.cell? ⟨w.heap.size + 1, 6, none⟩ = some (.int .i64 fy) ∧ W.cell? ⟨gu, 0, none⟩ = some (.int .i64 ux) ∧ W.cell? ⟨gu, 1, none⟩ = some (.int .i64 uy) ∧ W.cell? ⟨gu, 2, none⟩ = some (.int .i64 vx) ∧ W.cell? ⟨gu, 3, none⟩ = some (.int .i64 vy) ∧ W.cell? ⟨gv, 0, none⟩ = some (.int .i64 sx) ∧ W.cell? ⟨gv, 1, none⟩ = some (.int .i64 sy) ∧ W.cell? ⟨gv, 2, none⟩ = some (.int .i64 tx) ∧ W.cell? ⟨gv, 3, none⟩ = some (.int .i64 ty) ∧ W.cell? ⟨gd, 0, none⟩ = some (.int .i64 Dx) ∧ W.cell? ⟨gd, 1, none⟩ = some (.int .i64 Dy) ∧ W.cell? ⟨gp, 0, none⟩ = some (.int .i64 Ny) ∧ W.cell? ⟨gp, 1, none⟩ = some (.int .i64 Dx) ∧ W.cell? ⟨g1, 0, none⟩ = some (.bool n1) ∧ W.cell? ⟨g1, 1, none⟩ = some (.slice p1 l1 c1) ∧ W.cell? ⟨g2, 0, none⟩ = some (.bool n2) ∧ W.cell? ⟨g2, 1, none⟩ = some (.slice p2 l2 c2) ∧ W.cell? ⟨g3, 0, none⟩ = some (.bool n3) ∧ W.cell? ⟨g3, 1, none⟩ = some (.slice p3 l3 c3) ∧ W.cell? ⟨g4, 0, none⟩ = some (.bool false) ∧ W.cell? ⟨g4, 1, none⟩ = some (.slice p4 l4 c4)) ?_
          intro hKeep
          (first | refine F_s ?_ | refine F_r ?_)
          (first | refine F_s ?_ | refine F_r ?_)
          cases b
          case' true =>
            repeat (first | refine F_s ?_ | refine F_r ?_)
            (refine F_call (v := .int .i64 du) (by rfl) (by rfl) ?_ ?_; (· (intro W hW; (try dsimp only at hW); go_simp; refine (Cdu.out _).mono ?_; rintro e w' ⟨rfl, hx⟩; exact ⟨_, rfl, rfl, hx⟩))); refine F_put ?_
            repeat (first | refine F_s ?_ | refine F_r ?_)
            refine F_num wr (ofZ du) (by rfl) (by rfl) (by intro W hW; (try dsimp only at hW); have hwW : wr.heap.size ≤ W.heap.size := (by have hzz := hW; (repeat (first | exact hzz.size | exact hzz.1.size | replace hzz := hzz.1))); go_simp; exact (r07_of du _ idu.out).mono fun _ _ h => RetN.isN hwW h) ?_; intro n30 p30 l30 c30 hn30; refine F_put ?_
            repeat (first | refine F_s ?_ | refine F_r ?_)
            refine F_num wr (ofZ mu) (by rfl) (by rfl) (by intro W hW; (try dsimp only at hW); have hwW : wr.heap.size ≤ W.heap.size := (by have hzz := hW; (repeat (first | exact hzz.size | exact hzz.1.size | replace hzz := hzz.1))); go_simp; exact (r07_mul K du n3 n30 p3 p30 l3 c3 l30 c30 W (by have hzz := hW; (try dsimp only at hzz); (repeat (first | exact hzz.2 | exact hzz.1 | exact NR.ext (by assumption) hzz | exact NR.ext (by assumption) hzz.1 | replace hzz := hzz.1))) (by have hzz := hW; (try dsimp only at hzz); (repeat (first | exact hzz.2 | exact hzz.1 | exact NR.ext (by assumption) hzz | exact NR.ext (by assumption) hzz.1 | replace hzz := hzz.1))) (wK.out.small (by omega)) (wdu.out.small (by omega)) mu Emu.out (wmu.out.small (by omega))).mono fun _ _ h => RetN.isN hwW h) ?_; intro n31 p31 l31 c31 hn31; refine F_put ?_
            repeat (first | refine F_s ?_ | refine F_r ?_)
            (refine F_call (v := .int .i64 pu) (by rfl) (by rfl) ?_ ?_; (· (intro W hW; (try dsimp only at hW); go_simp; refine (Cpu.out _).mono ?_; rintro e w' ⟨rfl, hx⟩; exact ⟨_, rfl, rfl, hx⟩))); refine F_put ?_
            repeat (first | refine F_s ?_ | refine F_r ?_)
            refine F_num wr (ofZ pu) (by rfl) (by rfl) (by intro W hW; (try dsimp only at hW); have hwW : wr.heap.size ≤ W.heap.size := (by have hzz := hW; (repeat (first | exact hzz.size | exact hzz.1.size | replace hzz := hzz.1))); go_simp; exact (r07_of pu _ ipu.out).mono fun _ _ h => RetN.isN hwW h) ?_; intro n32 p32 l32 c32 hn32; refine F_put ?_
            repeat (first | refine F_s ?_ | refine F_r ?_)
            (refine F_call (v := .bool iu) (by rfl) (by rfl) ?_ ?_; (· (intro W hW; (try dsimp only at hW); go_simp; refine (r07_positive mu s pu dl su n31 n32 false p31 p32 p4 l31 c31 l32 c32 l4 c4 W (by have hzz := hW; (try dsimp only at hzz); (repeat (first | exact hzz.2 | exact hzz.1 | exact NR.ext (by assumption) hzz | exact NR.ext (by assumption) hzz.1 | replace hzz := hzz.1))) (by have hzz := hW; (try dsimp only at hzz); (repeat (first | exact hzz.2 | exact hzz.1 | exact NR.ext (by assumption) hzz | exact NR.ext (by assumption) hzz.1 | replace hzz := hzz.1))) (by have hzz := hW; (try dsimp only at hzz); (repeat (first | exact hzz.2 | exact hzz.1 | exact NR.ext (by assumption) hzz | exact NR.ext (by assumption) hzz.1 | replace hzz := hzz.1))) (wmu.out.gd (by omega)) (wpu.out.gd (by omega)) (wdl.out.gd (by omega)) D0.out BS.out Esu.out iu Iu.out).mono ?_; rintro e w' ⟨rfl, hx⟩; exact ⟨_, rfl, rfl, hx⟩))); refine F_put ?_
          all_goals
            repeat (first | refine F_s ?_ | refine F_r ?_)
            intro W34 hF
            obtain ⟨hx, hcw⟩ : Ext wr W34 ∧ (fun W => W.cell? ⟨w.heap.size, 0, none⟩ = some (.int .i64 k) ∧ W.cell? ⟨w.heap.size, 1, none⟩ = some (.int .i64 ax) ∧ W.cell? ⟨w.heap.size, 2, none⟩ = some (.int .i64 ay) ∧ W.cell? ⟨w.heap.size, 3, none⟩ = some (.int .i64 bx) ∧ W.cell? ⟨w.heap.size, 4, none⟩ = some (.int .i64 by') ∧ W.cell? ⟨w.heap.size, 5, none⟩ = some (.int .i64 cx) ∧ W.cell? ⟨w.heap.size, 6, none⟩ = some (.int .i64 cy) ∧ W.cell? ⟨w.heap.size + 1, 0, none⟩ = some (.int .i64 k') ∧ W.cell? ⟨w.heap.size + 1, 1, none⟩ = some (.int .i64 dx) ∧ W.cell? ⟨w.heap.size + 1, 2, none⟩ = some (.int .i64 dy) ∧ W.cell? ⟨w.heap.size + 1, 3, none⟩ = some (.int .i64 ex) ∧ W.cell? ⟨w.heap.size + 1, 4, none⟩ = some (.int .i64 ey) ∧ W.cell? ⟨w.heap.size + 1, 5, none⟩ = some (.int .i64 fx) ∧ W.cell? ⟨w.heap.size + 1, 6, none⟩ = some (.int .i64 fy) ∧ W.cell? ⟨gu, 0, none⟩ = some (.int .i64 ux) ∧ W.cell? ⟨gu, 1, none⟩ = some (.int .i64 uy) ∧ W.cell? ⟨gu, 2, none⟩ = some (.int .i64 vx) ∧ W.cell? ⟨gu, 3, none⟩ = some (.int .i64 vy) ∧ W.cell? ⟨gv, 0, none⟩ = some (.int .i64 sx) ∧ W.cell? ⟨gv, 1, none⟩ = some (.int .i64 sy) ∧ W.cell? ⟨gv, 2, none⟩ = some (.int .i64 tx) ∧ W.cell? ⟨gv, 3, none⟩ = some (.int .i64 ty) ∧ W.cell? ⟨gd, 0, none⟩ = some (.int .i64 Dx) ∧ W.cell? ⟨gd, 1, none⟩ = some (.int .i64 Dy) ∧ W.cell? ⟨gp, 0, none⟩ = some (.int .i64 Ny) ∧ W.cell? ⟨gp, 1, none⟩ = some (.int .i64 Dx) ∧ W.cell? ⟨g1, 0, none⟩ = some (.bool n1) ∧ W.cell? ⟨g1, 1, none⟩ = some (.slice p1 l1 c1) ∧ W.cell? ⟨g2, 0, none⟩ = some (.bool n2) ∧ W.cell? ⟨g2, 1, none⟩ = some (.slice p2 l2 c2) ∧ W.cell? ⟨g3, 0, none⟩ = some (.bool n3) ∧ W.cell? ⟨g3, 1, none⟩ = some (.slice p3 l3 c3) ∧ W.cell? ⟨g4, 0, none⟩ = some (.bool false) ∧ W.cell? ⟨g4, 1, none⟩ = some (.slice p4 l4 c4) ) W34 := (by have hzz := hF; (repeat (first | exact ⟨hzz.1, hzz.2.2⟩ | replace hzz := hzz.1)))
            replace hw := Ext.step hw hx
            replace nT := nT.ext hx
            replace nK := nK.ext hx
            replace nD := nD.ext hx
            replace q0r := Nat.lt_of_lt_of_le q0r hx.size
            replace q1r := Nat.lt_of_lt_of_le q1r hx.size
            replace q2r := Nat.lt_of_lt_of_le q2r hx.size
            replace q3r := Nat.lt_of_lt_of_le q3r hx.size
            replace q4r := Nat.lt_of_lt_of_le q4r hx.size
            replace q5r := Nat.lt_of_lt_of_le q5r hx.size
            replace q6r := Nat.lt_of_lt_of_le q6r hx.size
            replace q7r := Nat.lt_of_lt_of_le q7r hx.size
            replace q8r := Nat.lt_of_lt_of_le q8r hx.size
            clear hF hx hcq hKeep
          case' true =>
            cases iu
          all_goals
            go_upto_region 35 with (fail)
            refine wp_KB (W34.heap.size) (fun W => Ext W34 W ∧ W34.heap.size ≤ W.heap.size ∧ W.cell? ⟨w.heap.size, 0, none⟩ = some (.int .i64 k) ∧ W.cell? ⟨w.heap.size, 1, none⟩ = some (.int .i64 ax) ∧ W.cell? ⟨w.heap.size, 2, none⟩ = some (.int .i64 ay) ∧ W.cell? ⟨w.heap.size, 3, none⟩ = some (.int .i64 bx) ∧ W.cell? ⟨w.heap.size, 4, none⟩ = some (.int .i64 by') ∧ W.cell? ⟨w.heap.size, 5, none⟩ = some (.int .i64 cx) ∧ W.cell? ⟨w.heap.size, 6, none⟩ = some (.int .i64 cy) ∧ W.cell? ⟨w.heap.size + 1, 0, none⟩ = some (.int .i64 k') ∧ W.cell? ⟨w.heap.size + 1, 1, none⟩ = some (.int .i64 dx) ∧ W.cell? ⟨w.heap.size + 1, 2, none⟩ = some (.int .i64 dy) ∧ W.cell? ⟨w.heap.size + 1, 3, none⟩ = some (.int .i64 ex) ∧ W.cell? ⟨w.heap.size + 1, 4, none⟩ = some (.int .i64 ey) ∧ W.cell? ⟨w.heap.size + 1, 5, none⟩ = some (.int .i64 fx) ∧ W.cell? ⟨w.heap.size + 1, 6, none⟩ = some (.int .i64 fy) ∧ W.cell? ⟨gu, 0, none⟩ = some (.int .i64 ux) ∧ W.cell? ⟨gu, 1, none⟩ = some (.int .i64 uy) ∧ W.cell? ⟨gu, 2, none⟩ = some (.int .i64 vx) ∧ W.cell? ⟨gu, 3, none⟩ = some (.int .i64 vy) ∧ W.cell? ⟨gv, 0, none⟩ = some (.int .i64 sx) ∧ W.cell? ⟨gv, 1, none⟩ = some (.int .i64 sy) ∧ W.cell? ⟨gv, 2, none⟩ = some (.int .i64 tx) ∧ W.cell? ⟨gv, 3, none⟩ = some (.int .i64 ty) ∧ W.cell? ⟨gd, 0, none⟩ = some (.int .i64 Dx) ∧ W.cell? ⟨gd, 1, none⟩ = some (.int .i64 Dy) ∧ W.cell? ⟨gp, 0, none⟩ = some (.int .i64 Ny) ∧ W.cell? ⟨gp, 1, none⟩ = some (.int .i64 Dx) ∧ W.cell? ⟨g1, 0, none⟩ = some (.bool n1) ∧ W.cell? ⟨g1, 1, none⟩ = some (.slice p1 l1 c1) ∧ W.cell? ⟨g2, 0, none⟩ = some (.bool n2) ∧ W.cell? ⟨g2, 1, none⟩ = some (.slice p2 l2 c2) ∧ W.cell? ⟨g3, 0, none⟩ = some (.bool n3) ∧ W.cell? ⟨g3, 1, none⟩ = some (.slice p3 l3 c3) ∧ W.cell? ⟨g4, 0, none⟩ = some (.bool false) ∧ W.cell? ⟨g4, 1, none⟩ = some (.slice p4 l4 c4)) ?_
            intro hKeep
          case' true.true =>
            repeat (first | refine F_s ?_ | refine F_r ?_)
            refine F_num W34 (ofZ km) (by rfl) (by rfl) (by intro W hW; (try dsimp only at hW); have hwW : W34.heap.size ≤ W.heap.size := (by have hzz := hW; (repeat (first | exact hzz.size | exact hzz.1.size | replace hzz := hzz.1))); go_simp; exact (r07_sub K T2 n3 n2 p3 p2 l3 c3 l2 c2 W (by have hzz := hW; (try dsimp only at hzz); (repeat (first | exact hzz.2 | exact hzz.1 | exact NR.ext (by assumption) hzz | exact NR.ext (by assumption) hzz.1 | replace hzz := hzz.1))) (by have hzz := hW; (try dsimp only at hzz); (repeat (first | exact hzz.2 | exact hzz.1 | exact NR.ext (by assumption) hzz | exact NR.ext (by assumption) hzz.1 | replace hzz := hzz.1))) (wK.out.small (by omega)) (wT2.out.small (by omega)) km Ekm.out (wkm.out.small (by omega))).mono fun _ _ h => RetN.isN hwW h) ?_; intro n40 p40 l40 c40 hn40; refine F_put ?_
            repeat (first | refine F_s ?_ | refine F_r ?_)
            (refine F_call (v := .int .i64 ds) (by rfl) (by rfl) ?_ ?_; (· (intro W hW; (try dsimp only at hW); go_simp; refine (Cds.out _).mono ?_; rintro e w' ⟨rfl, hx⟩; exact ⟨_, rfl, rfl, hx⟩))); refine F_put ?_
            repeat (first | refine F_s ?_ | refine F_r ?_)
            refine F_num W34 (ofZ ds) (by rfl) (by rfl) (by intro W hW; (try dsimp only at hW); have hwW : W34.heap.size ≤ W.heap.size := (by have hzz := hW; (repeat (first | exact hzz.size | exact hzz.1.size | replace hzz := hzz.1))); go_simp; exact (r07_of ds _ ids.out).mono fun _ _ h => RetN.isN hwW h) ?_; intro n41 p41 l41 c41 hn41; refine F_put ?_
            repeat (first | refine F_s ?_ | refine F_r ?_)
            refine F_num W34 (ofZ ms) (by rfl) (by rfl) (by intro W hW; (try dsimp only at hW); have hwW : W34.heap.size ≤ W.heap.size := (by have hzz := hW; (repeat (first | exact hzz.size | exact hzz.1.size | replace hzz := hzz.1))); go_simp; exact (r07_mul km ds n40 n41 p40 p41 l40 c40 l41 c41 W (by have hzz := hW; (try dsimp only at hzz); (repeat (first | exact hzz.2 | exact hzz.1 | exact NR.ext (by assumption) hzz | exact NR.ext (by assumption) hzz.1 | replace hzz := hzz.1))) (by have hzz := hW; (try dsimp only at hzz); (repeat (first | exact hzz.2 | exact hzz.1 | exact NR.ext (by assumption) hzz | exact NR.ext (by assumption) hzz.1 | replace hzz := hzz.1))) (wkm.out.small (by omega)) (wds.out.small (by omega)) ms Ems.out (wms.out.small (by omega))).mono fun _ _ h => RetN.isN hwW h) ?_; intro n42 p42 l42 c42 hn42; refine F_put ?_
            repeat (first | refine F_s ?_ | refine F_r ?_)
            (refine F_call (v := .int .i64 ps) (by rfl) (by rfl) ?_ ?_; (· (intro W hW; (try dsimp only at hW); go_simp; refine (Cps.out _).mono ?_; rintro e w' ⟨rfl, hx⟩; exact ⟨_, rfl, rfl, hx⟩))); refine F_put ?_
            repeat (first | refine F_s ?_ | refine F_r ?_)
            refine F_num W34 (ofZ ps) (by rfl) (by rfl) (by intro W hW; (try dsimp only at hW); have hwW : W34.heap.size ≤ W.heap.size := (by have hzz := hW; (repeat (first | exact hzz.size | exact hzz.1.size | replace hzz := hzz.1))); go_simp; exact (r07_of ps _ ips.out).mono fun _ _ h => RetN.isN hwW h) ?_; intro n43 p43 l43 c43 hn43; refine F_put ?_
            repeat (first | refine F_s ?_ | refine F_r ?_)
            (refine F_call (v := .bool is) (by rfl) (by rfl) ?_ ?_; (· (intro W hW; (try dsimp only at hW); go_simp; refine (r07_positive ms s ps dl ss n42 n43 false p42 p43 p4 l42 c42 l43 c43 l4 c4 W (by have hzz := hW; (try dsimp only at hzz); (repeat (first | exact hzz.2 | exact hzz.1 | exact NR.ext (by assumption) hzz | exact NR.ext (by assumption) hzz.1 | replace hzz := hzz.1))) (by have hzz := hW; (try dsimp only at hzz); (repeat (first | exact hzz.2 | exact hzz.1 | exact NR.ext (by assumption) hzz | exact NR.ext (by assumption) hzz.1 | replace hzz := hzz.1))) (by have hzz := hW; (try dsimp only at hzz); (repeat (first | exact hzz.2 | exact hzz.1 | exact NR.ext (by assumption) hzz | exact NR.ext (by assumption) hzz.1 | replace hzz := hzz.1))) (wms.out.gd (by omega)) (wps.out.gd (by omega)) (wdl.out.gd (by omega)) D0.out BS.out Ess.out is Is.out).mono ?_; rintro e w' ⟨rfl, hx⟩; exact ⟨_, rfl, rfl, hx⟩))); refine F_put ?_
          all_goals
            repeat (first | refine F_s ?_ | refine F_r ?_)
            intro W35 hF
            have hx : Ext W34 W35 := (by have hzz := hF; (repeat (first | exact hzz.1 | replace hzz := hzz.1)))
            replace hw := Ext.step hw hx
            clear hF hx hcw
            go_wp2_with fail
            exact ⟨⟨1, _, rfl, rfl, .inr (.inl ⟨rfl, by rw [← HB.out]; rfl⟩), hw⟩, by simp [intOf]⟩
        · have HB := Lib.hid hb
          clear hb
          go_upto_region 34 with (fail)
          refine wp_KB (wr.heap.size) (fun W => Ext wr W ∧ wr.heap.size ≤ W.heap.size ∧ W.cell? ⟨w.heap.size, 0, none⟩ = some (.int .i64 k) ∧ W.cell? ⟨w.heap.size, 1, none⟩ = some (.int .i64 ax) ∧ W.cell? ⟨w.heap.size, 2, none⟩ = some (.int .i64 ay) ∧ W.cell? ⟨w.heap.size, 3, none⟩ = some (.int .i64 bx) ∧ W.cell? ⟨w.heap.size, 4, none⟩ = some (.int .i64 by') ∧ W.cell? ⟨w.heap.size, 5, none⟩ = some (.int .i64 cx) ∧ W.cell? ⟨w.heap.size, 6, none⟩ = some (.int .i64 cy) ∧ W.cell? ⟨w.heap.size + 1, 0, none⟩ = some (.int .i64 k') ∧ W.cell? ⟨w.heap.size + 1, 1, none⟩ = some (.int .i64 dx) ∧ W.cell? ⟨w.heap.size + 1, 2, none⟩ = some (.int .i64 dy) ∧ W.cell? ⟨w.heap.size + 1, 3, none⟩ = some (.int .i64 ex) ∧ W.cell? ⟨w.heap.size + 1, 4, none⟩ = some (.int .i64 ey) ∧ W.cell? ⟨w.heap.size + 1, 5, none⟩ = some (.int .i64 fx) ∧ W.cell? ⟨w.heap.size + 1, 6, none⟩ = some (.int .i64 fy) ∧ W.cell? ⟨gu, 0, none⟩ = some (.int .i64 ux) ∧ W.cell? ⟨gu, 1, none⟩ = some (.int .i64 uy) ∧ W.cell? ⟨gu, 2, none⟩ = some (.int .i64 vx) ∧ W.cell? ⟨gu, 3, none⟩ = some (.int .i64 vy) ∧ W.cell? ⟨gv, 0, none⟩ = some (.int .i64 sx) ∧ W.cell? ⟨gv, 1, none⟩ = some (.int .i64 sy) ∧ W.cell? ⟨gv, 2, none⟩ = some (.int .i64 tx) ∧ W.cell? ⟨gv, 3, none⟩ = some (.int .i64 ty) ∧ W.cell? ⟨gd, 0, none⟩ = some (.int .i64 Dx) ∧ W.cell? ⟨gd, 1, none⟩ = some (.int .i64 Dy) ∧ W.cell? ⟨gp, 0, none⟩ = some (.int .i64 Ny) ∧ W.cell? ⟨gp, 1, none⟩ = some (.int .i64 Dx) ∧ W.cell? ⟨g1, 0, none⟩ = some (.bool n1) ∧ W.cell? ⟨g1, 1, none⟩ = some (.slice p1 l1 c1) ∧ W.cell? ⟨g2, 0, none⟩ = some (.bool n2) ∧ W.cell? ⟨g2, 1, none⟩ = some (.slice p2 l2 c2) ∧ W.cell? ⟨g3, 0, none⟩ = some (.bool n3) ∧ W.cell? ⟨g3, 1, none⟩ = some (.slice p3 l3 c3) ∧ W.cell? ⟨g4, 0, none⟩ = some (.bool false) ∧ W.cell? ⟨g4, 1, none⟩ = some (.slice p4 l4 c4)) ?_
          intro hKeep
          (first | refine F_s ?_ | refine F_r ?_)
          (first | refine F_s ?_ | refine F_r ?_)
          cases b
          case' true =>
            repeat (first | refine F_s ?_ | refine F_r ?_)
            (refine F_call (v := .int .i64 dv) (by rfl) (by rfl) ?_ ?_; (· (intro W hW; (try dsimp only at hW); go_simp; refine (Cdv.out _).mono ?_; rintro e w' ⟨rfl, hx⟩; exact ⟨_, rfl, rfl, hx⟩))); refine F_put ?_
            repeat (first | refine F_s ?_ | refine F_r ?_)
            refine F_num wr (ofZ dv) (by rfl) (by rfl) (by intro W hW; (try dsimp only at hW); have hwW : wr.heap.size ≤ W.heap.size := (by have hzz := hW; (repeat (first | exact hzz.size | exact hzz.1.size | replace hzz := hzz.1))); go_simp; exact (r07_of dv _ idv.out).mono fun _ _ h => RetN.isN hwW h) ?_; intro n30 p30 l30 c30 hn30; refine F_put ?_
            repeat (first | refine F_s ?_ | refine F_r ?_)
            refine F_num wr (ofZ mv) (by rfl) (by rfl) (by intro W hW; (try dsimp only at hW); have hwW : wr.heap.size ≤ W.heap.size := (by have hzz := hW; (repeat (first | exact hzz.size | exact hzz.1.size | replace hzz := hzz.1))); go_simp; exact (r07_mul K dv n3 n30 p3 p30 l3 c3 l30 c30 W (by have hzz := hW; (try dsimp only at hzz); (repeat (first | exact hzz.2 | exact hzz.1 | exact NR.ext (by assumption) hzz | exact NR.ext (by assumption) hzz.1 | replace hzz := hzz.1))) (by have hzz := hW; (try dsimp only at hzz); (repeat (first | exact hzz.2 | exact hzz.1 | exact NR.ext (by assumption) hzz | exact NR.ext (by assumption) hzz.1 | replace hzz := hzz.1))) (wK.out.small (by omega)) (wdv.out.small (by omega)) mv Emv.out (wmv.out.small (by omega))).mono fun _ _ h => RetN.isN hwW h) ?_; intro n31 p31 l31 c31 hn31; refine F_put ?_
            repeat (first | refine F_s ?_ | refine F_r ?_)
            (refine F_call (v := .int .i64 pv) (by rfl) (by rfl) ?_ ?_; (· (intro W hW; (try dsimp only at hW); go_simp; refine (Cpv.out _).mono ?_; rintro e w' ⟨rfl, hx⟩; exact ⟨_, rfl, rfl, hx⟩))); refine F_put ?_
            repeat (first | refine F_s ?_ | refine F_r ?_)
            refine F_num wr (ofZ pv) (by rfl) (by rfl) (by intro W hW; (try dsimp only at hW); have hwW : wr.heap.size ≤ W.heap.size := (by have hzz := hW; (repeat (first | exact hzz.size | exact hzz.1.size | replace hzz := hzz.1))); go_simp; exact (r07_of pv _ ipv.out).mono fun _ _ h => RetN.isN hwW h) ?_; intro n32 p32 l32 c32 hn32; refine F_put ?_
            repeat (first | refine F_s ?_ | refine F_r ?_)
            (refine F_call (v := .bool iv) (by rfl) (by rfl) ?_ ?_; (· (intro W hW; (try dsimp only at hW); go_simp; refine (r07_positive mv s pv dl sv n31 n32 false p31 p32 p4 l31 c31 l32 c32 l4 c4 W (by have hzz := hW; (try dsimp only at hzz); (repeat (first | exact hzz.2 | exact hzz.1 | exact NR.ext (by assumption) hzz | exact NR.ext (by assumption) hzz.1 | replace hzz := hzz.1))) (by have hzz := hW; (try dsimp only at hzz); (repeat (first | exact hzz.2 | exact hzz.1 | exact NR.ext (by assumption) hzz | exact NR.ext (by assumption) hzz.1 | replace hzz := hzz.1))) (by have hzz := hW; (try dsimp only at hzz); (repeat (first | exact hzz.2 | exact hzz.1 | exact NR.ext (by assumption) hzz | exact NR.ext (by assumption) hzz.1 | replace hzz := hzz.1))) (wmv.out.gd (by omega)) (wpv.out.gd (by omega)) (wdl.out.gd (by omega)) D0.out BS.out Esv.out iv Iv.out).mono ?_; rintro e w' ⟨rfl, hx⟩; exact ⟨_, rfl, rfl, hx⟩))); refine F_put ?_
          all_goals
            repeat (first | refine F_s ?_ | refine F_r ?_)
            intro W34 hF
            obtain ⟨hx, hcw⟩ : Ext wr W34 ∧ (fun W => W.cell? ⟨w.heap.size, 0, none⟩ = some (.int .i64 k) ∧ W.cell? ⟨w.heap.size, 1, none⟩ = some (.int .i64 ax) ∧ W.cell? ⟨w.heap.size, 2, none⟩ = some (.int .i64 ay) ∧ W.cell? ⟨w.heap.size, 3, none⟩ = some (.int .i64 bx) ∧ W.cell? ⟨w.heap.size, 4, none⟩ = some (.int .i64 by') ∧ W.cell? ⟨w.heap.size, 5, none⟩ = some (.int .i64 cx) ∧ W.cell? ⟨w.heap.size, 6, none⟩ = some (.int .i64 cy) ∧ W.cell? ⟨w.heap.size + 1, 0, none⟩ = some (.int .i64 k') ∧ W.cell? ⟨w.heap.size + 1, 1, none⟩ = some (.int .i64 dx) ∧ W.cell? ⟨w.heap.size + 1, 2, none⟩ = some (.int .i64 dy) ∧ W.cell? ⟨w.heap.size + 1, 3, none⟩ = some (.int .i64 ex) ∧ W.cell? ⟨w.heap.size + 1, 4, none⟩ = some (.int .i64 ey) ∧ W.cell? ⟨w.heap.size + 1, 5, none⟩ = some (.int .i64 fx) ∧ W.cell? ⟨w.heap.size + 1, 6, none⟩ = some (.int .i64 fy) ∧ W.cell? ⟨gu, 0, none⟩ = some (.int .i64 ux) ∧ W.cell? ⟨gu, 1, none⟩ = some (.int .i64 uy) ∧ W.cell? ⟨gu, 2, none⟩ = some (.int .i64 vx) ∧ W.cell? ⟨gu, 3, none⟩ = some (.int .i64 vy) ∧ W.cell? ⟨gv, 0, none⟩ = some (.int .i64 sx) ∧ W.cell? ⟨gv, 1, none⟩ = some (.int .i64 sy) ∧ W.cell? ⟨gv, 2, none⟩ = some (.int .i64 tx) ∧ W.cell? ⟨gv, 3, none⟩ = some (.int .i64 ty) ∧ W.cell? ⟨gd, 0, none⟩ = some (.int .i64 Dx) ∧ W.cell? ⟨gd, 1, none⟩ = some (.int .i64 Dy) ∧ W.cell? ⟨gp, 0, none⟩ = some (.int .i64 Ny) ∧ W.cell? ⟨gp, 1, none⟩ = some (.int .i64 Dx) ∧ W.cell? ⟨g1, 0, none⟩ = some (.bool n1) ∧ W.cell? ⟨g1, 1, none⟩ = some (.slice p1 l1 c1) ∧ W.cell? ⟨g2, 0, none⟩ = some (.bool n2) ∧ W.cell? ⟨g2, 1, none⟩ = some (.slice p2 l2 c2) ∧ W.cell? ⟨g3, 0, none⟩ = some (.bool n3) ∧ W.cell? ⟨g3, 1, none⟩ = some (.slice p3 l3 c3) ∧ W.cell? ⟨g4, 0, none⟩ = some (.bool false) ∧ W.cell? ⟨g4, 1, none⟩ = some (.slice p4 l4 c4) ) W34 := (by have hzz := hF; (repeat (first | exact ⟨hzz.1, hzz.2.2⟩ | replace hzz := hzz.1)))
            replace hw := Ext.step hw hx
            replace nT := nT.ext hx
            replace nK := nK.ext hx
            replace nD := nD.ext hx
            replace q0r := Nat.lt_of_lt_of_le q0r hx.size
            replace q1r := Nat.lt_of_lt_of_le q1r hx.size
            replace q2r := Nat.lt_of_lt_of_le q2r hx.size
            replace q3r := Nat.lt_of_lt_of_le q3r hx.size
            replace q4r := Nat.lt_of_lt_of_le q4r hx.size
            replace q5r := Nat.lt_of_lt_of_le q5r hx.size
            replace q6r := Nat.lt_of_lt_of_le q6r hx.size
            replace q7r := Nat.lt_of_lt_of_le q7r hx.size
            replace q8r := Nat.lt_of_lt_of_le q8r hx.size
            clear hF hx hcq hKeep
          case' true =>
            cases iv
          all_goals
            go_upto_region 35 with (fail)
            refine wp_KB (W34.heap.size) (fun W => Ext W34 W ∧ W34.heap.size ≤ W.heap.size ∧ W.cell? ⟨w.heap.size, 0, none⟩ = some (.int .i64 k) ∧ W.cell? ⟨w.heap.size, 1, none⟩ = some (.int .i64 ax) ∧ W.cell? ⟨w.heap.size, 2, none⟩ = some (.int .i64 ay) ∧ W.cell? ⟨w.heap.size, 3, none⟩ = some (.int .i64 bx) ∧ W.cell? ⟨w.heap.size, 4, none⟩ = some (.int .i64 by') ∧ W.cell? ⟨w.heap.size, 5, none⟩ = some (.int .i64 cx) ∧ W.cell? ⟨w.heap.size, 6, none⟩ = some (.int .i64 cy) ∧ W.cell? ⟨w.heap.size + 1, 0, none⟩ = some (.int .i64 k') ∧ W.cell? ⟨w.heap.size + 1, 1, none⟩ = some (.int .i64 dx) ∧ W.cell? ⟨w.heap.size + 1, 2, none⟩ = some (.int .i64 dy) ∧ W.cell? ⟨w.heap.size + 1, 3, none⟩ = some (.int .i64 ex) ∧ W.cell? ⟨w.heap.size + 1, 4, none⟩ = some (.int .i64 ey) ∧ W.cell? ⟨w.heap.size + 1, 5, none⟩ = some (.int .i64 fx) ∧ W.cell? ⟨w.heap.size + 1, 6, none⟩ = some (.int .i64 fy) ∧ W.cell? ⟨gu, 0, none⟩ = some (.int .i64 ux) ∧ W.cell? ⟨gu, 1, none⟩ = some (.int .i64 uy) ∧ W.cell? ⟨gu, 2, none⟩ = some (.int .i64 vx) ∧ W.cell? ⟨gu, 3, none⟩ = some (.int .i64 vy) ∧ W.cell? ⟨gv, 0, none⟩ = some (.int .i64 sx) ∧ W.cell? ⟨gv, 1, none⟩ = some (.int .i64 sy) ∧ W.cell? ⟨gv, 2, none⟩ = some (.int .i64 tx) ∧ W.cell? ⟨gv, 3, none⟩ = some (.int .i64 ty) ∧ W.cell? ⟨gd, 0, none⟩ = some (.int .i64 Dx) ∧ W.cell? ⟨gd, 1, none⟩ = some (.int .i64 Dy) ∧ W.cell? ⟨gp, 0, none⟩ = some (.int .i64 Ny) ∧ W.cell? ⟨gp, 1, none⟩ = some (.int .i64 Dx) ∧ W.cell? ⟨g1, 0, none⟩ = some (.bool n1) ∧ W.cell? ⟨g1, 1, none⟩ = some (.slice p1 l1 c1) ∧ W.cell? ⟨g2, 0, none⟩ = some (.bool n2) ∧ W.cell? ⟨g2, 1, none⟩ = some (.slice p2 l2 c2) ∧ W.cell? ⟨g3, 0, none⟩ = some (.bool n3) ∧ W.cell? ⟨g3, 1, none⟩ = some (.slice p3 l3 c3) ∧ W.cell? ⟨g4, 0, none⟩ = some (.bool false) ∧ W.cell? ⟨g4, 1, none⟩ = some (.slice p4 l4 c4)) ?_
            intro hKeep
          case' true.true =>
            repeat (first | refine F_s ?_ | refine F_r ?_)
            refine F_num W34 (ofZ km) (by rfl) (by rfl) (by intro W hW; (try dsimp only at hW); have hwW : W34.heap.size ≤ W.heap.size := (by have hzz := hW; (repeat (first | exact hzz.size | exact hzz.1.size | replace hzz := hzz.1))); go_simp; exact (r07_sub K T2 n3 n2 p3 p2 l3 c3 l2 c2 W (by have hzz := hW; (try dsimp only at hzz); (repeat (first | exact hzz.2 | exact hzz.1 | exact NR.ext (by assumption) hzz | exact NR.ext (by assumption) hzz.1 | replace hzz := hzz.1))) (by have hzz := hW; (try dsimp only at hzz); (repeat (first | exact hzz.2 | exact hzz.1 | exact NR.ext (by assumption) hzz | exact NR.ext (by assumption) hzz.1 | replace hzz := hzz.1))) (wK.out.small (by omega)) (wT2.out.small (by omega)) km Ekm.out (wkm.out.small (by omega))).mono fun _ _ h => RetN.isN hwW h) ?_; intro n40 p40 l40 c40 hn40; refine F_put ?_
            repeat (first | refine F_s ?_ | refine F_r ?_)
            (refine F_call (v := .int .i64 dt) (by rfl) (by rfl) ?_ ?_; (· (intro W hW; (try dsimp only at hW); go_simp; refine (Cdt.out _).mono ?_; rintro e w' ⟨rfl, hx⟩; exact ⟨_, rfl, rfl, hx⟩))); refine F_put ?_
            repeat (first | refine F_s ?_ | refine F_r ?_)
            refine F_num W34 (ofZ dt) (by rfl) (by rfl) (by intro W hW; (try dsimp only at hW); have hwW : W34.heap.size ≤ W.heap.size := (by have hzz := hW; (repeat (first | exact hzz.size | exact hzz.1.size | replace hzz := hzz.1))); go_simp; exact (r07_of dt _ idt.out).mono fun _ _ h => RetN.isN hwW h) ?_; intro n41 p41 l41 c41 hn41; refine F_put ?_
            repeat (first | refine F_s ?_ | refine F_r ?_)
            refine F_num W34 (ofZ mt) (by rfl) (by rfl) (by intro W hW; (try dsimp only at hW); have hwW : W34.heap.size ≤ W.heap.size := (by have hzz := hW; (repeat (first | exact hzz.size | exact hzz.1.size | replace hzz := hzz.1))); go_simp; exact (r07_mul km dt n40 n41 p40 p41 l40 c40 l41 c41 W (by have hzz := hW; (try dsimp only at hzz); (repeat (first | exact hzz.2 | exact hzz.1 | exact NR.ext (by assumption) hzz | exact NR.ext (by assumption) hzz.1 | replace hzz := hzz.1))) (by have hzz := hW; (try dsimp only at hzz); (repeat (first | exact hzz.2 | exact hzz.1 | exact NR.ext (by assumption) hzz | exact NR.ext (by assumption) hzz.1 | replace hzz := hzz.1))) (wkm.out.small (by omega)) (wdt.out.small (by omega)) mt Emt.out (wmt.out.small (by omega))).mono fun _ _ h => RetN.isN hwW h) ?_; intro n42 p42 l42 c42 hn42; refine F_put ?_
            repeat (first | refine F_s ?_ | refine F_r ?_)
            (refine F_call (v := .int .i64 pt) (by rfl) (by rfl) ?_ ?_; (· (intro W hW; (try dsimp only at hW); go_simp; refine (Cpt.out _).mono ?_; rintro e w' ⟨rfl, hx⟩; exact ⟨_, rfl, rfl, hx⟩))); refine F_put ?_
            repeat (first | refine F_s ?_ | refine F_r ?_)
            refine F_num W34 (ofZ pt) (by rfl) (by rfl) (by intro W hW; (try dsimp only at hW); have hwW : W34.heap.size ≤ W.heap.size := (by have hzz := hW; (repeat (first | exact hzz.size | exact hzz.1.size | replace hzz := hzz.1))); go_simp; exact (r07_of pt _ ipt.out).mono fun _ _ h => RetN.isN hwW h) ?_; intro n43 p43 l43 c43 hn43; refine F_put ?_
            repeat (first | refine F_s ?_ | refine F_r ?_)
            (refine F_call (v := .bool it) (by rfl) (by rfl) ?_ ?_; (· (intro W hW; (try dsimp only at hW); go_simp; refine (r07_positive mt s pt dl st n42 n43 false p42 p43 p4 l42 c42 l43 c43 l4 c4 W (by have hzz := hW; (try dsimp only at hzz); (repeat (first | exact hzz.2 | exact hzz.1 | exact NR.ext (by assumption) hzz | exact NR.ext (by assumption) hzz.1 | replace hzz := hzz.1))) (by have hzz := hW; (try dsimp only at hzz); (repeat (first | exact hzz.2 | exact hzz.1 | exact NR.ext (by assumption) hzz | exact NR.ext (by assumption) hzz.1 | replace hzz := hzz.1))) (by have hzz := hW; (try dsimp only at hzz); (repeat (first | exact hzz.2 | exact hzz.1 | exact NR.ext (by assumption) hzz | exact NR.ext (by assumption) hzz.1 | replace hzz := hzz.1))) (wmt.out.gd (by omega)) (wpt.out.gd (by omega)) (wdl.out.gd (by omega)) D0.out BS.out Est.out it It.out).mono ?_; rintro e w' ⟨rfl, hx⟩; exact ⟨_, rfl, rfl, hx⟩))); refine F_put ?_
          all_goals
            repeat (first | refine F_s ?_ | refine F_r ?_)
            intro W35 hF
            have hx : Ext W34 W35 := (by have hzz := hF; (repeat (first | exact hzz.1 | replace hzz := hzz.1)))
            replace hw := Ext.step hw hx
            clear hF hx hcw
            go_wp2_with fail
            exact ⟨⟨2, _, rfl, rfl, .inr (.inr ⟨rfl, by rw [← HB.out]; rfl⟩), hw⟩, by simp [intOf]⟩
        · have NB := Lib.hid (NXB.out b hb)
          clear hb hcq NXB nT nK nD
          cases b
          · go_wp2_with fail
            exact ⟨⟨s + 2, n, rfl, rfl, by have h := NB.out; rw [show b01 false = 0 from rfl, Int.add_zero] at h; exact h, hw⟩, by simp [intOf]; have := hmeas.out; omega⟩
          · go_wp2_with fail
            exact ⟨⟨s + 2, n + 1, rfl, rfl, NB.out, hw⟩, by simp [intOf]; have := hmeas.out; omega⟩
theorem r07_arcs (k ax ay bx by' cx cy k' dx dy ex ey fx fy : Int) (w : World) (he : (Ed.mk k ax ay bx by' cx cy).ok = true) (hf : (Ed.mk k' dx dy ex ey fx fy).ok = true) (hk : ¬ k = 1) (hk' : ¬ k' = 1) (R : Int) (hR : arcsZ (Ed.mk k ax ay bx by' cx cy) (Ed.mk k' dx dy ex ey fx fy) = R) :
    Calls Tryz.prog 26 #[.agg #[.int .i64 k, .int .i64 ax, .int .i64 ay, .int .i64 bx, .int .i64 by', .int .i64 cx, .int .i64 cy], .agg #[.int .i64 k', .int .i64 dx, .int .i64 dy, .int .i64 ex, .int .i64 ey, .int .i64 fx, .int .i64 fy]] w fun e w' => e = .returned (.int .i64 R) ∧ Ext w w' := by
  by_cases hc : cx = fx ∧ cy = fy
  · exact r07_arcs_same k ax ay bx by' cx cy k' dx dy ex ey fx fy w he hf hk hk' hc R hR
  · exact r07_arcs_apart k ax ay bx by' cx cy k' dx dy ex ey fx fy w he hf hk hk' hc R hR
end Go.Proofs.YtmmhiiiaccldmaaGreat
