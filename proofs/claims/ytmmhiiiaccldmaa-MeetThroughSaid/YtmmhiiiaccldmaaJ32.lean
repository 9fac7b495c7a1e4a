/- The law MeetThrough: its walk. -/
import Derived.Test.YtmmhiiiaccldmaaJ26
import Derived.Test.YtmmhiiiaccldmaaJ29
import Derived.Test.YtmmhiiiaccldmaaJ30
import Derived.Test.YtmmhiiiaccldmaaJ31
import Derived.Deep.DeepCutAuto
set_option linter.unusedVariables false
set_option linter.unusedSimpArgs false

namespace Go.Proofs.Ytmmhiiiaccldmaa
open Go.RowKit
attribute [local go_sem] Gives givesU

theorem tmod_i64 (n : Int) {m : Int} (h : 0 < m) (hm : m ≤ 4294967296) : IntKind.i64.wrap (n.tmod m) = n.tmod m := by
  obtain ⟨h1, h2⟩ := tmod_bd n h
  exact wrap_in (by unfold I64; omega)
theorem wp_region_cut {P : Program} {id : Nat} {ops : Array Oper} {d : Bool} {Q : Exit → Act → World → Prop} {a : Act} {w : World} (l : List (Nat × Value)) (R : World → Prop)
    (h : (Code.region id ops d).wp P (fun e a' w' => e = .normal ∧ a' = l.foldl (fun a p => a.put (some p.1) p.2) a ∧ R w') a w) (k : ∀ w', R w' → Q .normal (l.foldl (fun a p => a.put (some p.1) p.2) a) w') : (Code.region id ops d).wp P Q a w :=
  Code.wp_mono (fun e a w h => by obtain ⟨rfl, rfl, hr⟩ := h; exact k _ hr) h
set_option maxRecDepth 100000 in
set_option maxHeartbeats 16000000 in
theorem Through_core (ux uy vx vy a0 a1 a2 x1 y1 x2 y2 px py r0 r sx sy n : Int) (w : World)
    (X1 : ux.tmod 50 = x1) (Y1 : uy.tmod 50 = y1) (X2 : vx.tmod 50 = x2) (Y2 : vy.tmod 50 = y2)
    (PX : a0.tmod 1000 = px) (PY : a1.tmod 1000 = py) (MR : ∀ W, Calls Try.prog 14 #[.int .i64 a2, .int .i64 60] W fun e w' => e = .returned (.int .i64 r0) ∧ Ext W w')
    (hr : IntKind.i64.wrap (1 + r0) = r) (b1 : -49 ≤ x1 ∧ x1 ≤ 49) (b2 : -49 ≤ y1 ∧ y1 ≤ 49) (b3 : -49 ≤ x2 ∧ x2 ≤ 49) (b4 : -49 ≤ y2 ∧ y2 ≤ 49) (b5 : -999 ≤ px ∧ px ≤ 999) (b6 : -999 ≤ py ∧ py ≤ 999) (b7 : 1 ≤ r ∧ r ≤ 60)
    (SX : px + 60 * max x1 (-x1) = sx) (SY : py + 60 * max y1 (-y1) = sy) (hn : n = if x1 = 0 ∧ y1 = 0 then 0 else 1)
    (CN : x1 * y2 - y1 * x2 ≠ 0 → ∀ W, Calls Try.prog 10 #[.agg #[.int .i64 1, .int .i64 (px - x1), .int .i64 (py - y1), .int .i64 (px + x1), .int .i64 (py + y1), .int .i64 0, .int .i64 0], .agg #[.int .i64 1, .int .i64 (px - x2), .int .i64 (py - y2), .int .i64 (px + x2), .int .i64 (py + y2), .int .i64 0, .int .i64 0]] W fun e w' => e = .returned (.int .i64 1) ∧ Ext W w')
    (CR : ∀ W, Calls Try.prog 10 #[.agg #[.int .i64 1, .int .i64 px, .int .i64 py, .int .i64 sx, .int .i64 sy, .int .i64 0, .int .i64 0], .agg #[.int .i64 2, .int .i64 (px + r), .int .i64 py, .int .i64 px, .int .i64 (py + r), .int .i64 px, .int .i64 py]] W fun e w' => e = .returned (.int .i64 n) ∧ Ext W w')
    (CK : ∀ W, Calls Try.prog 15 #[.agg #[.int .i64 2, .int .i64 (px + r), .int .i64 py, .int .i64 px, .int .i64 (py + r), .int .i64 px, .int .i64 py]] W fun e w' => e = .returned (.int .i64 0) ∧ Ext W w') :
    Calls Try.prog 4 #[.agg #[.int .i64 ux, .int .i64 uy], .agg #[.int .i64 vx, .int .i64 vy], .agg #[.int .i64 a0, .int .i64 a1, .int .i64 a2]] w fun e w' => e = .returned (.bool true) ∧ Ext w w' := by
  have SN := Lib.hid law_sanity
  replace MR := Lib.hid MR
  have CN := Lib.hid CN
  replace CR := Lib.hid CR
  replace CK := Lib.hid CK
  have S1 := Lib.hid (fun w => r05_Sub px py x1 y1 w (by unfold I64; omega) (by unfold I64; omega))
  have A1 := Lib.hid (fun w => r05_Add px py x1 y1 w (by unfold I64; omega) (by unfold I64; omega))
  have S2 := Lib.hid (fun w => r05_Sub px py x2 y2 w (by unfold I64; omega) (by unfold I64; omega))
  have A2 := Lib.hid (fun w => r05_Add px py x2 y2 w (by unfold I64; omega) (by unfold I64; omega))
  have HN := Lib.hid hn
  clear hn
  go_enter Try.func4, Try.ntmps4
  go_wp2_with fail
  refine (SN.out _).mono ?_
  rintro e w1 ⟨rfl, hx⟩
  have hx0 : Ext w w1 := Ext.step (by (repeat (first | exact Below.refl _ _ | assumption | refine Below.drewN ?_ _ | refine Below.drew ?_ | refine Below.setCell ?_ (by first | exact Nat.le_refl _ | (simp; done) | (simp; omega) | omega) _ | refine Below.alloc ?_ (by first | exact Nat.le_refl _ | (simp; done) | (simp; omega) | omega) _))) hx
  have hs0 := hx0.size
  have hz_w1 : w.heap.size + 3 ≤ w1.heap.size := Nat.le_trans (by first | omega | (simp; done) | (simp; omega)) hx.size
  have hl_w1_0 : w.heap.size < w1.heap.size := Nat.lt_of_lt_of_le (by omega) hz_w1
  have hk_w1_0 : ∀ o, w1.cell? ⟨w.heap.size, o, none⟩ = _ := fun o => hx.cell (p := ⟨w.heap.size, o, none⟩) (show w.heap.size < _ from (by first | omega | (simp; done) | (simp; omega)))
  have hf_w1_0 : ∀ o, w1.frozen? ⟨w.heap.size, o, none⟩ = _ := fun o => hx.frozen (p := ⟨w.heap.size, o, none⟩) (show w.heap.size < _ from (by first | omega | (simp; done) | (simp; omega)))
  have hl_w1_1 : w.heap.size + 1 < w1.heap.size := Nat.lt_of_lt_of_le (by omega) hz_w1
  have hk_w1_1 : ∀ o, w1.cell? ⟨w.heap.size + 1, o, none⟩ = _ := fun o => hx.cell (p := ⟨w.heap.size + 1, o, none⟩) (show w.heap.size + 1 < _ from (by first | omega | (simp; done) | (simp; omega)))
  have hf_w1_1 : ∀ o, w1.frozen? ⟨w.heap.size + 1, o, none⟩ = _ := fun o => hx.frozen (p := ⟨w.heap.size + 1, o, none⟩) (show w.heap.size + 1 < _ from (by first | omega | (simp; done) | (simp; omega)))
  have hl_w1_2 : w.heap.size + 2 < w1.heap.size := Nat.lt_of_lt_of_le (by omega) hz_w1
  have hk_w1_2 : ∀ o, w1.cell? ⟨w.heap.size + 2, o, none⟩ = _ := fun o => hx.cell (p := ⟨w.heap.size + 2, o, none⟩) (show w.heap.size + 2 < _ from (by first | omega | (simp; done) | (simp; omega)))
  have hf_w1_2 : ∀ o, w1.frozen? ⟨w.heap.size + 2, o, none⟩ = _ := fun o => hx.frozen (p := ⟨w.heap.size + 2, o, none⟩) (show w.heap.size + 2 < _ from (by first | omega | (simp; done) | (simp; omega)))
  clear hx
  have c0 : w1.cell? ⟨w.heap.size, 0, none⟩ = some (.int .i64 ux) := by go_simp
  have c1 : w1.cell? ⟨w.heap.size, 1, none⟩ = some (.int .i64 uy) := by go_simp
  have c2 : w1.cell? ⟨w.heap.size + 1, 0, none⟩ = some (.int .i64 vx) := by go_simp
  have c3 : w1.cell? ⟨w.heap.size + 1, 1, none⟩ = some (.int .i64 vy) := by go_simp
  have c4 : w1.cell? ⟨w.heap.size + 2, 0, none⟩ = some (.int .i64 a0) := by go_simp
  have c5 : w1.cell? ⟨w.heap.size + 2, 1, none⟩ = some (.int .i64 a1) := by go_simp
  have c6 : w1.cell? ⟨w.heap.size + 2, 2, none⟩ = some (.int .i64 a2) := by go_simp
  have f0 : ∀ o, w1.frozen? ⟨w.heap.size, o, none⟩ = false := by intro o; go_simp
  have f1 : ∀ o, w1.frozen? ⟨w.heap.size + 1, o, none⟩ = false := by intro o; go_simp
  clear hk_w1_0 hk_w1_1 hk_w1_2 hf_w1_0 hf_w1_1 hf_w1_2
  go_wp2_with fail
  refine wp_region_Q 15 (fun o => match o.dst with | some d => [18, 21].contains d | none => false) (fun W => Ext w W ∧ w1.heap.size ≤ W.heap.size ∧ W.cell? ⟨w.heap.size + 1, 0, none⟩ = some (.int .i64 vx) ∧ W.cell? ⟨w.heap.size + 1, 1, none⟩ = some (.int .i64 vy) ∧ W.cell? ⟨w.heap.size + 1 + 1, 0, none⟩ = some (.int .i64 a0) ∧ W.cell? ⟨w.heap.size + 1 + 1, 1, none⟩ = some (.int .i64 a1) ∧ W.cell? ⟨w.heap.size + 1 + 1, 2, none⟩ = some (.int .i64 a2) ∧ (∀ o, W.frozen? ⟨w.heap.size + 1, o, none⟩ = false)) (fun W => (Ext w W ∧ w1.heap.size ≤ W.heap.size ∧ W.cell? ⟨w.heap.size + 1, 0, none⟩ = some (.int .i64 vx) ∧ W.cell? ⟨w.heap.size + 1, 1, none⟩ = some (.int .i64 vy) ∧ W.cell? ⟨w.heap.size + 1 + 1, 0, none⟩ = some (.int .i64 a0) ∧ W.cell? ⟨w.heap.size + 1 + 1, 1, none⟩ = some (.int .i64 a1) ∧ W.cell? ⟨w.heap.size + 1 + 1, 2, none⟩ = some (.int .i64 a2) ∧ (∀ o, W.frozen? ⟨w.heap.size + 1, o, none⟩ = false)) ∧ W.cell? ⟨w.heap.size, 0, none⟩ = some (.int .i64 ux) ∧ W.cell? ⟨w.heap.size, 1, none⟩ = some (.int .i64 uy) ∧ (∀ o, W.frozen? ⟨w.heap.size, o, none⟩ = false)) (by kernel_rfl) (by kernel_rfl) (by kernel_rfl) (by kernel_rfl) ?_ ?_ (fun _ h => h.1) ?_ ?_
  · refine ⟨⟨by (repeat (first | exact Below.refl _ _ | assumption | refine Below.drewN ?_ _ | refine Below.drew ?_ | refine Below.setCell ?_ (by first | exact Nat.le_refl _ | (simp; done) | (simp; omega) | omega) _ | refine Below.alloc ?_ (by first | exact Nat.le_refl _ | (simp; done) | (simp; omega) | omega) _)), by first | omega | (simp; done) | (simp; omega), ?_⟩, ?_⟩ <;> (try go_simp)
  · (intro W W' h hb; obtain ⟨⟨hx, hz, hc⟩, hr⟩ := h; have hbc : ∀ b o, b < W.heap.size → W'.cell? ⟨b, o, none⟩ = W.cell? ⟨b, o, none⟩ := fun b o h => hb.cell (p := ⟨b, o, none⟩) h; have hbf : ∀ b o, b < W.heap.size → W'.frozen? ⟨b, o, none⟩ = W.frozen? ⟨b, o, none⟩ := fun b o h => hb.frozen (p := ⟨b, o, none⟩) h; refine ⟨⟨hx.step hb, Nat.le_trans hz hb.size, ?_⟩, ?_⟩ <;> (simp (disch := omega) only [hbc, hbf]; assumption))
  · (intro W h; have h2 := h.1.2.1; first | omega | (simp; omega))
  simp only [List.take_succ_cons, List.take_zero, List.drop_succ_cons, List.drop_zero]
  repeat (first | (refine Q_skip (by rfl) (by rfl) ?_; simp only [Act.put, List.setIfInBounds_toArray, List.set_cons_zero, List.set_cons_succ]) | (refine Q_run (v := ?_) (by rfl) (by rfl) ?_ ?_; rotate_left; (· (intro W hW; (try dsimp only at hW); go_simp; try with_reducible rfl)); simp only [Act.put, List.setIfInBounds_toArray, List.set_cons_zero, List.set_cons_succ]) | (refine Q_read (v := ?_) (by rfl) (by rfl) ?_ ?_; rotate_left; (· (intro W hW; (try dsimp only at hW); go_simp; try with_reducible rfl)); simp only [Act.put, List.setIfInBounds_toArray, List.set_cons_zero, List.set_cons_succ]))
  refine Q_store (fun W => (Ext w W ∧ w1.heap.size ≤ W.heap.size ∧ W.cell? ⟨w.heap.size + 1, 0, none⟩ = some (.int .i64 vx) ∧ W.cell? ⟨w.heap.size + 1, 1, none⟩ = some (.int .i64 vy) ∧ W.cell? ⟨w.heap.size + 1 + 1, 0, none⟩ = some (.int .i64 a0) ∧ W.cell? ⟨w.heap.size + 1 + 1, 1, none⟩ = some (.int .i64 a1) ∧ W.cell? ⟨w.heap.size + 1 + 1, 2, none⟩ = some (.int .i64 a2) ∧ (∀ o, W.frozen? ⟨w.heap.size + 1, o, none⟩ = false)) ∧ W.cell? ⟨w.heap.size, 0, none⟩ = some (.int .i64 x1) ∧ W.cell? ⟨w.heap.size, 1, none⟩ = some (.int .i64 y1) ∧ (∀ o, W.frozen? ⟨w.heap.size, o, none⟩ = false)) ?_ (fun _ h => h.1) (by rfl) (by rfl) (by rfl) ?_ ?_
  · (intro W W' h hb; obtain ⟨⟨hx, hz, hc⟩, hr⟩ := h; have hbc : ∀ b o, b < W.heap.size → W'.cell? ⟨b, o, none⟩ = W.cell? ⟨b, o, none⟩ := fun b o h => hb.cell (p := ⟨b, o, none⟩) h; have hbf : ∀ b o, b < W.heap.size → W'.frozen? ⟨b, o, none⟩ = W.frozen? ⟨b, o, none⟩ := fun b o h => hb.frozen (p := ⟨b, o, none⟩) h; refine ⟨⟨hx.step hb, Nat.le_trans hz hb.size, ?_⟩, ?_⟩ <;> (simp (disch := omega) only [hbc, hbf]; assumption))
  · (intro W hW; obtain ⟨⟨hx, hz, hc⟩, hr⟩ := hW; go_simp; (try dsimp only); (repeat' apply And.intro) <;> first | with_reducible assumption | (go_simp; done) | ((repeat (refine Below.setCell ?_ (by first | exact Nat.le_refl _ | exact Nat.le_succ _ | (dsimp only; omega) | omega) _)); exact hx) | omega | (simp; done) | (simp; omega))
  simp only [Act.put, List.setIfInBounds_toArray, List.set_cons_zero, List.set_cons_succ]
  refine Q_done ?_
  refine F_store (fun W => Ext w W ∧ w1.heap.size ≤ W.heap.size ∧ W.cell? ⟨w.heap.size, 0, none⟩ = some (.int .i64 x1) ∧ W.cell? ⟨w.heap.size, 1, none⟩ = some (.int .i64 y1) ∧ W.cell? ⟨w.heap.size + 1, 0, none⟩ = some (.int .i64 x2) ∧ W.cell? ⟨w.heap.size + 1, 1, none⟩ = some (.int .i64 y2) ∧ W.cell? ⟨w.heap.size + 1 + 1, 0, none⟩ = some (.int .i64 a0) ∧ W.cell? ⟨w.heap.size + 1 + 1, 1, none⟩ = some (.int .i64 a1) ∧ W.cell? ⟨w.heap.size + 1 + 1, 2, none⟩ = some (.int .i64 a2)) ?_ (fun _ _ => trivial) (by rfl) (by rfl) ?_ ?_
  · (intro W W' h hb; obtain ⟨hx, hz, hc⟩ := h; have hbc : ∀ b o, b < W.heap.size → W'.cell? ⟨b, o, none⟩ = W.cell? ⟨b, o, none⟩ := fun b o h => hb.cell (p := ⟨b, o, none⟩) h; have hbf : ∀ b o, b < W.heap.size → W'.frozen? ⟨b, o, none⟩ = W.frozen? ⟨b, o, none⟩ := fun b o h => hb.frozen (p := ⟨b, o, none⟩) h; refine ⟨hx.step hb, Nat.le_trans hz hb.size, ?_⟩; simp (disch := omega) only [hbc, hbf]; exact hc)
  · (intro W hW; obtain ⟨⟨⟨hx, hz, hc⟩, hr⟩, _⟩ := hW; go_simp; (try dsimp only); (repeat' apply And.intro) <;> first | with_reducible assumption | (go_simp; done) | ((repeat (refine Below.setCell ?_ (by first | exact Nat.le_refl _ | exact Nat.le_succ _ | (dsimp only; omega) | omega) _)); exact hx) | omega | (simp; done) | (simp; omega))
  simp only [Act.put, List.setIfInBounds_toArray, List.set_cons_zero, List.set_cons_succ]
  rintro W2 ⟨⟨hxw, hs2, u0, u1, v0, v1, t0, t1, t2⟩, _⟩
  clear c0 c1 c2 c3 c4 c5 c6 f0 f1
  have hl20 : w.heap.size < W2.heap.size := by omega
  have hl21 : w.heap.size + 1 < W2.heap.size := by omega
  have hl22 : w.heap.size + 2 < W2.heap.size := by omega
  have hx2 : Ext w W2 := hxw
  clear hxw
  go_upto_region 4 with (fail)
  refine wp_world (fun W => Ext w W ∧ (W.cell? ⟨w.heap.size, 0, none⟩ = some (.int .i64 x1) ∧ W.cell? ⟨w.heap.size, 1, none⟩ = some (.int .i64 y1) ∧ W.cell? ⟨w.heap.size + 1, 0, none⟩ = some (.int .i64 x2) ∧ W.cell? ⟨w.heap.size + 1, 1, none⟩ = some (.int .i64 y2) ∧ W.cell? ⟨w.heap.size + 1 + 1, 0, none⟩ = some (.int .i64 a0) ∧ W.cell? ⟨w.heap.size + 1 + 1, 1, none⟩ = some (.int .i64 a1) ∧ W.cell? ⟨w.heap.size + 1 + 1, 2, none⟩ = some (.int .i64 a2) ∧ W.cell? ⟨W2.heap.size, 0, none⟩ = some (.int .i64 px) ∧ W.cell? ⟨W2.heap.size, 1, none⟩ = some (.int .i64 py) ) ∧ W2.heap.size < W.heap.size) ?_ ?_
  · refine ⟨by (repeat (first | exact Below.refl _ _ | assumption | refine Below.drewN ?_ _ | refine Below.drew ?_ | refine Below.setCell ?_ (by first | exact Nat.le_refl _ | (simp; done) | (simp; omega) | omega) _ | refine Below.alloc ?_ (by first | exact Nat.le_refl _ | (simp; done) | (simp; omega) | omega) _)), by go_simp, by simp⟩
  clear u0 u1 v0 v1 t0 t1 t2
  rintro W3 ⟨hx3, ⟨u0, u1, v0, v1, t0, t1, t2, p0, p1⟩, hl3⟩
  obtain ⟨P, hP⟩ : ∃ P, Hid (W2.heap.size = P) := ⟨_, rfl⟩
  rw [hP.out] at hl20 hl21 hl22 p0 p1 hl3 ⊢
  have hl30 : w.heap.size < W3.heap.size := by omega
  have hl31 : w.heap.size + 1 < W3.heap.size := by omega
  have hl32 : w.heap.size + 2 < W3.heap.size := by omega
  clear hs2 hx2 hx0 hs0 hz_w1 hl_w1_0 hl_w1_1 hl_w1_2
  have hKeep : FKeep (W3.heap.size) (fun W => Ext W3 W ∧ W3.heap.size ≤ W.heap.size ∧ W.cell? ⟨w.heap.size, 0, none⟩ = some (.int .i64 x1) ∧ W.cell? ⟨w.heap.size, 1, none⟩ = some (.int .i64 y1) ∧ W.cell? ⟨w.heap.size + 1, 0, none⟩ = some (.int .i64 x2) ∧ W.cell? ⟨w.heap.size + 1, 1, none⟩ = some (.int .i64 y2) ∧ W.cell? ⟨w.heap.size + 1 + 1, 0, none⟩ = some (.int .i64 a0) ∧ W.cell? ⟨w.heap.size + 1 + 1, 1, none⟩ = some (.int .i64 a1) ∧ W.cell? ⟨w.heap.size + 1 + 1, 2, none⟩ = some (.int .i64 a2) ∧ W.cell? ⟨P, 0, none⟩ = some (.int .i64 px) ∧ W.cell? ⟨P, 1, none⟩ = some (.int .i64 py)) := (by intro W W' h hb; obtain ⟨hx, hz, hc⟩ := h; have hbc : ∀ b o, b < _ → W'.cell? ⟨b, o, none⟩ = W.cell? ⟨b, o, none⟩ := fun b o h => hb.cell (p := ⟨b, o, none⟩) h; refine ⟨hx.trans (hb.mono (by omega)), Nat.le_trans hz hb.size, ?_⟩; (try dsimp only at hc ⊢); simp (disch := omega) only [hbc]; exact hc)
  first | refine wp_region_K (W3.heap.size) (fun W => Ext W3 W ∧ W3.heap.size ≤ W.heap.size ∧ W.cell? ⟨w.heap.size, 0, none⟩ = some (.int .i64 x1) ∧ W.cell? ⟨w.heap.size, 1, none⟩ = some (.int .i64 y1) ∧ W.cell? ⟨w.heap.size + 1, 0, none⟩ = some (.int .i64 x2) ∧ W.cell? ⟨w.heap.size + 1, 1, none⟩ = some (.int .i64 y2) ∧ W.cell? ⟨w.heap.size + 1 + 1, 0, none⟩ = some (.int .i64 a0) ∧ W.cell? ⟨w.heap.size + 1 + 1, 1, none⟩ = some (.int .i64 a1) ∧ W.cell? ⟨w.heap.size + 1 + 1, 2, none⟩ = some (.int .i64 a2) ∧ W.cell? ⟨P, 0, none⟩ = some (.int .i64 px) ∧ W.cell? ⟨P, 1, none⟩ = some (.int .i64 py)) (by kernel_rfl) (by kernel_rfl) ?_ hKeep (fun _ h => h.2.1) ?_ | refine wp_region_Ks (W3.heap.size) (fun W => Ext W3 W ∧ W3.heap.size ≤ W.heap.size ∧ W.cell? ⟨w.heap.size, 0, none⟩ = some (.int .i64 x1) ∧ W.cell? ⟨w.heap.size, 1, none⟩ = some (.int .i64 y1) ∧ W.cell? ⟨w.heap.size + 1, 0, none⟩ = some (.int .i64 x2) ∧ W.cell? ⟨w.heap.size + 1, 1, none⟩ = some (.int .i64 y2) ∧ W.cell? ⟨w.heap.size + 1 + 1, 0, none⟩ = some (.int .i64 a0) ∧ W.cell? ⟨w.heap.size + 1 + 1, 1, none⟩ = some (.int .i64 a1) ∧ W.cell? ⟨w.heap.size + 1 + 1, 2, none⟩ = some (.int .i64 a2) ∧ W.cell? ⟨P, 0, none⟩ = some (.int .i64 px) ∧ W.cell? ⟨P, 1, none⟩ = some (.int .i64 py)) ?_ hKeep (fun _ h => h.2.1) ?_
  · refine ⟨by (repeat (first | exact Below.refl _ _ | assumption | refine Below.drewN ?_ _ | refine Below.drew ?_ | refine Below.setCell ?_ (by first | exact Nat.le_refl _ | (simp; done) | (simp; omega) | omega) _ | refine Below.alloc ?_ (by first | exact Nat.le_refl _ | (simp; done) | (simp; omega) | omega) _)), by first | omega | (simp; done) | (simp; omega), ?_⟩
    go_simp
  repeat (first | (refine F_skip (by rfl) ?_; simp only [Act.put, List.setIfInBounds_toArray, List.set_cons_zero, List.set_cons_succ]) | (refine F_run (v := ?_) (by rfl) ?_ ?_; rotate_left; (· (intro W hW; (try dsimp only at hW); go_simp; try with_reducible rfl)); simp only [Act.put, List.setIfInBounds_toArray, List.set_cons_zero, List.set_cons_succ]))
  (refine F_call (v := .agg #[.int .i64 (px-x1), .int .i64 (py-y1)]) (by rfl) (by rfl) ?_ ?_; (· (intro W hW; (try dsimp only at hW); go_simp; refine (S1.out _).mono ?_; rintro e w' ⟨rfl, hx⟩; exact ⟨_, rfl, rfl, hx⟩))); simp only [Act.put, List.setIfInBounds_toArray, List.set_cons_zero, List.set_cons_succ]
  repeat (first | (refine F_skip (by rfl) ?_; simp only [Act.put, List.setIfInBounds_toArray, List.set_cons_zero, List.set_cons_succ]) | (refine F_run (v := ?_) (by rfl) ?_ ?_; rotate_left; (· (intro W hW; (try dsimp only at hW); go_simp; try with_reducible rfl)); simp only [Act.put, List.setIfInBounds_toArray, List.set_cons_zero, List.set_cons_succ]))
  (refine F_call (v := .agg #[.int .i64 (px+x1), .int .i64 (py+y1)]) (by rfl) (by rfl) ?_ ?_; (· (intro W hW; (try dsimp only at hW); go_simp; refine (A1.out _).mono ?_; rintro e w' ⟨rfl, hx⟩; exact ⟨_, rfl, rfl, hx⟩))); simp only [Act.put, List.setIfInBounds_toArray, List.set_cons_zero, List.set_cons_succ]
  repeat (first | (refine F_skip (by rfl) ?_; simp only [Act.put, List.setIfInBounds_toArray, List.set_cons_zero, List.set_cons_succ]) | (refine F_run (v := ?_) (by rfl) ?_ ?_; rotate_left; (· (intro W hW; (try dsimp only at hW); go_simp; try with_reducible rfl)); simp only [Act.put, List.setIfInBounds_toArray, List.set_cons_zero, List.set_cons_succ]))
  refine F_alloc (.cells #[.int .i64 0, .int .i64 0, .int .i64 0, .int .i64 0, .int .i64 0, .int .i64 0, .int .i64 0] 27) (by rfl) (by rfl) (by intro W hW; go_simp) ?_
  intro g hg
  simp only [List.mem_cons, List.mem_range, not_or, Nat.not_lt] at hg
  simp only [Act.put, List.setIfInBounds_toArray, List.set_cons_zero, List.set_cons_succ]
  refine F_store7 (fun W => (Ext W3 W ∧ W3.heap.size ≤ W.heap.size ∧ W.cell? ⟨w.heap.size, 0, none⟩ = some (.int .i64 x1) ∧ W.cell? ⟨w.heap.size, 1, none⟩ = some (.int .i64 y1) ∧ W.cell? ⟨w.heap.size + 1, 0, none⟩ = some (.int .i64 x2) ∧ W.cell? ⟨w.heap.size + 1, 1, none⟩ = some (.int .i64 y2) ∧ W.cell? ⟨w.heap.size + 1 + 1, 0, none⟩ = some (.int .i64 a0) ∧ W.cell? ⟨w.heap.size + 1 + 1, 1, none⟩ = some (.int .i64 a1) ∧ W.cell? ⟨w.heap.size + 1 + 1, 2, none⟩ = some (.int .i64 a2) ∧ W.cell? ⟨P, 0, none⟩ = some (.int .i64 px) ∧ W.cell? ⟨P, 1, none⟩ = some (.int .i64 py))) g (.int .i64 0) (.int .i64 0) (.int .i64 0) (.int .i64 0) (.int .i64 0) (.int .i64 0) (.int .i64 0) (.int .i64 1) (.int .i64 (px - x1)) (.int .i64 (py - y1)) (.int .i64 (px + x1)) (.int .i64 (py + y1)) (.int .i64 0) (.int .i64 0) 27 (by rfl) (by rfl) (by intro W c0 c1 c2 c3 c4 c5 c6 cf; go_simp) (fun W hW => hW) ?_ ?_ ?_ ?_
  · repeat (first | exact hRKS | exact RK.keep hKeep (by assumption) | exact RK.obj (by assumption) | exact RK.nr (by intro z h; cases h) (by intro z h; cases h) | refine RK.and ?_ ?_)
  · repeat (first | exact hSM | exact hKeep.mono (fun _ h => h.2.1) | exact fmono_obj _ _ | exact fmono_nr _ _ _ _ _ | refine FMono.and ?_ ?_)
  · (intro W h; first | exact h | exact h.1 | exact h.1.1 | exact h.1.1.1 | exact h.1.1.1.1)
  simp only [Act.put, List.setIfInBounds_toArray, List.set_cons_zero, List.set_cons_succ]
  rintro V4 ⟨⟨⟨hx4, hz4, hc4⟩, hb4⟩, _⟩
  obtain ⟨⟨e0, e1, e2, e3, e4, e5, e6⟩, _, hlg⟩ := cells7 hb4
  clear hb4 u0 u1 v0 v1 t0 t1 t2 p0 p1 S1 A1
  obtain ⟨u0, u1, v0, v1, t0, t1, t2, p0, p1⟩ := hc4
  have hx5 : Ext w V4 := hx3.trans (hx4.mono (by omega))
  clear hx4 hx3 hKeep
  have l0 : w.heap.size < V4.heap.size := by omega
  have l1 : w.heap.size + 1 < V4.heap.size := by omega
  have l2 : w.heap.size + 2 < V4.heap.size := by omega
  have l3 : P < V4.heap.size := by omega
  clear hl3 hl30 hl31 hl32 hl20 hl21 hl22 hz4 hg
  go_wp2_with fail
  have hKeep : FKeep (V4.heap.size) (fun W => Ext V4 W ∧ V4.heap.size ≤ W.heap.size ∧ W.cell? ⟨w.heap.size, 0, none⟩ = some (.int .i64 x1) ∧ W.cell? ⟨w.heap.size, 1, none⟩ = some (.int .i64 y1) ∧ W.cell? ⟨w.heap.size + 1, 0, none⟩ = some (.int .i64 x2) ∧ W.cell? ⟨w.heap.size + 1, 1, none⟩ = some (.int .i64 y2) ∧ W.cell? ⟨w.heap.size + 1 + 1, 0, none⟩ = some (.int .i64 a0) ∧ W.cell? ⟨w.heap.size + 1 + 1, 1, none⟩ = some (.int .i64 a1) ∧ W.cell? ⟨w.heap.size + 1 + 1, 2, none⟩ = some (.int .i64 a2) ∧ W.cell? ⟨P, 0, none⟩ = some (.int .i64 px) ∧ W.cell? ⟨P, 1, none⟩ = some (.int .i64 py) ∧ W.cell? ⟨g, 0, none⟩ = some (.int .i64 1) ∧ W.cell? ⟨g, 1, none⟩ = some (.int .i64 (px-x1)) ∧ W.cell? ⟨g, 2, none⟩ = some (.int .i64 (py-y1)) ∧ W.cell? ⟨g, 3, none⟩ = some (.int .i64 (px+x1)) ∧ W.cell? ⟨g, 4, none⟩ = some (.int .i64 (py+y1)) ∧ W.cell? ⟨g, 5, none⟩ = some (.int .i64 0) ∧ W.cell? ⟨g, 6, none⟩ = some (.int .i64 0)) := (by intro W W' h hb; obtain ⟨hx, hz, hc⟩ := h; have hbc : ∀ b o, b < _ → W'.cell? ⟨b, o, none⟩ = W.cell? ⟨b, o, none⟩ := fun b o h => hb.cell (p := ⟨b, o, none⟩) h; refine ⟨hx.trans (hb.mono (by omega)), Nat.le_trans hz hb.size, ?_⟩; (try dsimp only at hc ⊢); simp (disch := omega) only [hbc]; exact hc)
  first | refine wp_region_K (V4.heap.size) (fun W => Ext V4 W ∧ V4.heap.size ≤ W.heap.size ∧ W.cell? ⟨w.heap.size, 0, none⟩ = some (.int .i64 x1) ∧ W.cell? ⟨w.heap.size, 1, none⟩ = some (.int .i64 y1) ∧ W.cell? ⟨w.heap.size + 1, 0, none⟩ = some (.int .i64 x2) ∧ W.cell? ⟨w.heap.size + 1, 1, none⟩ = some (.int .i64 y2) ∧ W.cell? ⟨w.heap.size + 1 + 1, 0, none⟩ = some (.int .i64 a0) ∧ W.cell? ⟨w.heap.size + 1 + 1, 1, none⟩ = some (.int .i64 a1) ∧ W.cell? ⟨w.heap.size + 1 + 1, 2, none⟩ = some (.int .i64 a2) ∧ W.cell? ⟨P, 0, none⟩ = some (.int .i64 px) ∧ W.cell? ⟨P, 1, none⟩ = some (.int .i64 py) ∧ W.cell? ⟨g, 0, none⟩ = some (.int .i64 1) ∧ W.cell? ⟨g, 1, none⟩ = some (.int .i64 (px-x1)) ∧ W.cell? ⟨g, 2, none⟩ = some (.int .i64 (py-y1)) ∧ W.cell? ⟨g, 3, none⟩ = some (.int .i64 (px+x1)) ∧ W.cell? ⟨g, 4, none⟩ = some (.int .i64 (py+y1)) ∧ W.cell? ⟨g, 5, none⟩ = some (.int .i64 0) ∧ W.cell? ⟨g, 6, none⟩ = some (.int .i64 0)) (by kernel_rfl) (by kernel_rfl) ?_ hKeep (fun _ h => h.2.1) ?_ | refine wp_region_Ks (V4.heap.size) (fun W => Ext V4 W ∧ V4.heap.size ≤ W.heap.size ∧ W.cell? ⟨w.heap.size, 0, none⟩ = some (.int .i64 x1) ∧ W.cell? ⟨w.heap.size, 1, none⟩ = some (.int .i64 y1) ∧ W.cell? ⟨w.heap.size + 1, 0, none⟩ = some (.int .i64 x2) ∧ W.cell? ⟨w.heap.size + 1, 1, none⟩ = some (.int .i64 y2) ∧ W.cell? ⟨w.heap.size + 1 + 1, 0, none⟩ = some (.int .i64 a0) ∧ W.cell? ⟨w.heap.size + 1 + 1, 1, none⟩ = some (.int .i64 a1) ∧ W.cell? ⟨w.heap.size + 1 + 1, 2, none⟩ = some (.int .i64 a2) ∧ W.cell? ⟨P, 0, none⟩ = some (.int .i64 px) ∧ W.cell? ⟨P, 1, none⟩ = some (.int .i64 py) ∧ W.cell? ⟨g, 0, none⟩ = some (.int .i64 1) ∧ W.cell? ⟨g, 1, none⟩ = some (.int .i64 (px-x1)) ∧ W.cell? ⟨g, 2, none⟩ = some (.int .i64 (py-y1)) ∧ W.cell? ⟨g, 3, none⟩ = some (.int .i64 (px+x1)) ∧ W.cell? ⟨g, 4, none⟩ = some (.int .i64 (py+y1)) ∧ W.cell? ⟨g, 5, none⟩ = some (.int .i64 0) ∧ W.cell? ⟨g, 6, none⟩ = some (.int .i64 0)) ?_ hKeep (fun _ h => h.2.1) ?_
  · refine ⟨by (repeat (first | exact Below.refl _ _ | assumption | refine Below.drewN ?_ _ | refine Below.drew ?_ | refine Below.setCell ?_ (by first | exact Nat.le_refl _ | (simp; done) | (simp; omega) | omega) _ | refine Below.alloc ?_ (by first | exact Nat.le_refl _ | (simp; done) | (simp; omega) | omega) _)), by first | omega | (simp; done) | (simp; omega), ?_⟩
    go_simp
  repeat (first | (refine F_skip (by rfl) ?_; simp only [Act.put, List.setIfInBounds_toArray, List.set_cons_zero, List.set_cons_succ]) | (refine F_run (v := ?_) (by rfl) ?_ ?_; rotate_left; (· (intro W hW; (try dsimp only at hW); go_simp; try with_reducible rfl)); simp only [Act.put, List.setIfInBounds_toArray, List.set_cons_zero, List.set_cons_succ]))
  (refine F_call (v := .agg #[.int .i64 (px-x2), .int .i64 (py-y2)]) (by rfl) (by rfl) ?_ ?_; (· (intro W hW; (try dsimp only at hW); go_simp; refine (S2.out _).mono ?_; rintro e w' ⟨rfl, hx⟩; exact ⟨_, rfl, rfl, hx⟩))); simp only [Act.put, List.setIfInBounds_toArray, List.set_cons_zero, List.set_cons_succ]
  repeat (first | (refine F_skip (by rfl) ?_; simp only [Act.put, List.setIfInBounds_toArray, List.set_cons_zero, List.set_cons_succ]) | (refine F_run (v := ?_) (by rfl) ?_ ?_; rotate_left; (· (intro W hW; (try dsimp only at hW); go_simp; try with_reducible rfl)); simp only [Act.put, List.setIfInBounds_toArray, List.set_cons_zero, List.set_cons_succ]))
  (refine F_call (v := .agg #[.int .i64 (px+x2), .int .i64 (py+y2)]) (by rfl) (by rfl) ?_ ?_; (· (intro W hW; (try dsimp only at hW); go_simp; refine (A2.out _).mono ?_; rintro e w' ⟨rfl, hx⟩; exact ⟨_, rfl, rfl, hx⟩))); simp only [Act.put, List.setIfInBounds_toArray, List.set_cons_zero, List.set_cons_succ]
  repeat (first | (refine F_skip (by rfl) ?_; simp only [Act.put, List.setIfInBounds_toArray, List.set_cons_zero, List.set_cons_succ]) | (refine F_run (v := ?_) (by rfl) ?_ ?_; rotate_left; (· (intro W hW; (try dsimp only at hW); go_simp; try with_reducible rfl)); simp only [Act.put, List.setIfInBounds_toArray, List.set_cons_zero, List.set_cons_succ]))
  refine F_alloc (.cells #[.int .i64 0, .int .i64 0, .int .i64 0, .int .i64 0, .int .i64 0, .int .i64 0, .int .i64 0] 27) (by rfl) (by rfl) (by intro W hW; go_simp) ?_
  intro h hh
  simp only [List.mem_cons, List.mem_range, not_or, Nat.not_lt] at hh
  simp only [Act.put, List.setIfInBounds_toArray, List.set_cons_zero, List.set_cons_succ]
  refine F_store7 (fun W => (Ext V4 W ∧ V4.heap.size ≤ W.heap.size ∧ W.cell? ⟨w.heap.size, 0, none⟩ = some (.int .i64 x1) ∧ W.cell? ⟨w.heap.size, 1, none⟩ = some (.int .i64 y1) ∧ W.cell? ⟨w.heap.size + 1, 0, none⟩ = some (.int .i64 x2) ∧ W.cell? ⟨w.heap.size + 1, 1, none⟩ = some (.int .i64 y2) ∧ W.cell? ⟨w.heap.size + 1 + 1, 0, none⟩ = some (.int .i64 a0) ∧ W.cell? ⟨w.heap.size + 1 + 1, 1, none⟩ = some (.int .i64 a1) ∧ W.cell? ⟨w.heap.size + 1 + 1, 2, none⟩ = some (.int .i64 a2) ∧ W.cell? ⟨P, 0, none⟩ = some (.int .i64 px) ∧ W.cell? ⟨P, 1, none⟩ = some (.int .i64 py) ∧ W.cell? ⟨g, 0, none⟩ = some (.int .i64 1) ∧ W.cell? ⟨g, 1, none⟩ = some (.int .i64 (px-x1)) ∧ W.cell? ⟨g, 2, none⟩ = some (.int .i64 (py-y1)) ∧ W.cell? ⟨g, 3, none⟩ = some (.int .i64 (px+x1)) ∧ W.cell? ⟨g, 4, none⟩ = some (.int .i64 (py+y1)) ∧ W.cell? ⟨g, 5, none⟩ = some (.int .i64 0) ∧ W.cell? ⟨g, 6, none⟩ = some (.int .i64 0))) h (.int .i64 0) (.int .i64 0) (.int .i64 0) (.int .i64 0) (.int .i64 0) (.int .i64 0) (.int .i64 0) (.int .i64 1) (.int .i64 (px - x2)) (.int .i64 (py - y2)) (.int .i64 (px + x2)) (.int .i64 (py + y2)) (.int .i64 0) (.int .i64 0) 27 (by rfl) (by rfl) (by intro W c0 c1 c2 c3 c4 c5 c6 cf; go_simp) (fun W hW => hW) ?_ ?_ ?_ ?_
  · repeat (first | exact hRKS | exact RK.keep hKeep (by assumption) | exact RK.obj (by assumption) | exact RK.nr (by intro z h; cases h) (by intro z h; cases h) | refine RK.and ?_ ?_)
  · repeat (first | exact hSM | exact hKeep.mono (fun _ h => h.2.1) | exact fmono_obj _ _ | exact fmono_nr _ _ _ _ _ | refine FMono.and ?_ ?_)
  · (intro W h; first | exact h | exact h.1 | exact h.1.1 | exact h.1.1.1 | exact h.1.1.1.1)
  simp only [Act.put, List.setIfInBounds_toArray, List.set_cons_zero, List.set_cons_succ]
  rintro V6 ⟨⟨⟨hx6, hz6, hc6⟩, hb6⟩, _⟩
  obtain ⟨⟨f0, f1, f2, f3, f4, f5, f6⟩, _, hlh⟩ := cells7 hb6
  clear hb6 u0 u1 v0 v1 t0 t1 t2 p0 p1 S2 A2 e0 e1 e2 e3 e4 e5 e6
  obtain ⟨u0, u1, v0, v1, t0, t1, t2, p0, p1, e0, e1, e2, e3, e4, e5, e6⟩ := hc6
  have hx7 : Ext w V6 := hx5.trans (hx6.mono (by omega))
  clear hx6 hx5 hKeep
  have m0 : w.heap.size < V6.heap.size := by omega
  have m1 : w.heap.size + 1 < V6.heap.size := by omega
  have m2 : w.heap.size + 2 < V6.heap.size := by omega
  have m3 : P < V6.heap.size := by omega
  clear l0 l1 l2 l3 hlg hlh hz6
  have d1 := mul_bd b1 b4
  have d2 := mul_bd b2 b3
  have w1' : IntKind.i64.wrap (x1 * y2) = x1 * y2 := wrap_in (by unfold I64; omega)
  have w2' : IntKind.i64.wrap (y1 * x2) = y1 * x2 := wrap_in (by unfold I64; omega)
  have w3' : IntKind.i64.wrap (x1 * y2 - y1 * x2) = x1 * y2 - y1 * x2 := wrap_in (by unfold I64; omega)
  clear d1 d2
  obtain ⟨q1, Q1⟩ : ∃ z, x1 * y2 = z := ⟨_, rfl⟩
  obtain ⟨q2, Q2⟩ : ∃ z, y1 * x2 = z := ⟨_, rfl⟩
  rw [Q1] at w1' w3' CN
  rw [Q2] at w2' w3' CN
  obtain ⟨X, hX⟩ : ∃ z, q1 - q2 = z := ⟨_, rfl⟩
  rw [hX] at w3' CN
  have hmax := @run_max2 Try.prog
  have nx : IntKind.i64.wrap (-x1) = -x1 := wrap_in (by unfold I64; omega)
  have ny : IntKind.i64.wrap (-y1) = -y1 := wrap_in (by unfold I64; omega)
  obtain ⟨mx, MX⟩ : ∃ z, max x1 (-x1) = z := ⟨_, rfl⟩
  obtain ⟨my, MY⟩ : ∃ z, max y1 (-y1) = z := ⟨_, rfl⟩
  rw [MX] at SX
  rw [MY] at SY
  have kx : IntKind.i64.wrap (60 * mx) = 60 * mx := wrap_in (by unfold I64; omega)
  have ky : IntKind.i64.wrap (60 * my) = 60 * my := wrap_in (by unfold I64; omega)
  have jx : IntKind.i64.wrap (px + 60 * mx) = sx := by rw [SX]; exact wrap_in (by unfold I64; omega)
  have jy : IntKind.i64.wrap (py + 60 * my) = sy := by rw [SY]; exact wrap_in (by unfold I64; omega)
  obtain ⟨bz, hbz⟩ : ∃ b, (x1 == 0 && y1 == 0) = b := ⟨_, rfl⟩
  have heq : ∀ w : World, (binOp .eql 25 (.agg #[.int .i64 x1, .int .i64 y1]) (.agg #[.int .i64 0, .int .i64 0])).run Try.prog w = .ok (.bool bz) w := fun w => by rw [eql_pt, hbz]
  replace HN : n = if bz then 0 else 1 := by
    rw [HN.out]
    cases bz with
    | true => rw [if_pos (by simpa using hbz)]; rfl
    | false => rw [if_neg (by intro h; rw [h.1, h.2] at hbz; simp at hbz)]; rfl
  clear hbz
  by_cases hx0 : X = 0
  · have n1 : (X != 0) = false := by simpa using hx0
    have n2 : (X == 0) = true := by simpa using hx0
    clear hx0 CN
    go_wp2_with fail
    refine (MR.out _).mono ?_
    rintro e w9 ⟨rfl, hx9⟩
    have hq_w9 : ∀ b o, b < V6.heap.size → w9.cell? ⟨b, o, none⟩ = V6.cell? ⟨b, o, none⟩ := fun b o h => hx9.cell (p := ⟨b, o, none⟩) h
    replace u0 := (hq_w9 (w.heap.size) 0 m0).trans u0
    replace u1 := (hq_w9 (w.heap.size) 1 m0).trans u1
    replace p0 := (hq_w9 (P) 0 m3).trans p0
    replace p1 := (hq_w9 (P) 1 m3).trans p1
    replace m0 := Nat.lt_of_lt_of_le m0 hx9.size
    replace m3 := Nat.lt_of_lt_of_le m3 hx9.size
    clear hq_w9
    replace hx7 : Ext w w9 := hx7.trans (hx9.mono hx7.size)
    have hs9 := hx7.size
    clear hx9
    go_upto_region 10 with (fail)
    refine wp_world (fun W => Ext w9 W ∧ (W.cell? ⟨w.heap.size, 0, none⟩ = some (.int .i64 x1) ∧ W.cell? ⟨w.heap.size, 1, none⟩ = some (.int .i64 y1) ∧ W.cell? ⟨P, 0, none⟩ = some (.int .i64 px) ∧ W.cell? ⟨P, 1, none⟩ = some (.int .i64 py) ∧ W.cell? ⟨w9.heap.size, 0, none⟩ = some (.int .i64 2) ∧ W.cell? ⟨w9.heap.size, 1, none⟩ = some (.int .i64 (px+r)) ∧ W.cell? ⟨w9.heap.size, 2, none⟩ = some (.int .i64 py) ∧ W.cell? ⟨w9.heap.size, 3, none⟩ = some (.int .i64 px) ∧ W.cell? ⟨w9.heap.size, 4, none⟩ = some (.int .i64 (py+r)) ∧ W.cell? ⟨w9.heap.size, 5, none⟩ = some (.int .i64 px) ∧ W.cell? ⟨w9.heap.size, 6, none⟩ = some (.int .i64 py) ) ∧ w9.heap.size < W.heap.size) ?_ ?_
    · refine ⟨by (repeat (first | exact Below.refl _ _ | assumption | refine Below.drewN ?_ _ | refine Below.drew ?_ | refine Below.setCell ?_ (by first | exact Nat.le_refl _ | (simp; done) | (simp; omega) | omega) _ | refine Below.alloc ?_ (by first | exact Nat.le_refl _ | (simp; done) | (simp; omega) | omega) _)), by go_simp, by simp⟩
    clear u0 u1 p0 p1
    rintro V10 ⟨hx10, ⟨u0, u1, p0, p1, s0, s1, s2, s3, s4, s5, s6⟩, ml⟩
    obtain ⟨Z, hZ⟩ : ∃ Z, Hid (w9.heap.size = Z) := ⟨_, rfl⟩
    rw [hZ.out] at s0 s1 s2 s3 s4 s5 s6 ml ⊢
    replace m0 := Nat.lt_of_lt_of_le m0 hx10.size
    replace m3 := Nat.lt_of_lt_of_le m3 hx10.size
    replace hx7 : Ext w V10 := hx7.trans (hx10.mono hx7.size)
    clear hx10 hs9
    go_wp2_with fail
    refine (CK.out _).mono ?_
    rintro e w11 ⟨rfl, hx11⟩
    have hq_w11 : ∀ b o, b < V10.heap.size → w11.cell? ⟨b, o, none⟩ = V10.cell? ⟨b, o, none⟩ := fun b o h => hx11.cell (p := ⟨b, o, none⟩) h
    replace u0 := (hq_w11 (w.heap.size) 0 m0).trans u0
    replace u1 := (hq_w11 (w.heap.size) 1 m0).trans u1
    replace p0 := (hq_w11 (P) 0 m3).trans p0
    replace p1 := (hq_w11 (P) 1 m3).trans p1
    replace s0 := (hq_w11 (Z) 0 ml).trans s0
    replace s1 := (hq_w11 (Z) 1 ml).trans s1
    replace s2 := (hq_w11 (Z) 2 ml).trans s2
    replace s3 := (hq_w11 (Z) 3 ml).trans s3
    replace s4 := (hq_w11 (Z) 4 ml).trans s4
    replace s5 := (hq_w11 (Z) 5 ml).trans s5
    replace s6 := (hq_w11 (Z) 6 ml).trans s6
    replace m0 := Nat.lt_of_lt_of_le m0 hx11.size
    replace m3 := Nat.lt_of_lt_of_le m3 hx11.size
    replace ml := Nat.lt_of_lt_of_le ml hx11.size
    clear hq_w11
    replace hx7 : Ext w w11 := hx7.trans (hx11.mono hx7.size)
    have hs11 := hx7.size
    clear hx11
    cases bz
    all_goals
      simp only [Bool.false_eq_true, if_false, if_true] at HN
      subst HN
      go_upto_region 17 with (fail)
      go_wp2_with fail
      refine (CR.out _).mono ?_
      rintro e w12 ⟨rfl, hx12⟩
      have hx13 : Ext w w12 := Ext.step (by (repeat (first | exact Below.refl _ _ | assumption | refine Below.drewN ?_ _ | refine Below.drew ?_ | refine Below.setCell ?_ (by first | exact Nat.le_refl _ | (simp; done) | (simp; omega) | omega) _ | refine Below.alloc ?_ (by first | exact Nat.le_refl _ | (simp; done) | (simp; omega) | omega) _))) hx12
      go_wp2
      go_ret
      exact ⟨rfl, hx13⟩
  · have n1 : (X != 0) = true := by simpa using hx0
    have n2 : (X == 0) = false := by simpa using hx0
    have CM := Lib.hid (CN.out hx0)
    clear hx0 CN
    go_wp2_with fail
    refine (CM.out _).mono ?_
    rintro e w8 ⟨rfl, hx8⟩
    have hq_w8 : ∀ b o, b < V6.heap.size → w8.cell? ⟨b, o, none⟩ = V6.cell? ⟨b, o, none⟩ := fun b o h => hx8.cell (p := ⟨b, o, none⟩) h
    replace u0 := (hq_w8 (w.heap.size) 0 m0).trans u0
    replace u1 := (hq_w8 (w.heap.size) 1 m0).trans u1
    replace p0 := (hq_w8 (P) 0 m3).trans p0
    replace p1 := (hq_w8 (P) 1 m3).trans p1
    replace t0 := (hq_w8 (w.heap.size + 2) 0 m2).trans t0
    replace t1 := (hq_w8 (w.heap.size + 2) 1 m2).trans t1
    replace t2 := (hq_w8 (w.heap.size + 2) 2 m2).trans t2
    replace m0 := Nat.lt_of_lt_of_le m0 hx8.size
    replace m2 := Nat.lt_of_lt_of_le m2 hx8.size
    replace m3 := Nat.lt_of_lt_of_le m3 hx8.size
    clear hq_w8
    replace hx7 : Ext w w8 := hx7.trans (hx8.mono hx7.size)
    clear hx8
    go_wp2_with fail
    refine (MR.out _).mono ?_
    rintro e w9 ⟨rfl, hx9⟩
    have hq_w9 : ∀ b o, b < w8.heap.size → w9.cell? ⟨b, o, none⟩ = w8.cell? ⟨b, o, none⟩ := fun b o h => hx9.cell (p := ⟨b, o, none⟩) h
    replace u0 := (hq_w9 (w.heap.size) 0 m0).trans u0
    replace u1 := (hq_w9 (w.heap.size) 1 m0).trans u1
    replace p0 := (hq_w9 (P) 0 m3).trans p0
    replace p1 := (hq_w9 (P) 1 m3).trans p1
    replace m0 := Nat.lt_of_lt_of_le m0 hx9.size
    replace m3 := Nat.lt_of_lt_of_le m3 hx9.size
    clear hq_w9
    replace hx7 : Ext w w9 := hx7.trans (hx9.mono hx7.size)
    have hs9 := hx7.size
    clear hx9
    go_upto_region 10 with (fail)
    refine wp_world (fun W => Ext w9 W ∧ (W.cell? ⟨w.heap.size, 0, none⟩ = some (.int .i64 x1) ∧ W.cell? ⟨w.heap.size, 1, none⟩ = some (.int .i64 y1) ∧ W.cell? ⟨P, 0, none⟩ = some (.int .i64 px) ∧ W.cell? ⟨P, 1, none⟩ = some (.int .i64 py) ∧ W.cell? ⟨w9.heap.size, 0, none⟩ = some (.int .i64 2) ∧ W.cell? ⟨w9.heap.size, 1, none⟩ = some (.int .i64 (px+r)) ∧ W.cell? ⟨w9.heap.size, 2, none⟩ = some (.int .i64 py) ∧ W.cell? ⟨w9.heap.size, 3, none⟩ = some (.int .i64 px) ∧ W.cell? ⟨w9.heap.size, 4, none⟩ = some (.int .i64 (py+r)) ∧ W.cell? ⟨w9.heap.size, 5, none⟩ = some (.int .i64 px) ∧ W.cell? ⟨w9.heap.size, 6, none⟩ = some (.int .i64 py) ) ∧ w9.heap.size < W.heap.size) ?_ ?_
    · refine ⟨by (repeat (first | exact Below.refl _ _ | assumption | refine Below.drewN ?_ _ | refine Below.drew ?_ | refine Below.setCell ?_ (by first | exact Nat.le_refl _ | (simp; done) | (simp; omega) | omega) _ | refine Below.alloc ?_ (by first | exact Nat.le_refl _ | (simp; done) | (simp; omega) | omega) _)), by go_simp, by simp⟩
    clear u0 u1 p0 p1
    rintro V10 ⟨hx10, ⟨u0, u1, p0, p1, s0, s1, s2, s3, s4, s5, s6⟩, ml⟩
    obtain ⟨Z, hZ⟩ : ∃ Z, Hid (w9.heap.size = Z) := ⟨_, rfl⟩
    rw [hZ.out] at s0 s1 s2 s3 s4 s5 s6 ml ⊢
    replace m0 := Nat.lt_of_lt_of_le m0 hx10.size
    replace m3 := Nat.lt_of_lt_of_le m3 hx10.size
    replace hx7 : Ext w V10 := hx7.trans (hx10.mono hx7.size)
    clear hx10 hs9
    go_wp2_with fail
    refine (CK.out _).mono ?_
    rintro e w11 ⟨rfl, hx11⟩
    have hq_w11 : ∀ b o, b < V10.heap.size → w11.cell? ⟨b, o, none⟩ = V10.cell? ⟨b, o, none⟩ := fun b o h => hx11.cell (p := ⟨b, o, none⟩) h
    replace u0 := (hq_w11 (w.heap.size) 0 m0).trans u0
    replace u1 := (hq_w11 (w.heap.size) 1 m0).trans u1
    replace p0 := (hq_w11 (P) 0 m3).trans p0
    replace p1 := (hq_w11 (P) 1 m3).trans p1
    replace s0 := (hq_w11 (Z) 0 ml).trans s0
    replace s1 := (hq_w11 (Z) 1 ml).trans s1
    replace s2 := (hq_w11 (Z) 2 ml).trans s2
    replace s3 := (hq_w11 (Z) 3 ml).trans s3
    replace s4 := (hq_w11 (Z) 4 ml).trans s4
    replace s5 := (hq_w11 (Z) 5 ml).trans s5
    replace s6 := (hq_w11 (Z) 6 ml).trans s6
    replace m0 := Nat.lt_of_lt_of_le m0 hx11.size
    replace m3 := Nat.lt_of_lt_of_le m3 hx11.size
    replace ml := Nat.lt_of_lt_of_le ml hx11.size
    clear hq_w11
    replace hx7 : Ext w w11 := hx7.trans (hx11.mono hx7.size)
    have hs11 := hx7.size
    clear hx11
    cases bz
    all_goals
      simp only [Bool.false_eq_true, if_false, if_true] at HN
      subst HN
      go_upto_region 17 with (fail)
      go_wp2_with fail
      refine (CR.out _).mono ?_
      rintro e w12 ⟨rfl, hx12⟩
      have hx13 : Ext w w12 := Ext.step (by (repeat (first | exact Below.refl _ _ | assumption | refine Below.drewN ?_ _ | refine Below.drew ?_ | refine Below.setCell ?_ (by first | exact Nat.le_refl _ | (simp; done) | (simp; omega) | omega) _ | refine Below.alloc ?_ (by first | exact Nat.le_refl _ | (simp; done) | (simp; omega) | omega) _))) hx12
      go_wp2
      go_ret
      exact ⟨rfl, hx13⟩
end Go.Proofs.Ytmmhiiiaccldmaa
