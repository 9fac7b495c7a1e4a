/- The law MeetTurns: its walk. | MeetTurns, its plain part: a motion of both edges plays no part. -/
import Derived.Test.YtmmhiiiaccldmaaJ26
import Derived.Test.YtmmhiiiaccldmaaJ36
import Derived.Test.YtmmhiiiaccldmaaJ34
import Derived.Test.YtmmhiiiaccldmaaJ30
import Derived.Test.YtmmhiiiaccldmaaJ09
import Derived.Test.YtmmhiiiaccldmaaJ31
import Derived.Deep.DeepCutAuto
set_option linter.unusedVariables false
set_option linter.unusedSimpArgs false

namespace Go.Proofs.Ytmmhiiiaccldmaa
open Go.RowKit
attribute [local go_sem] Gives givesU

set_option maxRecDepth 100000 in
set_option maxHeartbeats 4000000 in
theorem Turns_core (k ax ay bx by' cx cy k' dx dy ex ey fx fy p0 p1 p2 x y t n : Int) (m : Bool) (RA RB TA TB : Value) (a0 a1 : Option Addr) (n0 c0 n1 c1 : Nat) (w : World)
    (X : p0.tmod 1000 = x) (Y : p1.tmod 1000 = y) (hx' : IntKind.i64.wrap x = x) (hy' : IntKind.i64.wrap y = y)
    (M1 : ∀ W, Ext w W → Calls Try.prog 9 #[.slice a0 n0 c0, .int .i64 1] W fun e w' => e = .returned (.agg #[.int .i64 k, .int .i64 ax, .int .i64 ay, .int .i64 bx, .int .i64 by', .int .i64 cx, .int .i64 cy]) ∧ Ext W w')
    (M2 : ∀ W, Ext w W → Calls Try.prog 9 #[.slice a1 n1 c1, .int .i64 1] W fun e w' => e = .returned (.agg #[.int .i64 k', .int .i64 dx, .int .i64 dy, .int .i64 ex, .int .i64 ey, .int .i64 fx, .int .i64 fy]) ∧ Ext W w')
    (MT : ∀ W, Calls Try.prog 14 #[.int .i64 p2, .int .i64 4] W fun e w' => e = .returned (.int .i64 t) ∧ Ext W w')
    (C0 : ∀ W, Calls Try.prog 10 #[.agg #[.int .i64 k, .int .i64 ax, .int .i64 ay, .int .i64 bx, .int .i64 by', .int .i64 cx, .int .i64 cy], .agg #[.int .i64 k', .int .i64 dx, .int .i64 dy, .int .i64 ex, .int .i64 ey, .int .i64 fx, .int .i64 fy]] W fun e w' => e = .returned (.int .i64 n) ∧ Ext W w')
    (C1 : ∀ W, Calls Try.prog 10 #[.agg #[.int .i64 k', .int .i64 dx, .int .i64 dy, .int .i64 ex, .int .i64 ey, .int .i64 fx, .int .i64 fy], .agg #[.int .i64 k, .int .i64 ax, .int .i64 ay, .int .i64 bx, .int .i64 by', .int .i64 cx, .int .i64 cy]] W fun e w' => e = .returned (.int .i64 n) ∧ Ext W w')
    (R1 : ∀ W, Calls Try.prog 21 #[.agg #[.int .i64 k, .int .i64 ax, .int .i64 ay, .int .i64 bx, .int .i64 by', .int .i64 cx, .int .i64 cy]] W fun e w' => e = .returned RA ∧ Ext W w')
    (C2 : ∀ W, Calls Try.prog 10 #[RA, .agg #[.int .i64 k', .int .i64 dx, .int .i64 dy, .int .i64 ex, .int .i64 ey, .int .i64 fx, .int .i64 fy]] W fun e w' => e = .returned (.int .i64 n) ∧ Ext W w')
    (R2 : ∀ W, Calls Try.prog 21 #[.agg #[.int .i64 k', .int .i64 dx, .int .i64 dy, .int .i64 ex, .int .i64 ey, .int .i64 fx, .int .i64 fy]] W fun e w' => e = .returned RB ∧ Ext W w')
    (C3 : ∀ W, Calls Try.prog 10 #[.agg #[.int .i64 k, .int .i64 ax, .int .i64 ay, .int .i64 bx, .int .i64 by', .int .i64 cx, .int .i64 cy], RB] W fun e w' => e = .returned (.int .i64 n) ∧ Ext W w')
    (V1 : ∀ W, Calls Try.prog 16 #[.agg #[.int .i64 k, .int .i64 ax, .int .i64 ay, .int .i64 bx, .int .i64 by', .int .i64 cx, .int .i64 cy], .agg #[.int .i64 x, .int .i64 y, .int .i64 t, .bool m]] W fun e w' => e = .returned TA ∧ Ext W w')
    (V2 : ∀ W, Calls Try.prog 16 #[.agg #[.int .i64 k', .int .i64 dx, .int .i64 dy, .int .i64 ex, .int .i64 ey, .int .i64 fx, .int .i64 fy], .agg #[.int .i64 x, .int .i64 y, .int .i64 t, .bool m]] W fun e w' => e = .returned TB ∧ Ext W w')
    (C4 : ∀ W, Calls Try.prog 10 #[TA, TB] W fun e w' => e = .returned (.int .i64 n) ∧ Ext W w')
    (E1 : ∀ W, Calls Try.prog 19 #[.agg #[.int .i64 k, .int .i64 ax, .int .i64 ay, .int .i64 bx, .int .i64 by', .int .i64 cx, .int .i64 cy], .agg #[.int .i64 k', .int .i64 dx, .int .i64 dy, .int .i64 ex, .int .i64 ey, .int .i64 fx, .int .i64 fy]] W fun e w' => e = .returned (.bool (n != 0)) ∧ Ext W w') :
    Calls Try.prog 7 #[.slice a0 n0 c0, .slice a1 n1 c1, .agg #[.int .i64 p0, .int .i64 p1, .int .i64 p2, .bool m]] w fun e w' => e = .returned (.bool true) ∧ Ext w w' := by
  have SN := Lib.hid law_sanity
  replace M1 := Lib.hid M1
  replace M2 := Lib.hid M2
  replace MT := Lib.hid MT
  replace C0 := Lib.hid C0
  replace C1 := Lib.hid C1
  replace C2 := Lib.hid C2
  replace C3 := Lib.hid C3
  replace C4 := Lib.hid C4
  replace R1 := Lib.hid R1
  replace R2 := Lib.hid R2
  replace V1 := Lib.hid V1
  replace V2 := Lib.hid V2
  replace E1 := Lib.hid E1
  go_enter Try.func7, Try.ntmps7
  go_wp2_with fail
  refine (SN.out _).mono ?_
  rintro e w1 ⟨rfl, hx⟩
  have hx1 : Ext w w1 := Ext.step (by (repeat (first | exact Below.refl _ _ | assumption | refine Below.drewN ?_ _ | refine Below.drew ?_ | refine Below.setCell ?_ (by first | exact Nat.le_refl _ | (simp; done) | (simp; omega) | omega) _ | refine Below.alloc ?_ (by first | exact Nat.le_refl _ | (simp; done) | (simp; omega) | omega) _))) hx
  have hs1 := hx1.size
  have hz_w1 : w.heap.size + 1 ≤ w1.heap.size := Nat.le_trans (by first | omega | (simp; done) | (simp; omega)) hx.size
  have hl_w1_0 : w.heap.size < w1.heap.size := Nat.lt_of_lt_of_le (by omega) hz_w1
  have hk_w1_0 : ∀ o, w1.cell? ⟨w.heap.size, o, none⟩ = _ := fun o => hx.cell (p := ⟨w.heap.size, o, none⟩) (show w.heap.size < _ from (by first | omega | (simp; done) | (simp; omega)))
  have hf_w1_0 : ∀ o, w1.frozen? ⟨w.heap.size, o, none⟩ = _ := fun o => hx.frozen (p := ⟨w.heap.size, o, none⟩) (show w.heap.size < _ from (by first | omega | (simp; done) | (simp; omega)))
  clear hx
  have u0 : w1.cell? ⟨w.heap.size, 0, none⟩ = some (.int .i64 p0) := by go_simp
  have u1 : w1.cell? ⟨w.heap.size, 1, none⟩ = some (.int .i64 p1) := by go_simp
  have u2 : w1.cell? ⟨w.heap.size, 2, none⟩ = some (.int .i64 p2) := by go_simp
  have u3 : w1.cell? ⟨w.heap.size, 3, none⟩ = some (.bool m) := by go_simp
  have uf : ∀ o, w1.frozen? ⟨w.heap.size, o, none⟩ = false := by intro o; go_simp
  clear hk_w1_0 hf_w1_0
  go_wp2_with fail
  refine (M1.out _ hx1).mono ?_
  rintro e w2 ⟨rfl, hx⟩
  have hx2 : Ext w w2 := Ext.step hx1 hx
  replace u0 := (hx.cell (p := ⟨w.heap.size, 0, none⟩) hl_w1_0).trans u0
  replace u1 := (hx.cell (p := ⟨w.heap.size, 1, none⟩) hl_w1_0).trans u1
  replace u2 := (hx.cell (p := ⟨w.heap.size, 2, none⟩) hl_w1_0).trans u2
  replace u3 := (hx.cell (p := ⟨w.heap.size, 3, none⟩) hl_w1_0).trans u3
  replace uf : ∀ o, w2.frozen? ⟨w.heap.size, o, none⟩ = false := fun o => (hx.frozen (p := ⟨w.heap.size, o, none⟩) hl_w1_0).trans (uf o)
  have l2 : w.heap.size < w2.heap.size := Nat.lt_of_lt_of_le hl_w1_0 hx.size
  clear hx hx1
  go_wp2_with fail
  refine (M2.out _ hx2).mono ?_
  rintro e w3 ⟨rfl, hx⟩
  have hx3 : Ext w w3 := Ext.step hx2 hx
  replace u0 := (hx.cell (p := ⟨w.heap.size, 0, none⟩) l2).trans u0
  replace u1 := (hx.cell (p := ⟨w.heap.size, 1, none⟩) l2).trans u1
  replace u2 := (hx.cell (p := ⟨w.heap.size, 2, none⟩) l2).trans u2
  replace u3 := (hx.cell (p := ⟨w.heap.size, 3, none⟩) l2).trans u3
  replace uf : ∀ o, w3.frozen? ⟨w.heap.size, o, none⟩ = false := fun o => (hx.frozen (p := ⟨w.heap.size, o, none⟩) l2).trans (uf o)
  have l3 : w.heap.size < w3.heap.size := Nat.lt_of_lt_of_le l2 hx.size
  have hs3 := hx3.size
  clear hx hx2
  go_upto_region 3 with (fail)
  refine wp_world (fun W => Ext w W ∧ (W.cell? ⟨w.heap.size, 0, none⟩ = some (.int .i64 p0) ∧ W.cell? ⟨w.heap.size, 1, none⟩ = some (.int .i64 p1) ∧ W.cell? ⟨w.heap.size, 2, none⟩ = some (.int .i64 p2) ∧ W.cell? ⟨w.heap.size, 3, none⟩ = some (.bool m) ∧ W.cell? ⟨w3.heap.size, 0, none⟩ = some (.int .i64 k) ∧ W.cell? ⟨w3.heap.size, 1, none⟩ = some (.int .i64 ax) ∧ W.cell? ⟨w3.heap.size, 2, none⟩ = some (.int .i64 ay) ∧ W.cell? ⟨w3.heap.size, 3, none⟩ = some (.int .i64 bx) ∧ W.cell? ⟨w3.heap.size, 4, none⟩ = some (.int .i64 by') ∧ W.cell? ⟨w3.heap.size, 5, none⟩ = some (.int .i64 cx) ∧ W.cell? ⟨w3.heap.size, 6, none⟩ = some (.int .i64 cy) ) ∧ (W.cell? ⟨w3.heap.size + 1, 0, none⟩ = some (.int .i64 k') ∧ W.cell? ⟨w3.heap.size + 1, 1, none⟩ = some (.int .i64 dx) ∧ W.cell? ⟨w3.heap.size + 1, 2, none⟩ = some (.int .i64 dy) ∧ W.cell? ⟨w3.heap.size + 1, 3, none⟩ = some (.int .i64 ex) ∧ W.cell? ⟨w3.heap.size + 1, 4, none⟩ = some (.int .i64 ey) ∧ W.cell? ⟨w3.heap.size + 1, 5, none⟩ = some (.int .i64 fx) ∧ W.cell? ⟨w3.heap.size + 1, 6, none⟩ = some (.int .i64 fy)) ∧ (∀ o, W.frozen? ⟨w.heap.size, o, none⟩ = false) ∧ w3.heap.size + 1 < W.heap.size) ?_ ?_
  · refine ⟨by (repeat (first | exact Below.refl _ _ | assumption | refine Below.drewN ?_ _ | refine Below.drew ?_ | refine Below.setCell ?_ (by first | exact Nat.le_refl _ | (simp; done) | (simp; omega) | omega) _ | refine Below.alloc ?_ (by first | exact Nat.le_refl _ | (simp; done) | (simp; omega) | omega) _)), by go_simp, by go_simp, by intro o; go_simp, by simp⟩
  clear u0 u1 u2 u3 uf
  rintro V3 ⟨hx4, ⟨u0, u1, u2, u3, z0, z1, z2, z3, z4, z5, z6⟩, ⟨y0, y1, y2, y3, y4, y5, y6⟩, uf, hl⟩
  obtain ⟨A, hA⟩ : ∃ A, Hid (w3.heap.size = A) := ⟨_, rfl⟩
  rw [hA.out] at z0 z1 z2 z3 z4 z5 z6 l3
  obtain ⟨B, hB⟩ : ∃ B, Hid (w3.heap.size + 1 = B) := ⟨_, rfl⟩
  rw [hB.out] at y0 y1 y2 y3 y4 y5 y6 hl
  rw [hB.out, hA.out]
  have q0 : w.heap.size < V3.heap.size := by have := hA.out; have := hB.out; omega
  have q1 : A < V3.heap.size := by have := hA.out; have := hB.out; omega
  have gA : w.heap.size ≠ A := by omega
  have gA' : A ≠ w.heap.size := by omega
  have gB : w.heap.size ≠ B := by have := hA.out; have := hB.out; omega
  have gB' : B ≠ w.heap.size := by omega
  clear hx3 hs3 hs1
  refine wp_region_Q 15 (fun o => match o.dst with | some d => [999].contains d | none => false) (fun W => Ext w W ∧ V3.heap.size ≤ W.heap.size ∧ W.cell? ⟨w.heap.size, 0, none⟩ = some (.int .i64 p0) ∧ W.cell? ⟨w.heap.size, 1, none⟩ = some (.int .i64 p1) ∧ W.cell? ⟨w.heap.size, 2, none⟩ = some (.int .i64 p2) ∧ W.cell? ⟨w.heap.size, 3, none⟩ = some (.bool m) ∧ W.cell? ⟨A, 0, none⟩ = some (.int .i64 k) ∧ W.cell? ⟨A, 1, none⟩ = some (.int .i64 ax) ∧ W.cell? ⟨A, 2, none⟩ = some (.int .i64 ay) ∧ W.cell? ⟨A, 3, none⟩ = some (.int .i64 bx) ∧ W.cell? ⟨A, 4, none⟩ = some (.int .i64 by') ∧ W.cell? ⟨A, 5, none⟩ = some (.int .i64 cx) ∧ W.cell? ⟨A, 6, none⟩ = some (.int .i64 cy) ∧ W.cell? ⟨B, 0, none⟩ = some (.int .i64 k') ∧ W.cell? ⟨B, 1, none⟩ = some (.int .i64 dx) ∧ W.cell? ⟨B, 2, none⟩ = some (.int .i64 dy) ∧ W.cell? ⟨B, 3, none⟩ = some (.int .i64 ex) ∧ W.cell? ⟨B, 4, none⟩ = some (.int .i64 ey) ∧ W.cell? ⟨B, 5, none⟩ = some (.int .i64 fx) ∧ W.cell? ⟨B, 6, none⟩ = some (.int .i64 fy)) (fun W => (Ext w W ∧ V3.heap.size ≤ W.heap.size ∧ W.cell? ⟨w.heap.size, 0, none⟩ = some (.int .i64 p0) ∧ W.cell? ⟨w.heap.size, 1, none⟩ = some (.int .i64 p1) ∧ W.cell? ⟨w.heap.size, 2, none⟩ = some (.int .i64 p2) ∧ W.cell? ⟨w.heap.size, 3, none⟩ = some (.bool m) ∧ W.cell? ⟨A, 0, none⟩ = some (.int .i64 k) ∧ W.cell? ⟨A, 1, none⟩ = some (.int .i64 ax) ∧ W.cell? ⟨A, 2, none⟩ = some (.int .i64 ay) ∧ W.cell? ⟨A, 3, none⟩ = some (.int .i64 bx) ∧ W.cell? ⟨A, 4, none⟩ = some (.int .i64 by') ∧ W.cell? ⟨A, 5, none⟩ = some (.int .i64 cx) ∧ W.cell? ⟨A, 6, none⟩ = some (.int .i64 cy) ∧ W.cell? ⟨B, 0, none⟩ = some (.int .i64 k') ∧ W.cell? ⟨B, 1, none⟩ = some (.int .i64 dx) ∧ W.cell? ⟨B, 2, none⟩ = some (.int .i64 dy) ∧ W.cell? ⟨B, 3, none⟩ = some (.int .i64 ex) ∧ W.cell? ⟨B, 4, none⟩ = some (.int .i64 ey) ∧ W.cell? ⟨B, 5, none⟩ = some (.int .i64 fx) ∧ W.cell? ⟨B, 6, none⟩ = some (.int .i64 fy)) ∧ (∀ o, W.frozen? ⟨w.heap.size, o, none⟩ = false)) (by kernel_rfl) (by kernel_rfl) (by kernel_rfl) (by kernel_rfl) ?_ ?_ (fun _ h => h.1) ?_ ?_
  · refine ⟨⟨by (repeat (first | exact Below.refl _ _ | assumption | refine Below.drewN ?_ _ | refine Below.drew ?_ | refine Below.setCell ?_ (by first | exact Nat.le_refl _ | (simp; done) | (simp; omega) | omega) _ | refine Below.alloc ?_ (by first | exact Nat.le_refl _ | (simp; done) | (simp; omega) | omega) _)), by first | omega | (simp; done) | (simp; omega), ?_⟩, ?_⟩ <;> (try go_simp)
  · (intro W W' h hb; obtain ⟨⟨hx, hz, hc⟩, hr⟩ := h; have hbc : ∀ b o, b < W.heap.size → W'.cell? ⟨b, o, none⟩ = W.cell? ⟨b, o, none⟩ := fun b o h => hb.cell (p := ⟨b, o, none⟩) h; have hbf : ∀ b o, b < W.heap.size → W'.frozen? ⟨b, o, none⟩ = W.frozen? ⟨b, o, none⟩ := fun b o h => hb.frozen (p := ⟨b, o, none⟩) h; refine ⟨⟨hx.step hb, Nat.le_trans hz hb.size, ?_⟩, ?_⟩ <;> (simp (disch := omega) only [hbc, hbf]; assumption))
  · (intro W h; have h2 := h.1.2.1; first | omega | (simp; omega))
  simp only [List.take_succ_cons, List.take_zero, List.drop_succ_cons, List.drop_zero]
  repeat (first | (refine Q_skip (by rfl) (by rfl) ?_; simp only [Act.put, List.setIfInBounds_toArray, List.set_cons_zero, List.set_cons_succ]) | (refine Q_run (v := ?_) (by rfl) (by rfl) ?_ ?_; rotate_left; (· (intro W hW; (try dsimp only at hW); go_simp; try with_reducible rfl)); simp only [Act.put, List.setIfInBounds_toArray, List.set_cons_zero, List.set_cons_succ]) | (refine Q_read (v := ?_) (by rfl) (by rfl) ?_ ?_; rotate_left; (· (intro W hW; (try dsimp only at hW); go_simp; try with_reducible rfl)); simp only [Act.put, List.setIfInBounds_toArray, List.set_cons_zero, List.set_cons_succ]))
  (refine Q_call (v := .int .i64 t) (by rfl) (by rfl) (by rfl) ?_ ?_; (· (intro W hW; (try dsimp only at hW); go_simp; refine (MT.out _).mono ?_; rintro e w' ⟨rfl, hx⟩; exact ⟨_, rfl, rfl, hx⟩))); simp only [Act.put, List.setIfInBounds_toArray, List.set_cons_zero, List.set_cons_succ]
  repeat (first | (refine Q_skip (by rfl) (by rfl) ?_; simp only [Act.put, List.setIfInBounds_toArray, List.set_cons_zero, List.set_cons_succ]) | (refine Q_run (v := ?_) (by rfl) (by rfl) ?_ ?_; rotate_left; (· (intro W hW; (try dsimp only at hW); go_simp; try with_reducible rfl)); simp only [Act.put, List.setIfInBounds_toArray, List.set_cons_zero, List.set_cons_succ]) | (refine Q_read (v := ?_) (by rfl) (by rfl) ?_ ?_; rotate_left; (· (intro W hW; (try dsimp only at hW); go_simp; try with_reducible rfl)); simp only [Act.put, List.setIfInBounds_toArray, List.set_cons_zero, List.set_cons_succ]))
  refine Q_done ?_
  refine F_store (fun W => Ext w W ∧ V3.heap.size ≤ W.heap.size ∧ W.cell? ⟨w.heap.size, 0, none⟩ = some (.int .i64 x) ∧ W.cell? ⟨w.heap.size, 1, none⟩ = some (.int .i64 y) ∧ W.cell? ⟨w.heap.size, 2, none⟩ = some (.int .i64 t) ∧ W.cell? ⟨w.heap.size, 3, none⟩ = some (.bool m) ∧ W.cell? ⟨A, 0, none⟩ = some (.int .i64 k) ∧ W.cell? ⟨A, 1, none⟩ = some (.int .i64 ax) ∧ W.cell? ⟨A, 2, none⟩ = some (.int .i64 ay) ∧ W.cell? ⟨A, 3, none⟩ = some (.int .i64 bx) ∧ W.cell? ⟨A, 4, none⟩ = some (.int .i64 by') ∧ W.cell? ⟨A, 5, none⟩ = some (.int .i64 cx) ∧ W.cell? ⟨A, 6, none⟩ = some (.int .i64 cy) ∧ W.cell? ⟨B, 0, none⟩ = some (.int .i64 k') ∧ W.cell? ⟨B, 1, none⟩ = some (.int .i64 dx) ∧ W.cell? ⟨B, 2, none⟩ = some (.int .i64 dy) ∧ W.cell? ⟨B, 3, none⟩ = some (.int .i64 ex) ∧ W.cell? ⟨B, 4, none⟩ = some (.int .i64 ey) ∧ W.cell? ⟨B, 5, none⟩ = some (.int .i64 fx) ∧ W.cell? ⟨B, 6, none⟩ = some (.int .i64 fy)) ?_ (fun _ _ => trivial) (by rfl) (by rfl) ?_ ?_
  · (intro W W' h hb; obtain ⟨hx, hz, hc⟩ := h; have hbc : ∀ b o, b < W.heap.size → W'.cell? ⟨b, o, none⟩ = W.cell? ⟨b, o, none⟩ := fun b o h => hb.cell (p := ⟨b, o, none⟩) h; have hbf : ∀ b o, b < W.heap.size → W'.frozen? ⟨b, o, none⟩ = W.frozen? ⟨b, o, none⟩ := fun b o h => hb.frozen (p := ⟨b, o, none⟩) h; refine ⟨hx.step hb, Nat.le_trans hz hb.size, ?_⟩; simp (disch := omega) only [hbc, hbf]; exact hc)
  · (intro W hW; obtain ⟨⟨hx, hz, hc⟩, hr⟩ := hW; go_simp; (try dsimp only); (repeat' apply And.intro) <;> first | with_reducible assumption | (go_simp; done) | ((repeat (refine Below.setCell ?_ (by first | exact Nat.le_refl _ | exact Nat.le_succ _ | (dsimp only; omega) | omega) _)); exact hx) | omega | (simp; done) | (simp; omega))
  simp only [Act.put, List.setIfInBounds_toArray, List.set_cons_zero, List.set_cons_succ]
  clear u0 u1 u2 u3 z0 z1 z2 z3 z4 z5 z6 y0 y1 y2 y3 y4 y5 y6 uf
  rintro V4 ⟨⟨hx5, hz5, u0, u1, u2, u3, z0, z1, z2, z3, z4, z5, z6, y0, y1, y2, y3, y4, y5, y6⟩, _⟩
  have r0 : w.heap.size < V4.heap.size := by omega
  have r1 : A < V4.heap.size := by omega
  have r2 : B < V4.heap.size := by omega
  clear hx4 q0 q1 hl hz5 gA gA' gB gB'
  go_wp2_with fail
  refine (C0.out _).mono ?_
  rintro e w5 ⟨rfl, hx⟩
  have hx6 : Ext w w5 := Ext.step hx5 hx
  have hq5 : ∀ b o, b < V4.heap.size → w5.cell? ⟨b, o, none⟩ = V4.cell? ⟨b, o, none⟩ := fun b o h => hx.cell (p := ⟨b, o, none⟩) h
  replace u0 := (hq5 _ _ r0).trans u0
  replace u1 := (hq5 _ _ r0).trans u1
  replace u2 := (hq5 _ _ r0).trans u2
  replace u3 := (hq5 _ _ r0).trans u3
  replace z0 := (hq5 _ _ r1).trans z0
  replace z1 := (hq5 _ _ r1).trans z1
  replace z2 := (hq5 _ _ r1).trans z2
  replace z3 := (hq5 _ _ r1).trans z3
  replace z4 := (hq5 _ _ r1).trans z4
  replace z5 := (hq5 _ _ r1).trans z5
  replace z6 := (hq5 _ _ r1).trans z6
  replace y0 := (hq5 _ _ r2).trans y0
  replace y1 := (hq5 _ _ r2).trans y1
  replace y2 := (hq5 _ _ r2).trans y2
  replace y3 := (hq5 _ _ r2).trans y3
  replace y4 := (hq5 _ _ r2).trans y4
  replace y5 := (hq5 _ _ r2).trans y5
  replace y6 := (hq5 _ _ r2).trans y6
  have hs5 := hx.size
  have j0 : w.heap.size < w5.heap.size := by omega
  have j1 : A < w5.heap.size := by omega
  have j2 : B < w5.heap.size := by omega
  clear hq5 hx hx5 r0 r1 r2 hs5
  go_upto_region 5 with (fail)
  have hKeep : FKeep (w5.heap.size) (fun W => Ext w5 W ∧ w5.heap.size ≤ W.heap.size ∧ W.cell? ⟨w.heap.size, 0, none⟩ = some (.int .i64 x) ∧ W.cell? ⟨w.heap.size, 1, none⟩ = some (.int .i64 y) ∧ W.cell? ⟨w.heap.size, 2, none⟩ = some (.int .i64 t) ∧ W.cell? ⟨w.heap.size, 3, none⟩ = some (.bool m) ∧ W.cell? ⟨A, 0, none⟩ = some (.int .i64 k) ∧ W.cell? ⟨A, 1, none⟩ = some (.int .i64 ax) ∧ W.cell? ⟨A, 2, none⟩ = some (.int .i64 ay) ∧ W.cell? ⟨A, 3, none⟩ = some (.int .i64 bx) ∧ W.cell? ⟨A, 4, none⟩ = some (.int .i64 by') ∧ W.cell? ⟨A, 5, none⟩ = some (.int .i64 cx) ∧ W.cell? ⟨A, 6, none⟩ = some (.int .i64 cy) ∧ W.cell? ⟨B, 0, none⟩ = some (.int .i64 k') ∧ W.cell? ⟨B, 1, none⟩ = some (.int .i64 dx) ∧ W.cell? ⟨B, 2, none⟩ = some (.int .i64 dy) ∧ W.cell? ⟨B, 3, none⟩ = some (.int .i64 ex) ∧ W.cell? ⟨B, 4, none⟩ = some (.int .i64 ey) ∧ W.cell? ⟨B, 5, none⟩ = some (.int .i64 fx) ∧ W.cell? ⟨B, 6, none⟩ = some (.int .i64 fy)) := (by intro W W' h hb; obtain ⟨hx, hz, hc⟩ := h; have hbc : ∀ b o, b < _ → W'.cell? ⟨b, o, none⟩ = W.cell? ⟨b, o, none⟩ := fun b o h => hb.cell (p := ⟨b, o, none⟩) h; refine ⟨hx.trans (hb.mono (by omega)), Nat.le_trans hz hb.size, ?_⟩; (try dsimp only at hc ⊢); simp (disch := omega) only [hbc]; exact hc)
  first | refine wp_region_K (w5.heap.size) (fun W => Ext w5 W ∧ w5.heap.size ≤ W.heap.size ∧ W.cell? ⟨w.heap.size, 0, none⟩ = some (.int .i64 x) ∧ W.cell? ⟨w.heap.size, 1, none⟩ = some (.int .i64 y) ∧ W.cell? ⟨w.heap.size, 2, none⟩ = some (.int .i64 t) ∧ W.cell? ⟨w.heap.size, 3, none⟩ = some (.bool m) ∧ W.cell? ⟨A, 0, none⟩ = some (.int .i64 k) ∧ W.cell? ⟨A, 1, none⟩ = some (.int .i64 ax) ∧ W.cell? ⟨A, 2, none⟩ = some (.int .i64 ay) ∧ W.cell? ⟨A, 3, none⟩ = some (.int .i64 bx) ∧ W.cell? ⟨A, 4, none⟩ = some (.int .i64 by') ∧ W.cell? ⟨A, 5, none⟩ = some (.int .i64 cx) ∧ W.cell? ⟨A, 6, none⟩ = some (.int .i64 cy) ∧ W.cell? ⟨B, 0, none⟩ = some (.int .i64 k') ∧ W.cell? ⟨B, 1, none⟩ = some (.int .i64 dx) ∧ W.cell? ⟨B, 2, none⟩ = some (.int .i64 dy) ∧ W.cell? ⟨B, 3, none⟩ = some (.int .i64 ex) ∧ W.cell? ⟨B, 4, none⟩ = some (.int .i64 ey) ∧ W.cell? ⟨B, 5, none⟩ = some (.int .i64 fx) ∧ W.cell? ⟨B, 6, none⟩ = some (.int .i64 fy)) (by kernel_rfl) (by kernel_rfl) ?_ hKeep (fun _ h => h.2.1) ?_ | refine wp_region_Ks (w5.heap.size) (fun W => Ext w5 W ∧ w5.heap.size ≤ W.heap.size ∧ W.cell? ⟨w.heap.size, 0, none⟩ = some (.int .i64 x) ∧ W.cell? ⟨w.heap.size, 1, none⟩ = some (.int .i64 y) ∧ W.cell? ⟨w.heap.size, 2, none⟩ = some (.int .i64 t) ∧ W.cell? ⟨w.heap.size, 3, none⟩ = some (.bool m) ∧ W.cell? ⟨A, 0, none⟩ = some (.int .i64 k) ∧ W.cell? ⟨A, 1, none⟩ = some (.int .i64 ax) ∧ W.cell? ⟨A, 2, none⟩ = some (.int .i64 ay) ∧ W.cell? ⟨A, 3, none⟩ = some (.int .i64 bx) ∧ W.cell? ⟨A, 4, none⟩ = some (.int .i64 by') ∧ W.cell? ⟨A, 5, none⟩ = some (.int .i64 cx) ∧ W.cell? ⟨A, 6, none⟩ = some (.int .i64 cy) ∧ W.cell? ⟨B, 0, none⟩ = some (.int .i64 k') ∧ W.cell? ⟨B, 1, none⟩ = some (.int .i64 dx) ∧ W.cell? ⟨B, 2, none⟩ = some (.int .i64 dy) ∧ W.cell? ⟨B, 3, none⟩ = some (.int .i64 ex) ∧ W.cell? ⟨B, 4, none⟩ = some (.int .i64 ey) ∧ W.cell? ⟨B, 5, none⟩ = some (.int .i64 fx) ∧ W.cell? ⟨B, 6, none⟩ = some (.int .i64 fy)) ?_ hKeep (fun _ h => h.2.1) ?_
  · refine ⟨by (repeat (first | exact Below.refl _ _ | assumption | refine Below.drewN ?_ _ | refine Below.drew ?_ | refine Below.setCell ?_ (by first | exact Nat.le_refl _ | (simp; done) | (simp; omega) | omega) _ | refine Below.alloc ?_ (by first | exact Nat.le_refl _ | (simp; done) | (simp; omega) | omega) _)), by first | omega | (simp; done) | (simp; omega), ?_⟩
    go_simp
  repeat (first | (refine F_skip (by rfl) ?_; simp only [Act.put, List.setIfInBounds_toArray, List.set_cons_zero, List.set_cons_succ]) | (refine F_run (v := ?_) (by rfl) ?_ ?_; rotate_left; (· (intro W hW; (try dsimp only at hW); go_simp; try with_reducible rfl)); simp only [Act.put, List.setIfInBounds_toArray, List.set_cons_zero, List.set_cons_succ]))
  (refine F_call (v := .int .i64 n) (by rfl) (by rfl) ?_ ?_; (· (intro W hW; (try dsimp only at hW); go_simp; refine (C1.out _).mono ?_; rintro e w' ⟨rfl, hx⟩; exact ⟨_, rfl, rfl, hx⟩))); simp only [Act.put, List.setIfInBounds_toArray, List.set_cons_zero, List.set_cons_succ]
  repeat (first | (refine F_skip (by rfl) ?_; simp only [Act.put, List.setIfInBounds_toArray, List.set_cons_zero, List.set_cons_succ]) | (refine F_run (v := ?_) (by rfl) ?_ ?_; rotate_left; (· (intro W hW; (try dsimp only at hW); go_simp; try with_reducible rfl)); simp only [Act.put, List.setIfInBounds_toArray, List.set_cons_zero, List.set_cons_succ]))
  (refine F_call (v := RA) (by rfl) (by rfl) ?_ ?_; (· (intro W hW; (try dsimp only at hW); go_simp; refine (R1.out _).mono ?_; rintro e w' ⟨rfl, hx⟩; exact ⟨_, rfl, rfl, hx⟩))); simp only [Act.put, List.setIfInBounds_toArray, List.set_cons_zero, List.set_cons_succ]
  repeat (first | (refine F_skip (by rfl) ?_; simp only [Act.put, List.setIfInBounds_toArray, List.set_cons_zero, List.set_cons_succ]) | (refine F_run (v := ?_) (by rfl) ?_ ?_; rotate_left; (· (intro W hW; (try dsimp only at hW); go_simp; try with_reducible rfl)); simp only [Act.put, List.setIfInBounds_toArray, List.set_cons_zero, List.set_cons_succ]))
  (refine F_call (v := .int .i64 n) (by rfl) (by rfl) ?_ ?_; (· (intro W hW; (try dsimp only at hW); go_simp; refine (C2.out _).mono ?_; rintro e w' ⟨rfl, hx⟩; exact ⟨_, rfl, rfl, hx⟩))); simp only [Act.put, List.setIfInBounds_toArray, List.set_cons_zero, List.set_cons_succ]
  repeat (first | (refine F_skip (by rfl) ?_; simp only [Act.put, List.setIfInBounds_toArray, List.set_cons_zero, List.set_cons_succ]) | (refine F_run (v := ?_) (by rfl) ?_ ?_; rotate_left; (· (intro W hW; (try dsimp only at hW); go_simp; try with_reducible rfl)); simp only [Act.put, List.setIfInBounds_toArray, List.set_cons_zero, List.set_cons_succ]))
  (refine F_call (v := RB) (by rfl) (by rfl) ?_ ?_; (· (intro W hW; (try dsimp only at hW); go_simp; refine (R2.out _).mono ?_; rintro e w' ⟨rfl, hx⟩; exact ⟨_, rfl, rfl, hx⟩))); simp only [Act.put, List.setIfInBounds_toArray, List.set_cons_zero, List.set_cons_succ]
  repeat (first | (refine F_skip (by rfl) ?_; simp only [Act.put, List.setIfInBounds_toArray, List.set_cons_zero, List.set_cons_succ]) | (refine F_run (v := ?_) (by rfl) ?_ ?_; rotate_left; (· (intro W hW; (try dsimp only at hW); go_simp; try with_reducible rfl)); simp only [Act.put, List.setIfInBounds_toArray, List.set_cons_zero, List.set_cons_succ]))
  (refine F_call (v := .int .i64 n) (by rfl) (by rfl) ?_ ?_; (· (intro W hW; (try dsimp only at hW); go_simp; refine (C3.out _).mono ?_; rintro e w' ⟨rfl, hx⟩; exact ⟨_, rfl, rfl, hx⟩))); simp only [Act.put, List.setIfInBounds_toArray, List.set_cons_zero, List.set_cons_succ]
  repeat (first | (refine F_skip (by rfl) ?_; simp only [Act.put, List.setIfInBounds_toArray, List.set_cons_zero, List.set_cons_succ]) | (refine F_run (v := ?_) (by rfl) ?_ ?_; rotate_left; (· (intro W hW; (try dsimp only at hW); go_simp; try with_reducible rfl)); simp only [Act.put, List.setIfInBounds_toArray, List.set_cons_zero, List.set_cons_succ]))
  (refine F_call (v := TA) (by rfl) (by rfl) ?_ ?_; (· (intro W hW; (try dsimp only at hW); go_simp; refine (V1.out _).mono ?_; rintro e w' ⟨rfl, hx⟩; exact ⟨_, rfl, rfl, hx⟩))); simp only [Act.put, List.setIfInBounds_toArray, List.set_cons_zero, List.set_cons_succ]
  repeat (first | (refine F_skip (by rfl) ?_; simp only [Act.put, List.setIfInBounds_toArray, List.set_cons_zero, List.set_cons_succ]) | (refine F_run (v := ?_) (by rfl) ?_ ?_; rotate_left; (· (intro W hW; (try dsimp only at hW); go_simp; try with_reducible rfl)); simp only [Act.put, List.setIfInBounds_toArray, List.set_cons_zero, List.set_cons_succ]))
  (refine F_call (v := TB) (by rfl) (by rfl) ?_ ?_; (· (intro W hW; (try dsimp only at hW); go_simp; refine (V2.out _).mono ?_; rintro e w' ⟨rfl, hx⟩; exact ⟨_, rfl, rfl, hx⟩))); simp only [Act.put, List.setIfInBounds_toArray, List.set_cons_zero, List.set_cons_succ]
  repeat (first | (refine F_skip (by rfl) ?_; simp only [Act.put, List.setIfInBounds_toArray, List.set_cons_zero, List.set_cons_succ]) | (refine F_run (v := ?_) (by rfl) ?_ ?_; rotate_left; (· (intro W hW; (try dsimp only at hW); go_simp; try with_reducible rfl)); simp only [Act.put, List.setIfInBounds_toArray, List.set_cons_zero, List.set_cons_succ]))
  (refine F_call (v := .int .i64 n) (by rfl) (by rfl) ?_ ?_; (· (intro W hW; (try dsimp only at hW); go_simp; refine (C4.out _).mono ?_; rintro e w' ⟨rfl, hx⟩; exact ⟨_, rfl, rfl, hx⟩))); simp only [Act.put, List.setIfInBounds_toArray, List.set_cons_zero, List.set_cons_succ]
  repeat (first | (refine F_skip (by rfl) ?_; simp only [Act.put, List.setIfInBounds_toArray, List.set_cons_zero, List.set_cons_succ]) | (refine F_run (v := ?_) (by rfl) ?_ ?_; rotate_left; (· (intro W hW; (try dsimp only at hW); go_simp; try with_reducible rfl)); simp only [Act.put, List.setIfInBounds_toArray, List.set_cons_zero, List.set_cons_succ]))
  (refine F_call (v := .bool (n != 0)) (by rfl) (by rfl) ?_ ?_; (· (intro W hW; (try dsimp only at hW); go_simp; refine (E1.out _).mono ?_; rintro e w' ⟨rfl, hx⟩; exact ⟨_, rfl, rfl, hx⟩))); simp only [Act.put, List.setIfInBounds_toArray, List.set_cons_zero, List.set_cons_succ]
  repeat (first | (refine F_skip (by rfl) ?_; simp only [Act.put, List.setIfInBounds_toArray, List.set_cons_zero, List.set_cons_succ]) | (refine F_run (v := ?_) (by rfl) ?_ ?_; rotate_left; (· (intro W hW; (try dsimp only at hW); go_simp; try with_reducible rfl)); simp only [Act.put, List.setIfInBounds_toArray, List.set_cons_zero, List.set_cons_succ]))
  rintro W ⟨hx, hc⟩
  go_wp2
  go_ret
  exact ⟨rfl, Ext.step hx6 hx⟩
end Go.Proofs.Ytmmhiiiaccldmaa

namespace Go.Proofs.Ytmmhiiiaccldmaa
open Go.RowKit

/-- A turn by quarters, perhaps mirrored. -/
def IsoOk (a b c d : Int) : Prop := (b = 0 ∧ c = 0 ∧ (a = 1 ∨ a = -1) ∧ (d = 1 ∨ d = -1)) ∨ (a = 0 ∧ d = 0 ∧ (b = 1 ∨ b = -1) ∧ (c = 1 ∨ c = -1))
theorem dot_iso {a b c d : Int} (h : IsoOk a b c d) (x y z w : Int) : (a * x + b * y) * (a * z + b * w) + (c * x + d * y) * (c * z + d * w) = x * z + y * w := by
  rcases h with ⟨rfl, rfl, rfl | rfl, rfl | rfl⟩ | ⟨rfl, rfl, rfl | rfl, rfl | rfl⟩ <;> grind
theorem crs_iso {a b c d : Int} (x y z w : Int) : (a * x + b * y) * (c * z + d * w) - (c * x + d * y) * (a * z + b * w) = (a * d - b * c) * (x * w - y * z) := by grind
theorem det_iso {a b c d : Int} (h : IsoOk a b c d) : a * d - b * c = 1 ∨ a * d - b * c = -1 := by
  rcases h with ⟨rfl, rfl, rfl | rfl, rfl | rfl⟩ | ⟨rfl, rfl, rfl | rfl, rfl | rfl⟩ <;> decide
theorem sub_iso (a b x y z w t : Int) : a * x + b * y + t - (a * z + b * w + t) = a * (x - z) + b * (y - w) := by grind
theorem applyP_iso (x y t : Int) (m : Bool) (ht : 0 ≤ t ∧ t ≤ 3) : ∃ a b c d, IsoOk a b c d ∧ ∀ px py, applyP x y t m px py = (a * px + b * py + x, c * px + d * py + y) := by
  unfold IsoOk
  obtain rfl | rfl | rfl | rfl : t = 0 ∨ t = 1 ∨ t = 2 ∨ t = 3 := by omega
  · cases m
    · exact ⟨1, 0, 0, 1, by decide, fun px py => by simp [applyP, mir, rot]⟩
    · exact ⟨-1, 0, 0, 1, by decide, fun px py => by simp [applyP, mir, rot]⟩
  · cases m
    · exact ⟨0, -1, 1, 0, by decide, fun px py => by simp [applyP, mir, rot]⟩
    · exact ⟨0, -1, -1, 0, by decide, fun px py => by simp [applyP, mir, rot]⟩
  · cases m
    · exact ⟨-1, 0, 0, -1, by decide, fun px py => by simp [applyP, mir, rot]⟩
    · exact ⟨1, 0, 0, -1, by decide, fun px py => by simp [applyP, mir, rot]⟩
  · cases m
    · exact ⟨0, 1, -1, 0, by decide, fun px py => by simp [applyP, mir, rot]⟩
    · exact ⟨0, 1, 1, 0, by decide, fun px py => by simp [applyP, mir, rot]⟩

/-- An edge, and the same edge moved. -/
structure Mvd (a b c d x y : Int) (e e' : Ed) : Prop where
  iso : IsoOk a b c d
  ok : e.ok = true
  ok' : e'.ok = true
  k : e'.k = 1 ↔ e.k = 1
  ax : e'.ax = a * e.ax + b * e.ay + x
  ay : e'.ay = c * e.ax + d * e.ay + y
  bx : e'.bx = a * e.bx + b * e.by' + x
  by' : e'.by' = c * e.bx + d * e.by' + y
  cx : ¬ e.k = 1 → e'.cx = a * e.cx + b * e.cy + x
  cy : ¬ e.k = 1 → e'.cy = c * e.cx + d * e.cy + y

variable {a b c d x y : Int} {e e' f f' : Ed}
theorem Mvd.rad (h : Mvd a b c d x y e e') (hk : ¬ e.k = 1) : radZ e' = radZ e := by
  rw [rad_eq h.ok hk, rad_eq h.ok' (fun g => hk (h.k.1 g)), h.ax, h.ay, h.cx hk, h.cy hk, sub_iso, sub_iso]
  rcases h.iso with ⟨rfl, rfl, rfl | rfl, rfl | rfl⟩ | ⟨rfl, rfl, rfl | rfl, rfl | rfl⟩ <;> omega
theorem tdiv_iso {a b c d : Int} (h : IsoOk a b c d) (x y r : Int) : (a * x + b * y).tdiv r = a * x.tdiv r + b * y.tdiv r ∧ (c * x + d * y).tdiv r = c * x.tdiv r + d * y.tdiv r := by
  rcases h with ⟨rfl, rfl, rfl | rfl, rfl | rfl⟩ | ⟨rfl, rfl, rfl | rfl, rfl | rfl⟩ <;> simp [Int.neg_tdiv, Int.neg_mul]
theorem Mvd.axes (h : Mvd a b c d x y e e') (hk : ¬ e.k = 1) : e'.ux = a * e.ux + b * e.uy ∧ e'.uy = c * e.ux + d * e.uy ∧ e'.vx = a * e.vx + b * e.vy ∧ e'.vy = c * e.vx + d * e.vy := by
  unfold Ed.ux Ed.uy Ed.vx Ed.vy
  rw [h.rad hk, h.ax, h.ay, h.bx, h.by', h.cx hk, h.cy hk, sub_iso, sub_iso, sub_iso, sub_iso]
  exact ⟨(tdiv_iso h.iso ..).1, (tdiv_iso h.iso ..).2, (tdiv_iso h.iso ..).1, (tdiv_iso h.iso ..).2⟩
theorem btw_iso {a b c d : Int} (h : IsoOk a b c d) (x y px py ax ay bx by' : Int) : (Btw (a * ax + b * ay + x) (a * px + b * py + x) (a * bx + b * by' + x) ∧ Btw (c * ax + d * ay + y) (c * px + d * py + y) (c * bx + d * by' + y)) ↔ Btw ax px bx ∧ Btw ay py by' := by
  unfold Btw
  rcases h with ⟨rfl, rfl, rfl | rfl, rfl | rfl⟩ | ⟨rfl, rfl, rfl | rfl, rfl | rfl⟩ <;> omega
theorem Mvd.on (h : Mvd a b c d x y e e') (px py : Int) : onE e' (a * px + b * py + x) (c * px + d * py + y) = onE e px py := by
  unfold onE
  rw [h.ok, h.ok']
  have hb : inB (min e'.ax e'.bx) (min e'.ay e'.by') (max e'.ax e'.bx) (max e'.ay e'.by') (a * px + b * py + x) (c * px + d * py + y) = inB (min e.ax e.bx) (min e.ay e.by') (max e.ax e.bx) (max e.ay e.by') px py := by
    rw [Bool.eq_iff_iff, inB_iff, inB_iff, h.ax, h.ay, h.bx, h.by']
    exact btw_iso h.iso ..
  rw [hb]
  by_cases hk : e.k = 1
  · rw [if_pos hk, if_pos (h.k.2 hk)]
    have : (sideI ((e'.bx - e'.ax) * (c * px + d * py + y - e'.ay) - (e'.by' - e'.ay) * (a * px + b * py + x - e'.ax)) == 0) = (sideI ((e.bx - e.ax) * (py - e.ay) - (e.by' - e.ay) * (px - e.ax)) == 0) := by
      rw [Bool.eq_iff_iff, sideI_zero, sideI_zero, h.ax, h.ay, h.bx, h.by', sub_iso, sub_iso, sub_iso, sub_iso, crs_iso]
      rcases det_iso h.iso with g | g <;> rw [g] <;> omega
    rw [this]
  · rw [if_neg hk, if_neg (fun g => hk (h.k.1 g))]
    have : powerI (a * px + b * py + x - e'.cx) (c * px + d * py + y - e'.cy) (e'.ax - e'.cx) (e'.ay - e'.cy) = powerI (px - e.cx) (py - e.cy) (e.ax - e.cx) (e.ay - e.cy) := by
      unfold powerI
      rw [h.ax, h.ay, h.cx hk, h.cy hk, sub_iso, sub_iso, sub_iso, sub_iso, dot_iso h.iso, dot_iso h.iso]
    rw [this]
theorem eq_iso {a b c d : Int} (h : IsoOk a b c d) (x y z w : Int) : (a * x + b * y = a * z + b * w ∧ c * x + d * y = c * z + d * w) ↔ x = z ∧ y = w := by
  rcases h with ⟨rfl, rfl, rfl | rfl, rfl | rfl⟩ | ⟨rfl, rfl, rfl | rfl, rfl | rfl⟩ <;> omega
theorem beq_iso {a b c d : Int} (h : IsoOk a b c d) (x y z w : Int) : (a * x + b * y == a * z + b * w && c * x + d * y == c * z + d * w) = (x == z && y == w) := by
  rw [Bool.eq_iff_iff, Bool.and_eq_true, Bool.and_eq_true, beq_iff_eq, beq_iff_eq, beq_iff_eq, beq_iff_eq]
  exact eq_iso h ..
theorem Mvd.pt (h : Mvd a b c d x y e e') : e'.pt = e.pt := by
  unfold Ed.pt
  rw [h.ax, h.ay, h.bx, h.by', ← beq_iso h.iso e.ax e.ay e.bx e.by', Bool.eq_iff_iff]
  simp only [Bool.and_eq_true, beq_iff_eq]
  omega
theorem side_iso {g : Int} (hg : g = 1 ∨ g = -1) (m n : Int) : sideI (g * m) * sideI (g * n) = sideI m * sideI n := by
  rcases hg with rfl | rfl
  · rw [Int.one_mul, Int.one_mul]
  · rw [Int.neg_one_mul, Int.neg_one_mul, sideI_opp, sideI_opp, Int.neg_mul_neg]
theorem lines_iso {a b c d : Int} (h : IsoOk a b c d) (x y px py qx qy rx ry sx sy : Int) : linesZ (a * px + b * py + x) (c * px + d * py + y) (a * qx + b * qy + x) (c * qx + d * qy + y) (a * rx + b * ry + x) (c * rx + d * ry + y) (a * sx + b * sy + x) (c * sx + d * sy + y) = linesZ px py qx qy rx ry sx sy := by
  rw [linesZ_eq, linesZ_eq]
  unfold crI
  simp only [sub_iso, crs_iso, dot_iso h]
  have hg := det_iso h
  rw [side_iso hg, side_iso hg]
  have e1 (n : Int) : (a * d - b * c) * n ≠ 0 ↔ n ≠ 0 := by rcases hg with g | g <;> rw [g] <;> omega
  simp only [e1]
theorem countC_sgn {g : Int} (hg : g = 1 ∨ g = -1) (D : Int) (x1 y1 x2 y2 x3 y3 x4 y4 : Int) : countC D [(x1, g * y1), (x2, g * y2), (x3, g * y3), (x4, g * y4)] = countC D [(x1, y1), (x2, y2), (x3, y3), (x4, y4)] := by
  rcases hg with rfl | rfl
  · simp only [Int.one_mul]
  · rw [← countC_negs D [(x1, y1), (x2, y2), (x3, y3), (x4, y4)]]
    unfold negs
    simp only [Int.neg_one_mul, List.map_cons, List.map_nil]
theorem Mvd.cross (h : Mvd a b c d x y e e') (g : Mvd a b c d x y f f') (hk : ¬ f.k = 1) : crossZ e' f' = crossZ e f := by
  have : laE e' f' = laE e f := by
    obtain ⟨x1, x2, x3, x4⟩ := g.axes hk
    unfold laE
    rw [x1, x2, x3, x4, g.rad hk, h.ax, h.ay, h.bx, h.by', g.cx hk, g.cy hk]
    simp only [sub_iso, dot_iso h.iso]
  unfold crossZ
  rw [this]
theorem prp_iso {a b c d : Int} (x y z w : Int) : -(c * x + d * y) * (a * z + b * w) + (a * x + b * y) * (c * z + d * w) = (a * d - b * c) * (-y * z + x * w) := by grind
theorem Mvd.arcs (h : Mvd a b c d x y e e') (g : Mvd a b c d x y f f') (hk : ¬ e.k = 1) (gk : ¬ f.k = 1) : arcsZ e' f' = arcsZ e f := by
  obtain ⟨x1, x2, x3, x4⟩ := h.axes hk
  obtain ⟨y1, y2, y3, y4⟩ := g.axes gk
  have hc : (e'.cx = f'.cx ∧ e'.cy = f'.cy) ↔ e.cx = f.cx ∧ e.cy = f.cy := by
    rw [h.cx hk, h.cy hk, g.cx gk, g.cy gk, ← eq_iso h.iso e.cx e.cy f.cx f.cy]
    omega
  unfold arcsZ
  rw [x1, x2, x3, x4, y1, y2, y3, y4, h.rad hk, g.rad gk]
  simp only [hc, beq_iso h.iso]
  split
  · rfl
  · rw [countZ_eq, countZ_eq]
    have hl : aaE e' f' = { aaE e f with pu := (a * d - b * c) * (aaE e f).pu, pv := (a * d - b * c) * (aaE e f).pv, ps := (a * d - b * c) * (aaE e f).ps, pt := (a * d - b * c) * (aaE e f).pt } := by
      unfold aaE
      rw [x1, x2, x3, x4, y1, y2, y3, y4, h.rad hk, g.rad gk, h.cx hk, h.cy hk, g.cx gk, g.cy gk]
      simp only [sub_iso, dot_iso h.iso, prp_iso]
    rw [hl]
    exact countC_sgn (det_iso h.iso) ..
/-- A motion of both edges plays no part. -/
theorem Mvd.count (h : Mvd a b c d x y e e') (g : Mvd a b c d x y f f') : countE e' f' = countE e f := by
  have hl : linesZ e'.ax e'.ay e'.bx e'.by' f'.ax f'.ay f'.bx f'.by' = linesZ e.ax e.ay e.bx e.by' f.ax f.ay f.bx f.by' := by
    rw [h.ax, h.ay, h.bx, h.by', g.ax, g.ay, g.bx, g.by']
    exact lines_iso h.iso ..
  have o1 : onZ f' e'.ax e'.ay = onZ f e.ax e.ay := by unfold onZ; rw [h.ax, h.ay, g.on]
  have o2 : onZ e' f'.ax f'.ay = onZ e f.ax f.ay := by unfold onZ; rw [g.ax, g.ay, h.on]
  unfold countE
  rw [h.ok, h.ok', g.ok, g.ok', h.pt, g.pt, hl, o1, o2]
  by_cases k1 : e.k = 1
  · by_cases k2 : f.k = 1
    · simp only [if_pos k1, if_pos k2, if_pos (h.k.2 k1), if_pos (g.k.2 k2)]
    · simp only [if_pos k1, if_neg k2, if_pos (h.k.2 k1), if_neg (fun t => k2 (g.k.1 t)), h.cross g k2]
  · by_cases k2 : f.k = 1
    · simp only [if_neg k1, if_pos k2, if_neg (fun t => k1 (h.k.1 t)), if_pos (g.k.2 k2), g.cross h k1]
    · simp only [if_neg k1, if_neg k2, if_neg (fun t => k1 (h.k.1 t)), if_neg (fun t => k2 (g.k.1 t)), h.arcs g k1 k2]
/-- An edge that is moved. -/
theorem moved (x y t : Int) (m : Bool) (ht : 0 ≤ t ∧ t ≤ 3) : ∃ a b c d, ∀ e : Ed, e.ok = true → (moveE e x y t m).ok = true → Mvd a b c d x y e (moveE e x y t m) := by
  obtain ⟨a, b, c, d, hi, h⟩ := applyP_iso x y t m ht
  refine ⟨a, b, c, d, fun e h1 h2 => ⟨hi, h1, h2, ?_, ?_, ?_, ?_, ?_, ?_, ?_⟩⟩
  · show (if m then (fam e.k).k else e.k) = 1 ↔ _
    cases m
    · exact Iff.rfl
    · exact rev_k1 h1
  · show (applyP x y t m e.ax e.ay).1 = _; rw [h]
  · show (applyP x y t m e.ax e.ay).2 = _; rw [h]
  · show (applyP x y t m e.bx e.by').1 = _; rw [h]
  · show (applyP x y t m e.bx e.by').2 = _; rw [h]
  · intro hk
    show (if e.k = 1 then e.cx else (applyP x y t m e.cx e.cy).1) = _
    rw [if_neg hk, h]
  · intro hk
    show (if e.k = 1 then e.cy else (applyP x y t m e.cx e.cy).2) = _
    rw [if_neg hk, h]
/-- A valid edge that is moved is valid, if it is small enough. -/
theorem move_ok {e : Ed} (h : e.ok = true) (x y t : Int) (m : Bool) (ht : 0 ≤ t ∧ t ≤ 3) (hx : -1048576 ≤ x ∧ x ≤ 1048576) (hy : -1048576 ≤ y ∧ y ≤ 1048576)
    (s1 : -1048576 ≤ e.ax ∧ e.ax ≤ 1048576) (s2 : -1048576 ≤ e.ay ∧ e.ay ≤ 1048576) (s3 : -1048576 ≤ e.bx ∧ e.bx ≤ 1048576) (s4 : -1048576 ≤ e.by' ∧ e.by' ≤ 1048576) (s5 : -1048576 ≤ e.cx ∧ e.cx ≤ 1048576) (s6 : -1048576 ≤ e.cy ∧ e.cy ≤ 1048576) : (moveE e x y t m).ok = true := by
  have co : ∀ px py : Int, -1048576 ≤ px ∧ px ≤ 1048576 → -1048576 ≤ py ∧ py ≤ 1048576 → coordB (applyP x y t m px py).1 (applyP x y t m px py).2 = true := by
    intro px py h1 h2
    obtain ⟨a, b, c, d, hi, hp⟩ := applyP_iso x y t m ht
    rw [hp, coordB_iff]
    unfold Co
    rcases hi with ⟨rfl, rfl, rfl | rfl, rfl | rfl⟩ | ⟨rfl, rfl, rfl | rfl, rfl | rfl⟩ <;> omega
  have hr := h
  unfold Ed.ok at h ⊢
  simp only [Bool.and_eq_true] at h ⊢
  obtain ⟨h1, h2⟩ := h
  have hk : (moveE e x y t m).k = if m then (fam e.k).k else e.k := rfl
  have hrk := rev_k hr
  have hrk' : (revE e).k = (fam e.k).k := rfl
  refine ⟨?_, ?_⟩
  · unfold Ed.right moveE
    simp only [Bool.and_eq_true]
    refine ⟨⟨co _ _ s1 s2, co _ _ s3 s4⟩, ?_⟩
    by_cases k1 : e.k = 1
    · simp only [if_pos k1]
      rw [coordB_iff]
      unfold Co
      omega
    · simp only [if_neg k1]
      exact co _ _ s5 s6
  · by_cases k1 : e.k = 1
    · have : (moveE e x y t m).k = 1 := by rw [hk]; cases m <;> first | exact k1 | (rw [k1]; rfl)
      rw [if_pos this]
      rw [if_pos k1] at h2
      unfold Ed.lone moveE at *
      simpa [k1] using h2
    · have q (n : Nat) : (moveE e x y t m).quarter n = quarterB ((applyP x y t m e.ax e.ay).1 - (applyP x y t m e.cx e.cy).1) ((applyP x y t m e.ax e.ay).2 - (applyP x y t m e.cx e.cy).2) ((applyP x y t m e.bx e.by').1 - (applyP x y t m e.cx e.cy).1) ((applyP x y t m e.bx e.by').2 - (applyP x y t m e.cx e.cy).2) n := by
        unfold Ed.quarter moveE
        simp only [if_neg k1]
      have q2 (n : Nat) : quarterB ((applyP x y t m e.ax e.ay).1 - (applyP x y t m e.cx e.cy).1) ((applyP x y t m e.ax e.ay).2 - (applyP x y t m e.cx e.cy).2) ((applyP x y t m e.bx e.by').1 - (applyP x y t m e.cx e.cy).1) ((applyP x y t m e.bx e.by').2 - (applyP x y t m e.cx e.cy).2) n = quarterB (rot t.toNat (mir m (e.ax - e.cx, e.ay - e.cy))).1 (rot t.toNat (mir m (e.ax - e.cx, e.ay - e.cy))).2 (rot t.toNat (mir m (e.bx - e.cx, e.by' - e.cy))).1 (rot t.toNat (mir m (e.bx - e.cx, e.by' - e.cy))).2 n := by
        have r (px py : Int) : (applyP x y t m px py).1 - (applyP x y t m e.cx e.cy).1 = (rot t.toNat (mir m (px - e.cx, py - e.cy))).1 ∧ (applyP x y t m px py).2 - (applyP x y t m e.cx e.cy).2 = (rot t.toNat (mir m (px - e.cx, py - e.cy))).2 := by
          obtain rfl | rfl | rfl | rfl : t = 0 ∨ t = 1 ∨ t = 2 ∨ t = 3 := by omega
          all_goals cases m <;> simp [applyP, mir, rot] <;> omega
        rw [(r _ _).1, (r _ _).2, (r _ _).1, (r _ _).2]
      obtain ⟨D, hD⟩ : ∃ D, e.ax - e.cx = D := ⟨_, rfl⟩
      obtain ⟨F, hF⟩ : ∃ F, e.ay - e.cy = F := ⟨_, rfl⟩
      have key (n n' : Nat) (hq : e.quarter n = true) (hn : (n = 1 ∨ n = 3) ∧ n' = if m then 4 - n else n) : (moveE e x y t m).quarter n' = true := by
        rw [q, q2]
        unfold Ed.quarter at hq
        rw [hD, hF] at hq ⊢
        unfold quarterB at hq
        simp only [Bool.and_eq_true, beq_iff_eq] at hq
        obtain ⟨g1, g2, g3⟩ := hq
        rw [g2, g3]
        have bn (z : Int) : (-z == 0) = (z == 0) := by rw [Bool.eq_iff_iff, beq_iff_eq, beq_iff_eq, Int.neg_eq_zero]
        have g1' : ((F == 0) != (D == 0)) = true := by rw [bne_swap]; exact g1
        obtain rfl | rfl | rfl | rfl : t = 0 ∨ t = 1 ∨ t = 2 ∨ t = 3 := by omega
        all_goals
          obtain ⟨rfl | rfl, rfl⟩ := hn
          all_goals
            cases m
            all_goals
              simp [quarterB, rot, mir, bn]
              first | exact g1 | exact g1' | simpa using g1 | simpa using g1'
      rw [hk]
      rcases hrk with ⟨c1, c2⟩ | ⟨c1, c2⟩ | ⟨c1, c2⟩
      · exact absurd c1 k1
      · rw [hrk'] at c2
        rw [c1] at h2
        have := key 1 (if m then 3 else 1) h2 ⟨.inl rfl, by cases m <;> rfl⟩
        cases m
        · simp only [Bool.false_eq_true, if_false, c1]
          exact this
        · simp only [if_true, c2]
          exact this
      · rw [hrk'] at c2
        rw [c1] at h2
        have := key 3 (if m then 1 else 3) h2 ⟨.inr rfl, by cases m <;> rfl⟩
        cases m
        · simp only [Bool.false_eq_true, if_false, c1]
          exact this
        · simp only [if_true, c2]
          exact this
end Go.Proofs.Ytmmhiiiaccldmaa
