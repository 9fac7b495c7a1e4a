/- The walk of the law MeetRaw (printed by gen_raw.py). -/
import Derived.Test.YtmmhiiiaccldmaaGreatJ28
set_option linter.unusedVariables false
set_option linter.unusedSimpArgs false

namespace Go.Proofs.YtmmhiiiaccldmaaGreat
open Go.RowKit
attribute [local go_sem] Gives givesU

theorem cells7 {W : World} {g : Nat} {a0 a1 a2 a3 a4 a5 a6 : Value} {T : TypeId} (h : W.heap[g]? = some (.cells #[a0, a1, a2, a3, a4, a5, a6] T)) :
    W.cell? ⟨g, 0, none⟩ = some a0 ∧ W.cell? ⟨g, 1, none⟩ = some a1 ∧ W.cell? ⟨g, 2, none⟩ = some a2 ∧ W.cell? ⟨g, 3, none⟩ = some a3 ∧ W.cell? ⟨g, 4, none⟩ = some a4 ∧ W.cell? ⟨g, 5, none⟩ = some a5 ∧ W.cell? ⟨g, 6, none⟩ = some a6 ∧ g < W.heap.size := by
  refine ⟨?_, ?_, ?_, ?_, ?_, ?_, ?_, (Array.getElem?_eq_some_iff.1 h).1⟩
  all_goals (rw [cell_of_row _ _ _ _ _ _ h]; rfl)
theorem row_cell {W : World} {g o : Nat} {cs : Array Value} {T : TypeId} {v : Value} (h : W.heap[g]? = some (.cells cs T)) (hv : cs[o]? = some v) : W.cell? ⟨g, o, none⟩ = some v := by
  rw [cell_of_row _ _ _ _ _ _ h]
  exact hv
set_option maxRecDepth 100000 in
set_option maxHeartbeats 16000000 in
theorem Raw_core (k ax ay bx by' cx cy k' dx dy ex ey fx fy k'' ux uy vx vy zx zy n0 n1 n2 : Int) (b0 b1 b2 : Bool) (a0 : Option Addr) (l0 p0 : Nat) (w : World)
    (M1 : ∀ W, Ext w W → Calls Tryz.prog 6 #[.slice a0 l0 p0, .int .i64 1] W fun e w' => e = .returned (.agg #[.int .i64 k'', .int .i64 ux, .int .i64 uy, .int .i64 vx, .int .i64 vy, .int .i64 zx, .int .i64 zy]) ∧ Ext W w')
    (CN0 : ∀ W, Calls Tryz.prog 8 #[.agg #[.int .i64 k, .int .i64 ax, .int .i64 ay, .int .i64 bx, .int .i64 by', .int .i64 cx, .int .i64 cy], .agg #[.int .i64 k', .int .i64 dx, .int .i64 dy, .int .i64 ex, .int .i64 ey, .int .i64 fx, .int .i64 fy]] W fun e w' => e = .returned (.int .i64 n0) ∧ Ext W w')
    (RN0 : ∀ W, Calls Tryz.prog 9 #[.agg #[.int .i64 k, .int .i64 ax, .int .i64 ay, .int .i64 bx, .int .i64 by', .int .i64 cx, .int .i64 cy], .agg #[.int .i64 k', .int .i64 dx, .int .i64 dy, .int .i64 ex, .int .i64 ey, .int .i64 fx, .int .i64 fy]] W fun e w' => e = .returned (.int .i64 n0) ∧ Ext W w')
    (CE0 : ∀ W, Calls Tryz.prog 10 #[.agg #[.int .i64 k, .int .i64 ax, .int .i64 ay, .int .i64 bx, .int .i64 by', .int .i64 cx, .int .i64 cy], .agg #[.int .i64 k', .int .i64 dx, .int .i64 dy, .int .i64 ex, .int .i64 ey, .int .i64 fx, .int .i64 fy]] W fun e w' => e = .returned (.bool b0) ∧ Ext W w')
    (RE0 : ∀ W, Calls Tryz.prog 11 #[.agg #[.int .i64 k, .int .i64 ax, .int .i64 ay, .int .i64 bx, .int .i64 by', .int .i64 cx, .int .i64 cy], .agg #[.int .i64 k', .int .i64 dx, .int .i64 dy, .int .i64 ex, .int .i64 ey, .int .i64 fx, .int .i64 fy]] W fun e w' => e = .returned (.bool b0) ∧ Ext W w')
    (CN1 : ∀ W, Calls Tryz.prog 8 #[.agg #[.int .i64 k, .int .i64 ax, .int .i64 ay, .int .i64 bx, .int .i64 by', .int .i64 cx, .int .i64 cy], .agg #[.int .i64 k'', .int .i64 ux, .int .i64 uy, .int .i64 vx, .int .i64 vy, .int .i64 zx, .int .i64 zy]] W fun e w' => e = .returned (.int .i64 n1) ∧ Ext W w')
    (RN1 : ∀ W, Calls Tryz.prog 9 #[.agg #[.int .i64 k, .int .i64 ax, .int .i64 ay, .int .i64 bx, .int .i64 by', .int .i64 cx, .int .i64 cy], .agg #[.int .i64 k'', .int .i64 ux, .int .i64 uy, .int .i64 vx, .int .i64 vy, .int .i64 zx, .int .i64 zy]] W fun e w' => e = .returned (.int .i64 n1) ∧ Ext W w')
    (CE1 : ∀ W, Calls Tryz.prog 10 #[.agg #[.int .i64 k, .int .i64 ax, .int .i64 ay, .int .i64 bx, .int .i64 by', .int .i64 cx, .int .i64 cy], .agg #[.int .i64 k'', .int .i64 ux, .int .i64 uy, .int .i64 vx, .int .i64 vy, .int .i64 zx, .int .i64 zy]] W fun e w' => e = .returned (.bool b1) ∧ Ext W w')
    (RE1 : ∀ W, Calls Tryz.prog 11 #[.agg #[.int .i64 k, .int .i64 ax, .int .i64 ay, .int .i64 bx, .int .i64 by', .int .i64 cx, .int .i64 cy], .agg #[.int .i64 k'', .int .i64 ux, .int .i64 uy, .int .i64 vx, .int .i64 vy, .int .i64 zx, .int .i64 zy]] W fun e w' => e = .returned (.bool b1) ∧ Ext W w')
    (CN2 : ∀ W, Calls Tryz.prog 8 #[.agg #[.int .i64 k'', .int .i64 ux, .int .i64 uy, .int .i64 vx, .int .i64 vy, .int .i64 zx, .int .i64 zy], .agg #[.int .i64 k', .int .i64 dx, .int .i64 dy, .int .i64 ex, .int .i64 ey, .int .i64 fx, .int .i64 fy]] W fun e w' => e = .returned (.int .i64 n2) ∧ Ext W w')
    (RN2 : ∀ W, Calls Tryz.prog 9 #[.agg #[.int .i64 k'', .int .i64 ux, .int .i64 uy, .int .i64 vx, .int .i64 vy, .int .i64 zx, .int .i64 zy], .agg #[.int .i64 k', .int .i64 dx, .int .i64 dy, .int .i64 ex, .int .i64 ey, .int .i64 fx, .int .i64 fy]] W fun e w' => e = .returned (.int .i64 n2) ∧ Ext W w')
    (CE2 : ∀ W, Calls Tryz.prog 10 #[.agg #[.int .i64 k'', .int .i64 ux, .int .i64 uy, .int .i64 vx, .int .i64 vy, .int .i64 zx, .int .i64 zy], .agg #[.int .i64 k', .int .i64 dx, .int .i64 dy, .int .i64 ex, .int .i64 ey, .int .i64 fx, .int .i64 fy]] W fun e w' => e = .returned (.bool b2) ∧ Ext W w')
    (RE2 : ∀ W, Calls Tryz.prog 11 #[.agg #[.int .i64 k'', .int .i64 ux, .int .i64 uy, .int .i64 vx, .int .i64 vy, .int .i64 zx, .int .i64 zy], .agg #[.int .i64 k', .int .i64 dx, .int .i64 dy, .int .i64 ex, .int .i64 ey, .int .i64 fx, .int .i64 fy]] W fun e w' => e = .returned (.bool b2) ∧ Ext W w') :
    Calls Tryz.prog 4 #[.agg #[.int .i64 k, .int .i64 ax, .int .i64 ay, .int .i64 bx, .int .i64 by', .int .i64 cx, .int .i64 cy], .agg #[.int .i64 k', .int .i64 dx, .int .i64 dy, .int .i64 ex, .int .i64 ey, .int .i64 fx, .int .i64 fy], .slice a0 l0 p0] w fun e w' => e = .returned (.bool true) ∧ Ext w w' := by
  have SN := Lib.hid law_sanity
  replace M1 := Lib.hid M1
  replace CN0 := Lib.hid CN0
  replace RN0 := Lib.hid RN0
  replace CE0 := Lib.hid CE0
  replace RE0 := Lib.hid RE0
  have e0 : (n0 != n0) = false := by simp
  have f0 : (b0 != b0) = false := by simp
  replace CN1 := Lib.hid CN1
  replace RN1 := Lib.hid RN1
  replace CE1 := Lib.hid CE1
  replace RE1 := Lib.hid RE1
  have e1 : (n1 != n1) = false := by simp
  have f1 : (b1 != b1) = false := by simp
  replace CN2 := Lib.hid CN2
  replace RN2 := Lib.hid RN2
  replace CE2 := Lib.hid CE2
  replace RE2 := Lib.hid RE2
  have e2 : (n2 != n2) = false := by simp
  have f2 : (b2 != b2) = false := by simp
  go_enter Tryz.func4, Tryz.ntmps4
  go_wp2_with fail
  refine (SN.out _).mono ?_
  rintro e w1 ⟨rfl, hx⟩
  have ex' : Ext w w1 := Ext.step bxx hx
  have hz_w1 : w.heap.size + 2 ≤ w1.heap.size := Nat.le_trans omm hx.size
  obtain ⟨hl_w1_0, hk_w1_0, hf_w1_0⟩ := extK hx (w.heap.size)
  obtain ⟨hl_w1_1, hk_w1_1, hf_w1_1⟩ := extK hx (w.heap.size + 1)
  clear hx
  go_upto_region 2 with (fail)
  refine wp_KB (w1.heap.size) (fun W => Ext w1 W ∧ w1.heap.size ≤ W.heap.size ∧ W.cell? ⟨w.heap.size, 0, none⟩ = some (.int .i64 k) ∧ W.cell? ⟨w.heap.size, 1, none⟩ = some (.int .i64 ax) ∧ W.cell? ⟨w.heap.size, 2, none⟩ = some (.int .i64 ay) ∧ W.cell? ⟨w.heap.size, 3, none⟩ = some (.int .i64 bx) ∧ W.cell? ⟨w.heap.size, 4, none⟩ = some (.int .i64 by') ∧ W.cell? ⟨w.heap.size, 5, none⟩ = some (.int .i64 cx) ∧ W.cell? ⟨w.heap.size, 6, none⟩ = some (.int .i64 cy) ∧ W.cell? ⟨w.heap.size + 1, 0, none⟩ = some (.int .i64 k') ∧ W.cell? ⟨w.heap.size + 1, 1, none⟩ = some (.int .i64 dx) ∧ W.cell? ⟨w.heap.size + 1, 2, none⟩ = some (.int .i64 dy) ∧ W.cell? ⟨w.heap.size + 1, 3, none⟩ = some (.int .i64 ex) ∧ W.cell? ⟨w.heap.size + 1, 4, none⟩ = some (.int .i64 ey) ∧ W.cell? ⟨w.heap.size + 1, 5, none⟩ = some (.int .i64 fx) ∧ W.cell? ⟨w.heap.size + 1, 6, none⟩ = some (.int .i64 fy)) ?_
  intro hKeep
  repeat (first | refine F_s ?_ | refine F_r ?_)
  (refine F_call (v := .agg #[.int .i64 k'', .int .i64 ux, .int .i64 uy, .int .i64 vx, .int .i64 vy, .int .i64 zx, .int .i64 zy]) (by rfl) (by rfl) ?_ ?_; (· (intro W hW; (try dsimp only at hW); go_simp; refine (M1.out W (Ext.step ex' hW.1)).mono ?_; rintro e w' ⟨rfl, hx⟩; exact ⟨_, rfl, rfl, hx⟩))); refine F_put ?_
  repeat (first | refine F_s ?_ | refine F_r ?_)
  refine F_al ?_
  intro gc hgc
  simp only [List.mem_cons, List.mem_range, not_or, Nat.not_lt] at hgc
  refine F_w (fun W => _) (fun W hW => hW) ?_
  repeat (first | refine F_s ?_ | refine F_r ?_)
  rintro V1 ⟨⟨⟨hx, hz1, hc1⟩, bk⟩, _⟩
  obtain ⟨y0, y1, y2, y3, y4, y5, y6, hlc⟩ := cells7 bk
  replace ex' := Ext.step ex' hx
  have hl0 : w.heap.size + 1 < V1.heap.size := by omega
  have hl1 : w.heap.size < V1.heap.size := by omega
  clear hx bk hk_w1_0 hk_w1_1 hf_w1_0 hf_w1_1 hKeep hgc
  go_upto_region 3 with (fail)
  refine wp_FS (fun W => W.cell? ⟨w.heap.size, 0, none⟩ = some (.int .i64 k) ∧ W.cell? ⟨w.heap.size, 1, none⟩ = some (.int .i64 ax) ∧ W.cell? ⟨w.heap.size, 2, none⟩ = some (.int .i64 ay) ∧ W.cell? ⟨w.heap.size, 3, none⟩ = some (.int .i64 bx) ∧ W.cell? ⟨w.heap.size, 4, none⟩ = some (.int .i64 by') ∧ W.cell? ⟨w.heap.size, 5, none⟩ = some (.int .i64 cx) ∧ W.cell? ⟨w.heap.size, 6, none⟩ = some (.int .i64 cy) ∧ W.cell? ⟨w.heap.size + 1, 0, none⟩ = some (.int .i64 k') ∧ W.cell? ⟨w.heap.size + 1, 1, none⟩ = some (.int .i64 dx) ∧ W.cell? ⟨w.heap.size + 1, 2, none⟩ = some (.int .i64 dy) ∧ W.cell? ⟨w.heap.size + 1, 3, none⟩ = some (.int .i64 ex) ∧ W.cell? ⟨w.heap.size + 1, 4, none⟩ = some (.int .i64 ey) ∧ W.cell? ⟨w.heap.size + 1, 5, none⟩ = some (.int .i64 fx) ∧ W.cell? ⟨w.heap.size + 1, 6, none⟩ = some (.int .i64 fy) ∧ W.cell? ⟨gc, 0, none⟩ = some (.int .i64 k'') ∧ W.cell? ⟨gc, 1, none⟩ = some (.int .i64 ux) ∧ W.cell? ⟨gc, 2, none⟩ = some (.int .i64 uy) ∧ W.cell? ⟨gc, 3, none⟩ = some (.int .i64 vx) ∧ W.cell? ⟨gc, 4, none⟩ = some (.int .i64 vy) ∧ W.cell? ⟨gc, 5, none⟩ = some (.int .i64 zx) ∧ W.cell? ⟨gc, 6, none⟩ = some (.int .i64 zy)) ?_
  repeat (first | refine F_s ?_ | refine F_r ?_)
  refine F_blk (.cells #[.int .i64 k, .int .i64 ax, .int .i64 ay, .int .i64 bx, .int .i64 by', .int .i64 cx, .int .i64 cy, .int .i64 k', .int .i64 dx, .int .i64 dy, .int .i64 ex, .int .i64 ey, .int .i64 fx, .int .i64 fy, .int .i64 k, .int .i64 ax, .int .i64 ay, .int .i64 bx, .int .i64 by', .int .i64 cx, .int .i64 cy, .int .i64 k'', .int .i64 ux, .int .i64 uy, .int .i64 vx, .int .i64 vy, .int .i64 zx, .int .i64 zy, .int .i64 k'', .int .i64 ux, .int .i64 uy, .int .i64 vx, .int .i64 vy, .int .i64 zx, .int .i64 zy, .int .i64 k', .int .i64 dx, .int .i64 dy, .int .i64 ex, .int .i64 ey, .int .i64 fx, .int .i64 fy] 33) (fun g => .slice (some ⟨g, 0, none⟩) 3 3) (by rfl) (by rfl) (fun W _ => by kernel_rfl) ?_
  intro g hg
  refine F_put ?_
  repeat (first | refine F_s ?_ | refine F_r ?_)
  rintro V2 ⟨⟨hx, hc2⟩, hb⟩
  replace ex' := Ext.step ex' hx
  have HB := Lib.hid hb
  clear hc2 hb hx hc1 hg hl0 hl1 hlc y0 y1 y2 y3 y4 y5 y6
  go_wp2_with fail
  go_loopw [25] (fun iv wr => ∃ i : Int, iv = .int .i64 i ∧ (i = 0 ∨ i = 1 ∨ i = 2 ∨ i = 3) ∧ Ext V2 wr) (fun iv _ => (3 - intOf iv).toNat)
  case atStart => exact ⟨0, rfl, .inl rfl, Below.refl _ _⟩
  case round =>
    obtain ⟨i, rfl, hi, hv⟩ := hrel
    have hb := heap_ext HB.out hv
    have hgl := (Array.getElem?_eq_some_iff.1 hb).1
    replace ex' := Ext.step ex' hv
    rcases hi with rfl | rfl | rfl | rfl
    · have q0 : wr.cell? ⟨g, 0, none⟩ = some (.int .i64 k) := row_cell hb (by rfl)
      have q1 : wr.cell? ⟨g, 1, none⟩ = some (.int .i64 ax) := row_cell hb (by rfl)
      have q2 : wr.cell? ⟨g, 2, none⟩ = some (.int .i64 ay) := row_cell hb (by rfl)
      have q3 : wr.cell? ⟨g, 3, none⟩ = some (.int .i64 bx) := row_cell hb (by rfl)
      have q4 : wr.cell? ⟨g, 4, none⟩ = some (.int .i64 by') := row_cell hb (by rfl)
      have q5 : wr.cell? ⟨g, 5, none⟩ = some (.int .i64 cx) := row_cell hb (by rfl)
      have q6 : wr.cell? ⟨g, 6, none⟩ = some (.int .i64 cy) := row_cell hb (by rfl)
      have q7 : wr.cell? ⟨g, 7, none⟩ = some (.int .i64 k') := row_cell hb (by rfl)
      have q8 : wr.cell? ⟨g, 8, none⟩ = some (.int .i64 dx) := row_cell hb (by rfl)
      have q9 : wr.cell? ⟨g, 9, none⟩ = some (.int .i64 dy) := row_cell hb (by rfl)
      have q10 : wr.cell? ⟨g, 10, none⟩ = some (.int .i64 ex) := row_cell hb (by rfl)
      have q11 : wr.cell? ⟨g, 11, none⟩ = some (.int .i64 ey) := row_cell hb (by rfl)
      have q12 : wr.cell? ⟨g, 12, none⟩ = some (.int .i64 fx) := row_cell hb (by rfl)
      have q13 : wr.cell? ⟨g, 13, none⟩ = some (.int .i64 fy) := row_cell hb (by rfl)
      clear hb
      go_upto_region 5 with (fail)
      refine wp_KB (wr.heap.size) (fun W => Ext wr W ∧ wr.heap.size ≤ W.heap.size ∧ W.cell? ⟨g, 0, none⟩ = some (.int .i64 k) ∧ W.cell? ⟨g, 1, none⟩ = some (.int .i64 ax) ∧ W.cell? ⟨g, 2, none⟩ = some (.int .i64 ay) ∧ W.cell? ⟨g, 3, none⟩ = some (.int .i64 bx) ∧ W.cell? ⟨g, 4, none⟩ = some (.int .i64 by') ∧ W.cell? ⟨g, 5, none⟩ = some (.int .i64 cx) ∧ W.cell? ⟨g, 6, none⟩ = some (.int .i64 cy) ∧ W.cell? ⟨g, 7, none⟩ = some (.int .i64 k') ∧ W.cell? ⟨g, 8, none⟩ = some (.int .i64 dx) ∧ W.cell? ⟨g, 9, none⟩ = some (.int .i64 dy) ∧ W.cell? ⟨g, 10, none⟩ = some (.int .i64 ex) ∧ W.cell? ⟨g, 11, none⟩ = some (.int .i64 ey) ∧ W.cell? ⟨g, 12, none⟩ = some (.int .i64 fx) ∧ W.cell? ⟨g, 13, none⟩ = some (.int .i64 fy)) ?_
      intro hKeep
      repeat (first | refine F_s ?_ | refine F_r ?_)
      refine F_al ?_
      intro gx hgx
      simp only [List.mem_cons, List.mem_range, not_or, Nat.not_lt] at hgx
      refine F_w (fun W => _) (fun W hW => hW) ?_
      repeat (first | refine F_s ?_ | refine F_r ?_)
      rintro W5 ⟨⟨⟨hx, hz5, hc5⟩, bk⟩, _⟩
      replace hv := Ext.step hv hx
      have r0 : W5.cell? ⟨gx, 0, none⟩ = some (.int .i64 k) := row_cell bk (by rfl)
      have r1 : W5.cell? ⟨gx, 1, none⟩ = some (.int .i64 ax) := row_cell bk (by rfl)
      have r2 : W5.cell? ⟨gx, 2, none⟩ = some (.int .i64 ay) := row_cell bk (by rfl)
      have r3 : W5.cell? ⟨gx, 3, none⟩ = some (.int .i64 bx) := row_cell bk (by rfl)
      have r4 : W5.cell? ⟨gx, 4, none⟩ = some (.int .i64 by') := row_cell bk (by rfl)
      have r5 : W5.cell? ⟨gx, 5, none⟩ = some (.int .i64 cx) := row_cell bk (by rfl)
      have r6 : W5.cell? ⟨gx, 6, none⟩ = some (.int .i64 cy) := row_cell bk (by rfl)
      have r7 : W5.cell? ⟨gx, 7, none⟩ = some (.int .i64 k') := row_cell bk (by rfl)
      have r8 : W5.cell? ⟨gx, 8, none⟩ = some (.int .i64 dx) := row_cell bk (by rfl)
      have r9 : W5.cell? ⟨gx, 9, none⟩ = some (.int .i64 dy) := row_cell bk (by rfl)
      have r10 : W5.cell? ⟨gx, 10, none⟩ = some (.int .i64 ex) := row_cell bk (by rfl)
      have r11 : W5.cell? ⟨gx, 11, none⟩ = some (.int .i64 ey) := row_cell bk (by rfl)
      have r12 : W5.cell? ⟨gx, 12, none⟩ = some (.int .i64 fx) := row_cell bk (by rfl)
      have r13 : W5.cell? ⟨gx, 13, none⟩ = some (.int .i64 fy) := row_cell bk (by rfl)
      have hlx := (Array.getElem?_eq_some_iff.1 bk).1
      clear hx bk hc5 hKeep hgx hz5 q0 q1 q2 q3 q4 q5 q6 q7 q8 q9 q10 q11 q12 q13
      go_upto_region 6 with (fail)
      refine wp_FS (fun W => W.cell? ⟨gx, 0, none⟩ = some (.int .i64 k) ∧ W.cell? ⟨gx, 1, none⟩ = some (.int .i64 ax) ∧ W.cell? ⟨gx, 2, none⟩ = some (.int .i64 ay) ∧ W.cell? ⟨gx, 3, none⟩ = some (.int .i64 bx) ∧ W.cell? ⟨gx, 4, none⟩ = some (.int .i64 by') ∧ W.cell? ⟨gx, 5, none⟩ = some (.int .i64 cx) ∧ W.cell? ⟨gx, 6, none⟩ = some (.int .i64 cy) ∧ W.cell? ⟨gx, 7, none⟩ = some (.int .i64 k') ∧ W.cell? ⟨gx, 8, none⟩ = some (.int .i64 dx) ∧ W.cell? ⟨gx, 9, none⟩ = some (.int .i64 dy) ∧ W.cell? ⟨gx, 10, none⟩ = some (.int .i64 ex) ∧ W.cell? ⟨gx, 11, none⟩ = some (.int .i64 ey) ∧ W.cell? ⟨gx, 12, none⟩ = some (.int .i64 fx) ∧ W.cell? ⟨gx, 13, none⟩ = some (.int .i64 fy)) ?_
      repeat (first | refine F_s ?_ | refine F_r ?_)
      (refine F_call (v := .int .i64 n0) (by rfl) (by rfl) ?_ ?_; (· (intro W hW; (try dsimp only at hW); go_simp; refine (CN0.out _).mono ?_; rintro e w' ⟨rfl, hx⟩; exact ⟨_, rfl, rfl, hx⟩))); refine F_put ?_
      repeat (first | refine F_s ?_ | refine F_r ?_)
      (refine F_call (v := .int .i64 n0) (by rfl) (by rfl) ?_ ?_; (· (intro W hW; (try dsimp only at hW); go_simp; refine (RN0.out _).mono ?_; rintro e w' ⟨rfl, hx⟩; exact ⟨_, rfl, rfl, hx⟩))); refine F_put ?_
      repeat (first | refine F_s ?_ | refine F_r ?_)
      (refine F_call (v := .bool b0) (by rfl) (by rfl) ?_ ?_; (· (intro W hW; (try dsimp only at hW); go_simp; refine (CE0.out _).mono ?_; rintro e w' ⟨rfl, hx⟩; exact ⟨_, rfl, rfl, hx⟩))); refine F_put ?_
      repeat (first | refine F_s ?_ | refine F_r ?_)
      (refine F_call (v := .bool b0) (by rfl) (by rfl) ?_ ?_; (· (intro W hW; (try dsimp only at hW); go_simp; refine (RE0.out _).mono ?_; rintro e w' ⟨rfl, hx⟩; exact ⟨_, rfl, rfl, hx⟩))); refine F_put ?_
      repeat (first | refine F_s ?_ | refine F_r ?_)
      rintro W6 ⟨hx, _⟩
      replace hv := Ext.step hv hx
      clear hx r0 r1 r2 r3 r4 r5 r6 r7 r8 r9 r10 r11 r12 r13
      go_wp2
      exact ⟨⟨1, rfl, .inr (.inl rfl), hv⟩, by simp [intOf]⟩
    · have q0 : wr.cell? ⟨g, 14, none⟩ = some (.int .i64 k) := row_cell hb (by rfl)
      have q1 : wr.cell? ⟨g, 15, none⟩ = some (.int .i64 ax) := row_cell hb (by rfl)
      have q2 : wr.cell? ⟨g, 16, none⟩ = some (.int .i64 ay) := row_cell hb (by rfl)
      have q3 : wr.cell? ⟨g, 17, none⟩ = some (.int .i64 bx) := row_cell hb (by rfl)
      have q4 : wr.cell? ⟨g, 18, none⟩ = some (.int .i64 by') := row_cell hb (by rfl)
      have q5 : wr.cell? ⟨g, 19, none⟩ = some (.int .i64 cx) := row_cell hb (by rfl)
      have q6 : wr.cell? ⟨g, 20, none⟩ = some (.int .i64 cy) := row_cell hb (by rfl)
      have q7 : wr.cell? ⟨g, 21, none⟩ = some (.int .i64 k'') := row_cell hb (by rfl)
      have q8 : wr.cell? ⟨g, 22, none⟩ = some (.int .i64 ux) := row_cell hb (by rfl)
      have q9 : wr.cell? ⟨g, 23, none⟩ = some (.int .i64 uy) := row_cell hb (by rfl)
      have q10 : wr.cell? ⟨g, 24, none⟩ = some (.int .i64 vx) := row_cell hb (by rfl)
      have q11 : wr.cell? ⟨g, 25, none⟩ = some (.int .i64 vy) := row_cell hb (by rfl)
      have q12 : wr.cell? ⟨g, 26, none⟩ = some (.int .i64 zx) := row_cell hb (by rfl)
      have q13 : wr.cell? ⟨g, 27, none⟩ = some (.int .i64 zy) := row_cell hb (by rfl)
      clear hb
      go_upto_region 5 with (fail)
      refine wp_KB (wr.heap.size) (fun W => Ext wr W ∧ wr.heap.size ≤ W.heap.size ∧ W.cell? ⟨g, 14, none⟩ = some (.int .i64 k) ∧ W.cell? ⟨g, 15, none⟩ = some (.int .i64 ax) ∧ W.cell? ⟨g, 16, none⟩ = some (.int .i64 ay) ∧ W.cell? ⟨g, 17, none⟩ = some (.int .i64 bx) ∧ W.cell? ⟨g, 18, none⟩ = some (.int .i64 by') ∧ W.cell? ⟨g, 19, none⟩ = some (.int .i64 cx) ∧ W.cell? ⟨g, 20, none⟩ = some (.int .i64 cy) ∧ W.cell? ⟨g, 21, none⟩ = some (.int .i64 k'') ∧ W.cell? ⟨g, 22, none⟩ = some (.int .i64 ux) ∧ W.cell? ⟨g, 23, none⟩ = some (.int .i64 uy) ∧ W.cell? ⟨g, 24, none⟩ = some (.int .i64 vx) ∧ W.cell? ⟨g, 25, none⟩ = some (.int .i64 vy) ∧ W.cell? ⟨g, 26, none⟩ = some (.int .i64 zx) ∧ W.cell? ⟨g, 27, none⟩ = some (.int .i64 zy)) ?_
      intro hKeep
      repeat (first | refine F_s ?_ | refine F_r ?_)
      refine F_al ?_
      intro gx hgx
      simp only [List.mem_cons, List.mem_range, not_or, Nat.not_lt] at hgx
      refine F_w (fun W => _) (fun W hW => hW) ?_
      repeat (first | refine F_s ?_ | refine F_r ?_)
      rintro W5 ⟨⟨⟨hx, hz5, hc5⟩, bk⟩, _⟩
      replace hv := Ext.step hv hx
      have r0 : W5.cell? ⟨gx, 0, none⟩ = some (.int .i64 k) := row_cell bk (by rfl)
      have r1 : W5.cell? ⟨gx, 1, none⟩ = some (.int .i64 ax) := row_cell bk (by rfl)
      have r2 : W5.cell? ⟨gx, 2, none⟩ = some (.int .i64 ay) := row_cell bk (by rfl)
      have r3 : W5.cell? ⟨gx, 3, none⟩ = some (.int .i64 bx) := row_cell bk (by rfl)
      have r4 : W5.cell? ⟨gx, 4, none⟩ = some (.int .i64 by') := row_cell bk (by rfl)
      have r5 : W5.cell? ⟨gx, 5, none⟩ = some (.int .i64 cx) := row_cell bk (by rfl)
      have r6 : W5.cell? ⟨gx, 6, none⟩ = some (.int .i64 cy) := row_cell bk (by rfl)
      have r7 : W5.cell? ⟨gx, 7, none⟩ = some (.int .i64 k'') := row_cell bk (by rfl)
      have r8 : W5.cell? ⟨gx, 8, none⟩ = some (.int .i64 ux) := row_cell bk (by rfl)
      have r9 : W5.cell? ⟨gx, 9, none⟩ = some (.int .i64 uy) := row_cell bk (by rfl)
      have r10 : W5.cell? ⟨gx, 10, none⟩ = some (.int .i64 vx) := row_cell bk (by rfl)
      have r11 : W5.cell? ⟨gx, 11, none⟩ = some (.int .i64 vy) := row_cell bk (by rfl)
      have r12 : W5.cell? ⟨gx, 12, none⟩ = some (.int .i64 zx) := row_cell bk (by rfl)
      have r13 : W5.cell? ⟨gx, 13, none⟩ = some (.int .i64 zy) := row_cell bk (by rfl)
      have hlx := (Array.getElem?_eq_some_iff.1 bk).1
      clear hx bk hc5 hKeep hgx hz5 q0 q1 q2 q3 q4 q5 q6 q7 q8 q9 q10 q11 q12 q13
      go_upto_region 6 with (fail)
      refine wp_FS (fun W => W.cell? ⟨gx, 0, none⟩ = some (.int .i64 k) ∧ W.cell? ⟨gx, 1, none⟩ = some (.int .i64 ax) ∧ W.cell? ⟨gx, 2, none⟩ = some (.int .i64 ay) ∧ W.cell? ⟨gx, 3, none⟩ = some (.int .i64 bx) ∧ W.cell? ⟨gx, 4, none⟩ = some (.int .i64 by') ∧ W.cell? ⟨gx, 5, none⟩ = some (.int .i64 cx) ∧ W.cell? ⟨gx, 6, none⟩ = some (.int .i64 cy) ∧ W.cell? ⟨gx, 7, none⟩ = some (.int .i64 k'') ∧ W.cell? ⟨gx, 8, none⟩ = some (.int .i64 ux) ∧ W.cell? ⟨gx, 9, none⟩ = some (.int .i64 uy) ∧ W.cell? ⟨gx, 10, none⟩ = some (.int .i64 vx) ∧ W.cell? ⟨gx, 11, none⟩ = some (.int .i64 vy) ∧ W.cell? ⟨gx, 12, none⟩ = some (.int .i64 zx) ∧ W.cell? ⟨gx, 13, none⟩ = some (.int .i64 zy)) ?_
      repeat (first | refine F_s ?_ | refine F_r ?_)
      (refine F_call (v := .int .i64 n1) (by rfl) (by rfl) ?_ ?_; (· (intro W hW; (try dsimp only at hW); go_simp; refine (CN1.out _).mono ?_; rintro e w' ⟨rfl, hx⟩; exact ⟨_, rfl, rfl, hx⟩))); refine F_put ?_
      repeat (first | refine F_s ?_ | refine F_r ?_)
      (refine F_call (v := .int .i64 n1) (by rfl) (by rfl) ?_ ?_; (· (intro W hW; (try dsimp only at hW); go_simp; refine (RN1.out _).mono ?_; rintro e w' ⟨rfl, hx⟩; exact ⟨_, rfl, rfl, hx⟩))); refine F_put ?_
      repeat (first | refine F_s ?_ | refine F_r ?_)
      (refine F_call (v := .bool b1) (by rfl) (by rfl) ?_ ?_; (· (intro W hW; (try dsimp only at hW); go_simp; refine (CE1.out _).mono ?_; rintro e w' ⟨rfl, hx⟩; exact ⟨_, rfl, rfl, hx⟩))); refine F_put ?_
      repeat (first | refine F_s ?_ | refine F_r ?_)
      (refine F_call (v := .bool b1) (by rfl) (by rfl) ?_ ?_; (· (intro W hW; (try dsimp only at hW); go_simp; refine (RE1.out _).mono ?_; rintro e w' ⟨rfl, hx⟩; exact ⟨_, rfl, rfl, hx⟩))); refine F_put ?_
      repeat (first | refine F_s ?_ | refine F_r ?_)
      rintro W6 ⟨hx, _⟩
      replace hv := Ext.step hv hx
      clear hx r0 r1 r2 r3 r4 r5 r6 r7 r8 r9 r10 r11 r12 r13
      go_wp2
      exact ⟨⟨2, rfl, .inr (.inr (.inl rfl)), hv⟩, by simp [intOf]⟩
    · have q0 : wr.cell? ⟨g, 28, none⟩ = some (.int .i64 k'') := row_cell hb (by rfl)
      have q1 : wr.cell? ⟨g, 29, none⟩ = some (.int .i64 ux) := row_cell hb (by rfl)
      have q2 : wr.cell? ⟨g, 30, none⟩ = some (.int .i64 uy) := row_cell hb (by rfl)
      have q3 : wr.cell? ⟨g, 31, none⟩ = some (.int .i64 vx) := row_cell hb (by rfl)
      have q4 : wr.cell? ⟨g, 32, none⟩ = some (.int .i64 vy) := row_cell hb (by rfl)
      have q5 : wr.cell? ⟨g, 33, none⟩ = some (.int .i64 zx) := row_cell hb (by rfl)
      have q6 : wr.cell? ⟨g, 34, none⟩ = some (.int .i64 zy) := row_cell hb (by rfl)
      have q7 : wr.cell? ⟨g, 35, none⟩ = some (.int .i64 k') := row_cell hb (by rfl)
      have q8 : wr.cell? ⟨g, 36, none⟩ = some (.int .i64 dx) := row_cell hb (by rfl)
      have q9 : wr.cell? ⟨g, 37, none⟩ = some (.int .i64 dy) := row_cell hb (by rfl)
      have q10 : wr.cell? ⟨g, 38, none⟩ = some (.int .i64 ex) := row_cell hb (by rfl)
      have q11 : wr.cell? ⟨g, 39, none⟩ = some (.int .i64 ey) := row_cell hb (by rfl)
      have q12 : wr.cell? ⟨g, 40, none⟩ = some (.int .i64 fx) := row_cell hb (by rfl)
      have q13 : wr.cell? ⟨g, 41, none⟩ = some (.int .i64 fy) := row_cell hb (by rfl)
      clear hb
      go_upto_region 5 with (fail)
      refine wp_KB (wr.heap.size) (fun W => Ext wr W ∧ wr.heap.size ≤ W.heap.size ∧ W.cell? ⟨g, 28, none⟩ = some (.int .i64 k'') ∧ W.cell? ⟨g, 29, none⟩ = some (.int .i64 ux) ∧ W.cell? ⟨g, 30, none⟩ = some (.int .i64 uy) ∧ W.cell? ⟨g, 31, none⟩ = some (.int .i64 vx) ∧ W.cell? ⟨g, 32, none⟩ = some (.int .i64 vy) ∧ W.cell? ⟨g, 33, none⟩ = some (.int .i64 zx) ∧ W.cell? ⟨g, 34, none⟩ = some (.int .i64 zy) ∧ W.cell? ⟨g, 35, none⟩ = some (.int .i64 k') ∧ W.cell? ⟨g, 36, none⟩ = some (.int .i64 dx) ∧ W.cell? ⟨g, 37, none⟩ = some (.int .i64 dy) ∧ W.cell? ⟨g, 38, none⟩ = some (.int .i64 ex) ∧ W.cell? ⟨g, 39, none⟩ = some (.int .i64 ey) ∧ W.cell? ⟨g, 40, none⟩ = some (.int .i64 fx) ∧ W.cell? ⟨g, 41, none⟩ = some (.int .i64 fy)) ?_
      intro hKeep
      repeat (first | refine F_s ?_ | refine F_r ?_)
      refine F_al ?_
      intro gx hgx
      simp only [List.mem_cons, List.mem_range, not_or, Nat.not_lt] at hgx
      refine F_w (fun W => _) (fun W hW => hW) ?_
      repeat (first | refine F_s ?_ | refine F_r ?_)
      rintro W5 ⟨⟨⟨hx, hz5, hc5⟩, bk⟩, _⟩
      replace hv := Ext.step hv hx
      have r0 : W5.cell? ⟨gx, 0, none⟩ = some (.int .i64 k'') := row_cell bk (by rfl)
      have r1 : W5.cell? ⟨gx, 1, none⟩ = some (.int .i64 ux) := row_cell bk (by rfl)
      have r2 : W5.cell? ⟨gx, 2, none⟩ = some (.int .i64 uy) := row_cell bk (by rfl)
      have r3 : W5.cell? ⟨gx, 3, none⟩ = some (.int .i64 vx) := row_cell bk (by rfl)
      have r4 : W5.cell? ⟨gx, 4, none⟩ = some (.int .i64 vy) := row_cell bk (by rfl)
      have r5 : W5.cell? ⟨gx, 5, none⟩ = some (.int .i64 zx) := row_cell bk (by rfl)
      have r6 : W5.cell? ⟨gx, 6, none⟩ = some (.int .i64 zy) := row_cell bk (by rfl)
      have r7 : W5.cell? ⟨gx, 7, none⟩ = some (.int .i64 k') := row_cell bk (by rfl)
      have r8 : W5.cell? ⟨gx, 8, none⟩ = some (.int .i64 dx) := row_cell bk (by rfl)
      have r9 : W5.cell? ⟨gx, 9, none⟩ = some (.int .i64 dy) := row_cell bk (by rfl)
      have r10 : W5.cell? ⟨gx, 10, none⟩ = some (.int .i64 ex) := row_cell bk (by rfl)
      have r11 : W5.cell? ⟨gx, 11, none⟩ = some (.int .i64 ey) := row_cell bk (by rfl)
      have r12 : W5.cell? ⟨gx, 12, none⟩ = some (.int .i64 fx) := row_cell bk (by rfl)
      have r13 : W5.cell? ⟨gx, 13, none⟩ = some (.int .i64 fy) := row_cell bk (by rfl)
      have hlx := (Array.getElem?_eq_some_iff.1 bk).1
      clear hx bk hc5 hKeep hgx hz5 q0 q1 q2 q3 q4 q5 q6 q7 q8 q9 q10 q11 q12 q13
      go_upto_region 6 with (fail)
      refine wp_FS (fun W => W.cell? ⟨gx, 0, none⟩ = some (.int .i64 k'') ∧ W.cell? ⟨gx, 1, none⟩ = some (.int .i64 ux) ∧ W.cell? ⟨gx, 2, none⟩ = some (.int .i64 uy) ∧ W.cell? ⟨gx, 3, none⟩ = some (.int .i64 vx) ∧ W.cell? ⟨gx, 4, none⟩ = some (.int .i64 vy) ∧ W.cell? ⟨gx, 5, none⟩ = some (.int .i64 zx) ∧ W.cell? ⟨gx, 6, none⟩ = some (.int .i64 zy) ∧ W.cell? ⟨gx, 7, none⟩ = some (.int .i64 k') ∧ W.cell? ⟨gx, 8, none⟩ = some (.int .i64 dx) ∧ W.cell? ⟨gx, 9, none⟩ = some (.int .i64 dy) ∧ W.cell? ⟨gx, 10, none⟩ = some (.int .i64 ex) ∧ W.cell? ⟨gx, 11, none⟩ = some (.int .i64 ey) ∧ W.cell? ⟨gx, 12, none⟩ = some (.int .i64 fx) ∧ W.cell? ⟨gx, 13, none⟩ = some (.int .i64 fy)) ?_
      repeat (first | refine F_s ?_ | refine F_r ?_)
      (refine F_call (v := .int .i64 n2) (by rfl) (by rfl) ?_ ?_; (· (intro W hW; (try dsimp only at hW); go_simp; refine (CN2.out _).mono ?_; rintro e w' ⟨rfl, hx⟩; exact ⟨_, rfl, rfl, hx⟩))); refine F_put ?_
      repeat (first | refine F_s ?_ | refine F_r ?_)
      (refine F_call (v := .int .i64 n2) (by rfl) (by rfl) ?_ ?_; (· (intro W hW; (try dsimp only at hW); go_simp; refine (RN2.out _).mono ?_; rintro e w' ⟨rfl, hx⟩; exact ⟨_, rfl, rfl, hx⟩))); refine F_put ?_
      repeat (first | refine F_s ?_ | refine F_r ?_)
      (refine F_call (v := .bool b2) (by rfl) (by rfl) ?_ ?_; (· (intro W hW; (try dsimp only at hW); go_simp; refine (CE2.out _).mono ?_; rintro e w' ⟨rfl, hx⟩; exact ⟨_, rfl, rfl, hx⟩))); refine F_put ?_
      repeat (first | refine F_s ?_ | refine F_r ?_)
      (refine F_call (v := .bool b2) (by rfl) (by rfl) ?_ ?_; (· (intro W hW; (try dsimp only at hW); go_simp; refine (RE2.out _).mono ?_; rintro e w' ⟨rfl, hx⟩; exact ⟨_, rfl, rfl, hx⟩))); refine F_put ?_
      repeat (first | refine F_s ?_ | refine F_r ?_)
      rintro W6 ⟨hx, _⟩
      replace hv := Ext.step hv hx
      clear hx r0 r1 r2 r3 r4 r5 r6 r7 r8 r9 r10 r11 r12 r13
      go_wp2
      exact ⟨⟨3, rfl, .inr (.inr (.inr rfl)), hv⟩, by simp [intOf]⟩
    · clear hb hgl hv
      go_wp2
      go_ret
      exact ⟨rfl, ex'⟩
end Go.Proofs.YtmmhiiiaccldmaaGreat
