/- MeetEnds, its plain part: an edge that is moved to begin at an end of another; an edge and a point. | The law MeetEnds: its walk. -/
import Derived.Test.YtmmhiiiaccldmaaJ33
import Derived.Test.YtmmhiiiaccldmaaJ34
import Derived.Test.YtmmhiiiaccldmaaJ29
import Derived.Test.YtmmhiiiaccldmaaJ26
import Derived.Test.YtmmhiiiaccldmaaJ30
import Derived.Test.YtmmhiiiaccldmaaJ09
import Derived.Test.YtmmhiiiaccldmaaJ31
import Derived.Deep.DeepCutAuto
set_option linter.unusedVariables false
set_option linter.unusedSimpArgs false

namespace Go.Proofs.Ytmmhiiiaccldmaa
open Go.RowKit

/-- Small coordinates. -/
def Sm (x : Int) : Prop := -50 ≤ x ∧ x ≤ 50
theorem madeE_small (L : List Int) : Sm (madeE L 1).ax ∧ Sm (madeE L 1).ay ∧ Sm (madeE L 1).bx ∧ Sm (madeE L 1).by' ∧ Sm (madeE L 1).cx ∧ Sm (madeE L 1).cy := by
  obtain ⟨x, y, z, v, e, h1, h2, h3, h4, h5, h6, h7, h8⟩ | ⟨x, y, r, ux, uy, vx, vy, k, e, h1, h2, h3, h4, h5, h6, hu, hk⟩ := madeE_form L 1 (by omega)
  · rw [e]
    unfold Sm
    simp only
    omega
  · rw [e]
    unfold Sm
    simp only [Int.one_mul]
    rcases hu with ⟨rfl, rfl⟩ | ⟨rfl, rfl⟩ | ⟨rfl, rfl⟩ | ⟨rfl, rfl⟩ <;> rcases hk with ⟨_, rfl, rfl⟩ | ⟨_, rfl, rfl⟩ <;> simp <;> omega
theorem applyP_shift (x y px py : Int) : applyP x y 0 false px py = (px + x, py + y) := by simp [applyP, mir, rot]
/-- An edge that is moved without a turn. -/
theorem shift_ok {e : Ed} (h : e.ok = true) (h1 : Sm e.ax) (h2 : Sm e.ay) (h3 : Sm e.bx) (h4 : Sm e.by') (h5 : Sm e.cx) (h6 : Sm e.cy) {x y : Int} (hx : -100 ≤ x ∧ x ≤ 100) (hy : -100 ≤ y ∧ y ≤ 100) : (moveE e x y 0 false).ok = true := by
  unfold Sm at *
  have ca : ∀ a b c : Int, a + c - (b + c) = a - b := fun a b c => by omega
  have hr : (moveE e x y 0 false).right = true := by
    unfold Ed.right moveE
    simp only [applyP_shift, Bool.and_eq_true]
    refine ⟨⟨coordB_iff.2 ⟨by unfold Co; omega, by unfold Co; omega⟩, coordB_iff.2 ⟨by unfold Co; omega, by unfold Co; omega⟩⟩, coordB_iff.2 ⟨?_, ?_⟩⟩
    · unfold Co; split <;> omega
    · unfold Co; split <;> omega
  have hk : (moveE e x y 0 false).k = e.k := rfl
  unfold Ed.ok at h ⊢
  rw [hr, hk]
  simp only [Bool.and_eq_true, Bool.true_and] at h ⊢
  have h2' := h.2
  by_cases k1 : e.k = 1
  · rw [if_pos k1] at h2' ⊢
    unfold Ed.lone moveE at *
    simpa [k1] using h2'
  · rw [if_neg k1] at h2' ⊢
    have q (t : Nat) : (moveE e x y 0 false).quarter t = e.quarter t := by
      unfold Ed.quarter moveE
      simp only [applyP_shift, if_neg k1, ca]
    rw [q, q]
    exact h2'
/-- An edge meets one that begins at its end. -/
theorem ends_meet (L M : List Int) : (moveE (madeE M 1) ((madeE L 1).bx - (madeE M 1).ax) ((madeE L 1).by' - (madeE M 1).ay) 0 false).ok = true ∧ countE (madeE L 1) (moveE (madeE M 1) ((madeE L 1).bx - (madeE M 1).ax) ((madeE L 1).by' - (madeE M 1).ay) 0 false) ≠ 0 := by
  obtain ⟨a1, a2, a3, a4, a5, a6⟩ := madeE_small L
  obtain ⟨b1, b2, b3, b4, b5, b6⟩ := madeE_small M
  have oa := madeE_ok L 1 (by omega)
  have ob := madeE_ok M 1 (by omega)
  have om : (moveE (madeE M 1) ((madeE L 1).bx - (madeE M 1).ax) ((madeE L 1).by' - (madeE M 1).ay) 0 false).ok = true :=
    shift_ok ob b1 b2 b3 b4 b5 b6 (by unfold Sm at *; omega) (by unfold Sm at *; omega)
  refine ⟨om, ?_⟩
  have e1 := end_b oa
  have e2 := end_a om
  have f1 : (moveE (madeE M 1) ((madeE L 1).bx - (madeE M 1).ax) ((madeE L 1).by' - (madeE M 1).ay) 0 false).ax = (madeE L 1).bx := by unfold moveE; simp only [applyP_shift]; omega
  have f2 : (moveE (madeE M 1) ((madeE L 1).bx - (madeE M 1).ax) ((madeE L 1).by' - (madeE M 1).ay) 0 false).ay = (madeE L 1).by' := by unfold moveE; simp only [applyP_shift]; omega
  rw [f1, f2] at e2
  exact common_point e1 e2
/-- An edge and a point. -/
theorem count_point {e : Ed} (h : e.ok = true) {x y : Int} (hx : Co x) (hy : Co y) : countE e ⟨1, x, y, x, y, 0, 0⟩ = onZ e x y := by
  have op : (Ed.mk 1 x y x y 0 0).ok = true := line_ok hx hy hx hy
  have pp : (Ed.mk 1 x y x y 0 0).pt = true := by simp [Ed.pt]
  unfold countE
  rw [h, op, pp]
  simp only [Bool.and_self, Bool.not_true, Bool.false_eq_true, if_false, if_true]
  by_cases k1 : e.k = 1
  · rw [if_pos k1]
    cases p1 : e.pt with
    | true =>
      rw [if_pos rfl]
      have hq : e.ax = e.bx ∧ e.ay = e.by' := by simpa [Ed.pt] using p1
      unfold onZ
      have : onE (Ed.mk 1 x y x y 0 0) e.ax e.ay = onE e x y := by
        rw [Bool.eq_iff_iff]
        constructor
        · intro g
          obtain ⟨g1, g2⟩ := pt_on rfl pp g
          simp only at g1 g2
          rw [← g1, ← g2]
          exact onE_self h k1
        · intro g
          obtain ⟨g1, g2⟩ := pt_on k1 p1 g
          rw [← g1, ← g2]
          exact onE_self op rfl
      rw [this]
    | false => simp
  · rw [if_neg k1]
end Go.Proofs.Ytmmhiiiaccldmaa

namespace Go.Proofs.Ytmmhiiiaccldmaa
open Go.RowKit
attribute [local go_sem] Gives givesU

set_option maxRecDepth 100000 in
set_option maxHeartbeats 16000000 in
theorem Ends_core (k ax ay bx by' cx cy k' dx dy ex ey fx fy k2 m1 m2 m3 m4 m5 m6 p0 p1 x y sx sy : Int) (on : Bool) (a0 a1 : Option Addr) (n0 c0 n1 c1 : Nat) (w : World)
    (M1 : ∀ W, Ext w W → Calls Try.prog 9 #[.slice a0 n0 c0, .int .i64 1] W fun e w' => e = .returned (.agg #[.int .i64 k, .int .i64 ax, .int .i64 ay, .int .i64 bx, .int .i64 by', .int .i64 cx, .int .i64 cy]) ∧ Ext W w')
    (M2 : ∀ W, Ext w W → Calls Try.prog 9 #[.slice a1 n1 c1, .int .i64 1] W fun e w' => e = .returned (.agg #[.int .i64 k', .int .i64 dx, .int .i64 dy, .int .i64 ex, .int .i64 ey, .int .i64 fx, .int .i64 fy]) ∧ Ext W w')
    (SB : ∀ W, Calls Try.prog 17 #[.agg #[.int .i64 bx, .int .i64 by'], .agg #[.int .i64 dx, .int .i64 dy]] W fun e w' => e = .returned (.agg #[.int .i64 sx, .int .i64 sy]) ∧ Ext W w')
    (MV : ∀ W, Calls Try.prog 16 #[.agg #[.int .i64 k', .int .i64 dx, .int .i64 dy, .int .i64 ex, .int .i64 ey, .int .i64 fx, .int .i64 fy], .agg #[.int .i64 sx, .int .i64 sy, .int .i64 0, .bool false]] W fun e w' => e = .returned (.agg #[.int .i64 k2, .int .i64 m1, .int .i64 m2, .int .i64 m3, .int .i64 m4, .int .i64 m5, .int .i64 m6]) ∧ Ext W w')
    (MX : ∀ W, Calls Try.prog 14 #[.int .i64 p0, .int .i64 25] W fun e w' => e = .returned (.int .i64 x) ∧ Ext W w')
    (MY : ∀ W, Calls Try.prog 14 #[.int .i64 p1, .int .i64 25] W fun e w' => e = .returned (.int .i64 y) ∧ Ext W w')
    (ON : ∀ W, Calls Try.prog 18 #[.agg #[.int .i64 k, .int .i64 ax, .int .i64 ay, .int .i64 bx, .int .i64 by', .int .i64 cx, .int .i64 cy], .agg #[.int .i64 x, .int .i64 y]] W fun e w' => e = .returned (.bool on) ∧ Ext W w')
    (E1 : ∀ W, Calls Try.prog 19 #[.agg #[.int .i64 k, .int .i64 ax, .int .i64 ay, .int .i64 bx, .int .i64 by', .int .i64 cx, .int .i64 cy], .agg #[.int .i64 k2, .int .i64 m1, .int .i64 m2, .int .i64 m3, .int .i64 m4, .int .i64 m5, .int .i64 m6]] W fun e w' => e = .returned (.bool true) ∧ Ext W w')
    (C1 : ∀ W, Calls Try.prog 10 #[.agg #[.int .i64 k, .int .i64 ax, .int .i64 ay, .int .i64 bx, .int .i64 by', .int .i64 cx, .int .i64 cy], .agg #[.int .i64 1, .int .i64 x, .int .i64 y, .int .i64 x, .int .i64 y, .int .i64 0, .int .i64 0]] W fun e w' => e = .returned (.int .i64 (if on then 1 else 0)) ∧ Ext W w')
    (C2 : ∀ W, Calls Try.prog 10 #[.agg #[.int .i64 1, .int .i64 x, .int .i64 y, .int .i64 x, .int .i64 y, .int .i64 0, .int .i64 0], .agg #[.int .i64 1, .int .i64 x, .int .i64 y, .int .i64 x, .int .i64 y, .int .i64 0, .int .i64 0]] W fun e w' => e = .returned (.int .i64 1) ∧ Ext W w')
    (E2 : ∀ W, Calls Try.prog 19 #[.agg #[.int .i64 k, .int .i64 ax, .int .i64 ay, .int .i64 bx, .int .i64 by', .int .i64 cx, .int .i64 cy], .agg #[.int .i64 1, .int .i64 ax, .int .i64 ay, .int .i64 ax, .int .i64 ay, .int .i64 0, .int .i64 0]] W fun e w' => e = .returned (.bool true) ∧ Ext W w') :
    Calls Try.prog 5 #[.slice a0 n0 c0, .slice a1 n1 c1, .agg #[.int .i64 p0, .int .i64 p1]] w fun e w' => e = .returned (.bool true) ∧ Ext w w' := by
  have SN := Lib.hid law_sanity
  replace M1 := Lib.hid M1
  replace M2 := Lib.hid M2
  replace SB := Lib.hid SB
  replace MV := Lib.hid MV
  replace MX := Lib.hid MX
  replace MY := Lib.hid MY
  replace ON := Lib.hid ON
  replace E1 := Lib.hid E1
  replace C1 := Lib.hid C1
  replace C2 := Lib.hid C2
  replace E2 := Lib.hid E2
  go_enter Try.func5, Try.ntmps5
  go_wp2_with fail
  refine (SN.out _).mono ?_
  rintro e w1 ⟨rfl, hx⟩
  have hx1 : Ext w w1 := Ext.step (by (repeat (first | exact Below.refl _ _ | assumption | refine Below.drewN ?_ _ | refine Below.drew ?_ | refine Below.setCell ?_ (by first | exact Nat.le_refl _ | (simp; done) | (simp; omega) | omega) _ | refine Below.alloc ?_ (by first | exact Nat.le_refl _ | (simp; done) | (simp; omega) | omega) _))) hx
  have hs1 := hx1.size
  have hz_w1 : w.heap.size + 1 ≤ w1.heap.size := Nat.le_trans (by first | omega | (simp; done) | (simp; omega)) hx.size
  have hl_w1_0 : w.heap.size < w1.heap.size := Nat.lt_of_lt_of_le (by omega) hz_w1
  have hk_w1_0 : ∀ o, w1.cell? ⟨w.heap.size, o, none⟩ = _ := fun o => hx.cell (p := ⟨w.heap.size, o, none⟩) (show w.heap.size < _ from (by first | omega | (simp; done) | (simp; omega)))
  have hf_w1_0 : ∀ o, w1.frozen? ⟨w.heap.size, o, none⟩ = _ := fun o => hx.frozen (p := ⟨w.heap.size, o, none⟩) (show w.heap.size < _ from (by first | omega | (simp; done) | (simp; omega)))
  clear hx
  have u0 : w1.cell? ⟨w.heap.size, 0, none⟩ = some (.int .i64 p0) := by go_simp
  have u1 : w1.cell? ⟨w.heap.size, 1, none⟩ = some (.int .i64 p1) := by go_simp
  have uf : ∀ o, w1.frozen? ⟨w.heap.size, o, none⟩ = false := by intro o; go_simp
  clear hk_w1_0 hf_w1_0
  go_wp2_with fail
  refine (M1.out _ hx1).mono ?_
  rintro e w2 ⟨rfl, hx⟩
  have hx2 : Ext w w2 := Ext.step hx1 hx
  replace u0 := (hx.cell (p := ⟨w.heap.size, 0, none⟩) hl_w1_0).trans u0
  replace u1 := (hx.cell (p := ⟨w.heap.size, 1, none⟩) hl_w1_0).trans u1
  replace uf : ∀ o, w2.frozen? ⟨w.heap.size, o, none⟩ = false := fun o => (hx.frozen (p := ⟨w.heap.size, o, none⟩) hl_w1_0).trans (uf o)
  have l2 : w.heap.size < w2.heap.size := Nat.lt_of_lt_of_le hl_w1_0 hx.size
  clear hx hx1
  go_wp2_with fail
  refine (M2.out _ hx2).mono ?_
  rintro e w3 ⟨rfl, hx⟩
  have hx3 : Ext w w3 := Ext.step hx2 hx
  replace u0 := (hx.cell (p := ⟨w.heap.size, 0, none⟩) l2).trans u0
  replace u1 := (hx.cell (p := ⟨w.heap.size, 1, none⟩) l2).trans u1
  replace uf : ∀ o, w3.frozen? ⟨w.heap.size, o, none⟩ = false := fun o => (hx.frozen (p := ⟨w.heap.size, o, none⟩) l2).trans (uf o)
  have l3 : w.heap.size < w3.heap.size := Nat.lt_of_lt_of_le l2 hx.size
  have hs3 := hx3.size
  clear hx hx2
  go_upto_region 3 with (fail)
  refine wp_world (fun W => Ext w W ∧ (W.cell? ⟨w.heap.size, 0, none⟩ = some (.int .i64 p0) ∧ W.cell? ⟨w.heap.size, 1, none⟩ = some (.int .i64 p1) ∧ W.cell? ⟨w3.heap.size, 0, none⟩ = some (.int .i64 k) ∧ W.cell? ⟨w3.heap.size, 1, none⟩ = some (.int .i64 ax) ∧ W.cell? ⟨w3.heap.size, 2, none⟩ = some (.int .i64 ay) ∧ W.cell? ⟨w3.heap.size, 3, none⟩ = some (.int .i64 bx) ∧ W.cell? ⟨w3.heap.size, 4, none⟩ = some (.int .i64 by') ∧ W.cell? ⟨w3.heap.size, 5, none⟩ = some (.int .i64 cx) ∧ W.cell? ⟨w3.heap.size, 6, none⟩ = some (.int .i64 cy) ) ∧ (W.cell? ⟨w3.heap.size + 1, 0, none⟩ = some (.int .i64 k') ∧ W.cell? ⟨w3.heap.size + 1, 1, none⟩ = some (.int .i64 dx) ∧ W.cell? ⟨w3.heap.size + 1, 2, none⟩ = some (.int .i64 dy) ∧ W.cell? ⟨w3.heap.size + 1, 3, none⟩ = some (.int .i64 ex) ∧ W.cell? ⟨w3.heap.size + 1, 4, none⟩ = some (.int .i64 ey) ∧ W.cell? ⟨w3.heap.size + 1, 5, none⟩ = some (.int .i64 fx) ∧ W.cell? ⟨w3.heap.size + 1, 6, none⟩ = some (.int .i64 fy)) ∧ (∀ o, W.frozen? ⟨w.heap.size, o, none⟩ = false) ∧ w3.heap.size + 1 < W.heap.size) ?_ ?_
  · refine ⟨by (repeat (first | exact Below.refl _ _ | assumption | refine Below.drewN ?_ _ | refine Below.drew ?_ | refine Below.setCell ?_ (by first | exact Nat.le_refl _ | (simp; done) | (simp; omega) | omega) _ | refine Below.alloc ?_ (by first | exact Nat.le_refl _ | (simp; done) | (simp; omega) | omega) _)), by go_simp, by go_simp, by intro o; go_simp, by simp⟩
  clear u0 u1 uf
  rintro V3 ⟨hx4, ⟨u0, u1, z0, z1, z2, z3, z4, z5, z6⟩, ⟨y0, y1, y2, y3, y4, y5, y6⟩, uf, hl⟩
  obtain ⟨A, hA⟩ : ∃ A, Hid (w3.heap.size = A) := ⟨_, rfl⟩
  rw [hA.out] at z0 z1 z2 z3 z4 z5 z6 l3
  obtain ⟨B, hB⟩ : ∃ B, Hid (w3.heap.size + 1 = B) := ⟨_, rfl⟩
  rw [hB.out] at y0 y1 y2 y3 y4 y5 y6 hl
  rw [hB.out, hA.out]
  have q0 : w.heap.size < V3.heap.size := by have := hA.out; have := hB.out; omega
  have q1 : A < V3.heap.size := by have := hA.out; have := hB.out; omega
  clear hx3 hs3 hs1
  have hKeep : FKeep (V3.heap.size) (fun W => Ext V3 W ∧ V3.heap.size ≤ W.heap.size ∧ W.cell? ⟨w.heap.size, 0, none⟩ = some (.int .i64 p0) ∧ W.cell? ⟨w.heap.size, 1, none⟩ = some (.int .i64 p1) ∧ W.cell? ⟨A, 0, none⟩ = some (.int .i64 k) ∧ W.cell? ⟨A, 1, none⟩ = some (.int .i64 ax) ∧ W.cell? ⟨A, 2, none⟩ = some (.int .i64 ay) ∧ W.cell? ⟨A, 3, none⟩ = some (.int .i64 bx) ∧ W.cell? ⟨A, 4, none⟩ = some (.int .i64 by') ∧ W.cell? ⟨A, 5, none⟩ = some (.int .i64 cx) ∧ W.cell? ⟨A, 6, none⟩ = some (.int .i64 cy) ∧ W.cell? ⟨B, 0, none⟩ = some (.int .i64 k') ∧ W.cell? ⟨B, 1, none⟩ = some (.int .i64 dx) ∧ W.cell? ⟨B, 2, none⟩ = some (.int .i64 dy) ∧ W.cell? ⟨B, 3, none⟩ = some (.int .i64 ex) ∧ W.cell? ⟨B, 4, none⟩ = some (.int .i64 ey) ∧ W.cell? ⟨B, 5, none⟩ = some (.int .i64 fx) ∧ W.cell? ⟨B, 6, none⟩ = some (.int .i64 fy)) := (by intro W W' h hb; obtain ⟨hx, hz, hc⟩ := h; have hbc : ∀ b o, b < _ → W'.cell? ⟨b, o, none⟩ = W.cell? ⟨b, o, none⟩ := fun b o h => hb.cell (p := ⟨b, o, none⟩) h; refine ⟨hx.trans (hb.mono (by omega)), Nat.le_trans hz hb.size, ?_⟩; (try dsimp only at hc ⊢); simp (disch := omega) only [hbc]; exact hc)
  first | refine wp_region_K (V3.heap.size) (fun W => Ext V3 W ∧ V3.heap.size ≤ W.heap.size ∧ W.cell? ⟨w.heap.size, 0, none⟩ = some (.int .i64 p0) ∧ W.cell? ⟨w.heap.size, 1, none⟩ = some (.int .i64 p1) ∧ W.cell? ⟨A, 0, none⟩ = some (.int .i64 k) ∧ W.cell? ⟨A, 1, none⟩ = some (.int .i64 ax) ∧ W.cell? ⟨A, 2, none⟩ = some (.int .i64 ay) ∧ W.cell? ⟨A, 3, none⟩ = some (.int .i64 bx) ∧ W.cell? ⟨A, 4, none⟩ = some (.int .i64 by') ∧ W.cell? ⟨A, 5, none⟩ = some (.int .i64 cx) ∧ W.cell? ⟨A, 6, none⟩ = some (.int .i64 cy) ∧ W.cell? ⟨B, 0, none⟩ = some (.int .i64 k') ∧ W.cell? ⟨B, 1, none⟩ = some (.int .i64 dx) ∧ W.cell? ⟨B, 2, none⟩ = some (.int .i64 dy) ∧ W.cell? ⟨B, 3, none⟩ = some (.int .i64 ex) ∧ W.cell? ⟨B, 4, none⟩ = some (.int .i64 ey) ∧ W.cell? ⟨B, 5, none⟩ = some (.int .i64 fx) ∧ W.cell? ⟨B, 6, none⟩ = some (.int .i64 fy)) (by kernel_rfl) (by kernel_rfl) ?_ hKeep (fun _ h => h.2.1) ?_ | refine wp_region_Ks (V3.heap.size) (fun W => Ext V3 W ∧ V3.heap.size ≤ W.heap.size ∧ W.cell? ⟨w.heap.size, 0, none⟩ = some (.int .i64 p0) ∧ W.cell? ⟨w.heap.size, 1, none⟩ = some (.int .i64 p1) ∧ W.cell? ⟨A, 0, none⟩ = some (.int .i64 k) ∧ W.cell? ⟨A, 1, none⟩ = some (.int .i64 ax) ∧ W.cell? ⟨A, 2, none⟩ = some (.int .i64 ay) ∧ W.cell? ⟨A, 3, none⟩ = some (.int .i64 bx) ∧ W.cell? ⟨A, 4, none⟩ = some (.int .i64 by') ∧ W.cell? ⟨A, 5, none⟩ = some (.int .i64 cx) ∧ W.cell? ⟨A, 6, none⟩ = some (.int .i64 cy) ∧ W.cell? ⟨B, 0, none⟩ = some (.int .i64 k') ∧ W.cell? ⟨B, 1, none⟩ = some (.int .i64 dx) ∧ W.cell? ⟨B, 2, none⟩ = some (.int .i64 dy) ∧ W.cell? ⟨B, 3, none⟩ = some (.int .i64 ex) ∧ W.cell? ⟨B, 4, none⟩ = some (.int .i64 ey) ∧ W.cell? ⟨B, 5, none⟩ = some (.int .i64 fx) ∧ W.cell? ⟨B, 6, none⟩ = some (.int .i64 fy)) ?_ hKeep (fun _ h => h.2.1) ?_
  · refine ⟨by (repeat (first | exact Below.refl _ _ | assumption | refine Below.drewN ?_ _ | refine Below.drew ?_ | refine Below.setCell ?_ (by first | exact Nat.le_refl _ | (simp; done) | (simp; omega) | omega) _ | refine Below.alloc ?_ (by first | exact Nat.le_refl _ | (simp; done) | (simp; omega) | omega) _)), by first | omega | (simp; done) | (simp; omega), ?_⟩
    go_simp
  repeat (first | (refine F_skip (by rfl) ?_; simp only [Act.put, List.setIfInBounds_toArray, List.set_cons_zero, List.set_cons_succ]) | (refine F_run (v := ?_) (by rfl) ?_ ?_; rotate_left; (· (intro W hW; (try dsimp only at hW); go_simp; try with_reducible rfl)); simp only [Act.put, List.setIfInBounds_toArray, List.set_cons_zero, List.set_cons_succ]))
  (refine F_call (v := .agg #[.int .i64 sx, .int .i64 sy]) (by rfl) (by rfl) ?_ ?_; (· (intro W hW; (try dsimp only at hW); go_simp; refine (SB.out _).mono ?_; rintro e w' ⟨rfl, hx⟩; exact ⟨_, rfl, rfl, hx⟩))); simp only [Act.put, List.setIfInBounds_toArray, List.set_cons_zero, List.set_cons_succ]
  repeat (first | (refine F_skip (by rfl) ?_; simp only [Act.put, List.setIfInBounds_toArray, List.set_cons_zero, List.set_cons_succ]) | (refine F_run (v := ?_) (by rfl) ?_ ?_; rotate_left; (· (intro W hW; (try dsimp only at hW); go_simp; try with_reducible rfl)); simp only [Act.put, List.setIfInBounds_toArray, List.set_cons_zero, List.set_cons_succ]))
  (refine F_call (v := .agg #[.int .i64 k2, .int .i64 m1, .int .i64 m2, .int .i64 m3, .int .i64 m4, .int .i64 m5, .int .i64 m6]) (by rfl) (by rfl) ?_ ?_; (· (intro W hW; (try dsimp only at hW); go_simp; refine (MV.out _).mono ?_; rintro e w' ⟨rfl, hx⟩; exact ⟨_, rfl, rfl, hx⟩))); simp only [Act.put, List.setIfInBounds_toArray, List.set_cons_zero, List.set_cons_succ]
  refine F_alloc (.cells #[.int .i64 0, .int .i64 0, .int .i64 0, .int .i64 0, .int .i64 0, .int .i64 0, .int .i64 0] 27) (by rfl) (by rfl) (by intro W hW; go_simp) ?_
  intro g hg
  simp only [List.mem_cons, List.mem_range, not_or, Nat.not_lt] at hg
  simp only [Act.put, List.setIfInBounds_toArray, List.set_cons_zero, List.set_cons_succ]
  refine F_store7 (fun W => (Ext V3 W ∧ V3.heap.size ≤ W.heap.size ∧ W.cell? ⟨w.heap.size, 0, none⟩ = some (.int .i64 p0) ∧ W.cell? ⟨w.heap.size, 1, none⟩ = some (.int .i64 p1) ∧ W.cell? ⟨A, 0, none⟩ = some (.int .i64 k) ∧ W.cell? ⟨A, 1, none⟩ = some (.int .i64 ax) ∧ W.cell? ⟨A, 2, none⟩ = some (.int .i64 ay) ∧ W.cell? ⟨A, 3, none⟩ = some (.int .i64 bx) ∧ W.cell? ⟨A, 4, none⟩ = some (.int .i64 by') ∧ W.cell? ⟨A, 5, none⟩ = some (.int .i64 cx) ∧ W.cell? ⟨A, 6, none⟩ = some (.int .i64 cy) ∧ W.cell? ⟨B, 0, none⟩ = some (.int .i64 k') ∧ W.cell? ⟨B, 1, none⟩ = some (.int .i64 dx) ∧ W.cell? ⟨B, 2, none⟩ = some (.int .i64 dy) ∧ W.cell? ⟨B, 3, none⟩ = some (.int .i64 ex) ∧ W.cell? ⟨B, 4, none⟩ = some (.int .i64 ey) ∧ W.cell? ⟨B, 5, none⟩ = some (.int .i64 fx) ∧ W.cell? ⟨B, 6, none⟩ = some (.int .i64 fy))) g (.int .i64 0) (.int .i64 0) (.int .i64 0) (.int .i64 0) (.int .i64 0) (.int .i64 0) (.int .i64 0) (.int .i64 k2) (.int .i64 m1) (.int .i64 m2) (.int .i64 m3) (.int .i64 m4) (.int .i64 m5) (.int .i64 m6) 27 (by rfl) (by rfl) (by intro W c0 c1 c2 c3 c4 c5 c6 cf; go_simp) (fun W hW => hW) ?_ ?_ ?_ ?_
  · repeat (first | exact hRKS | exact RK.keep hKeep (by assumption) | exact RK.obj (by assumption) | exact RK.nr (by intro z h; cases h) (by intro z h; cases h) | refine RK.and ?_ ?_)
  · repeat (first | exact hSM | exact hKeep.mono (fun _ h => h.2.1) | exact fmono_obj _ _ | exact fmono_nr _ _ _ _ _ | refine FMono.and ?_ ?_)
  · (intro W h; first | exact h | exact h.1 | exact h.1.1 | exact h.1.1.1 | exact h.1.1.1.1)
  simp only [Act.put, List.setIfInBounds_toArray, List.set_cons_zero, List.set_cons_succ]
  rintro V4 ⟨⟨⟨hx5, hz5, hc5⟩, hb5⟩, _⟩
  obtain ⟨⟨e0, e1, e2, e3, e4, e5, e6⟩, _, hlg⟩ := cells7 hb5
  replace uf : ∀ o, V4.frozen? ⟨w.heap.size, o, none⟩ = false := fun o => (hx5.frozen (p := ⟨w.heap.size, o, none⟩) q0).trans (uf o)
  clear hb5 u0 u1 z0 z1 z2 z3 z4 z5 z6 y0 y1 y2 y3 y4 y5 y6 SB MV
  obtain ⟨u0, u1, z0, z1, z2, z3, z4, z5, z6, y0, y1, y2, y3, y4, y5, y6⟩ := hc5
  have hx6 : Ext w V4 := hx4.trans (hx5.mono (by omega))
  have r0 : w.heap.size < V4.heap.size := by omega
  have r1 : A < V4.heap.size := by omega
  have gA : w.heap.size ≠ A := by omega
  have gA' : A ≠ w.heap.size := by omega
  have gg : w.heap.size ≠ g := by omega
  have gg' : g ≠ w.heap.size := by omega
  clear hx5 hx4 hKeep q0 q1 hl hz5
  go_wp2_with fail
  refine wp_region_Q 7 (fun o => match o.dst with | some d => [999].contains d | none => false) (fun W => Ext w W ∧ V4.heap.size ≤ W.heap.size ∧ W.cell? ⟨w.heap.size, 0, none⟩ = some (.int .i64 p0) ∧ W.cell? ⟨w.heap.size, 1, none⟩ = some (.int .i64 p1) ∧ W.cell? ⟨A, 0, none⟩ = some (.int .i64 k) ∧ W.cell? ⟨A, 1, none⟩ = some (.int .i64 ax) ∧ W.cell? ⟨A, 2, none⟩ = some (.int .i64 ay) ∧ W.cell? ⟨A, 3, none⟩ = some (.int .i64 bx) ∧ W.cell? ⟨A, 4, none⟩ = some (.int .i64 by') ∧ W.cell? ⟨A, 5, none⟩ = some (.int .i64 cx) ∧ W.cell? ⟨A, 6, none⟩ = some (.int .i64 cy) ∧ W.cell? ⟨g, 0, none⟩ = some (.int .i64 k2) ∧ W.cell? ⟨g, 1, none⟩ = some (.int .i64 m1) ∧ W.cell? ⟨g, 2, none⟩ = some (.int .i64 m2) ∧ W.cell? ⟨g, 3, none⟩ = some (.int .i64 m3) ∧ W.cell? ⟨g, 4, none⟩ = some (.int .i64 m4) ∧ W.cell? ⟨g, 5, none⟩ = some (.int .i64 m5) ∧ W.cell? ⟨g, 6, none⟩ = some (.int .i64 m6)) (fun W => (Ext w W ∧ V4.heap.size ≤ W.heap.size ∧ W.cell? ⟨w.heap.size, 0, none⟩ = some (.int .i64 p0) ∧ W.cell? ⟨w.heap.size, 1, none⟩ = some (.int .i64 p1) ∧ W.cell? ⟨A, 0, none⟩ = some (.int .i64 k) ∧ W.cell? ⟨A, 1, none⟩ = some (.int .i64 ax) ∧ W.cell? ⟨A, 2, none⟩ = some (.int .i64 ay) ∧ W.cell? ⟨A, 3, none⟩ = some (.int .i64 bx) ∧ W.cell? ⟨A, 4, none⟩ = some (.int .i64 by') ∧ W.cell? ⟨A, 5, none⟩ = some (.int .i64 cx) ∧ W.cell? ⟨A, 6, none⟩ = some (.int .i64 cy) ∧ W.cell? ⟨g, 0, none⟩ = some (.int .i64 k2) ∧ W.cell? ⟨g, 1, none⟩ = some (.int .i64 m1) ∧ W.cell? ⟨g, 2, none⟩ = some (.int .i64 m2) ∧ W.cell? ⟨g, 3, none⟩ = some (.int .i64 m3) ∧ W.cell? ⟨g, 4, none⟩ = some (.int .i64 m4) ∧ W.cell? ⟨g, 5, none⟩ = some (.int .i64 m5) ∧ W.cell? ⟨g, 6, none⟩ = some (.int .i64 m6)) ∧ (∀ o, W.frozen? ⟨w.heap.size, o, none⟩ = false)) (by kernel_rfl) (by kernel_rfl) (by kernel_rfl) (by kernel_rfl) ?_ ?_ (fun _ h => h.1) ?_ ?_
  · refine ⟨⟨by (repeat (first | exact Below.refl _ _ | assumption | refine Below.drewN ?_ _ | refine Below.drew ?_ | refine Below.setCell ?_ (by first | exact Nat.le_refl _ | (simp; done) | (simp; omega) | omega) _ | refine Below.alloc ?_ (by first | exact Nat.le_refl _ | (simp; done) | (simp; omega) | omega) _)), by first | omega | (simp; done) | (simp; omega), ?_⟩, ?_⟩ <;> (try go_simp)
  · (intro W W' h hb; obtain ⟨⟨hx, hz, hc⟩, hr⟩ := h; have hbc : ∀ b o, b < W.heap.size → W'.cell? ⟨b, o, none⟩ = W.cell? ⟨b, o, none⟩ := fun b o h => hb.cell (p := ⟨b, o, none⟩) h; have hbf : ∀ b o, b < W.heap.size → W'.frozen? ⟨b, o, none⟩ = W.frozen? ⟨b, o, none⟩ := fun b o h => hb.frozen (p := ⟨b, o, none⟩) h; refine ⟨⟨hx.step hb, Nat.le_trans hz hb.size, ?_⟩, ?_⟩ <;> (simp (disch := omega) only [hbc, hbf]; assumption))
  · (intro W h; have h2 := h.1.2.1; first | omega | (simp; omega))
  simp only [List.take_succ_cons, List.take_zero, List.drop_succ_cons, List.drop_zero]
  repeat (first | (refine Q_skip (by rfl) (by rfl) ?_; simp only [Act.put, List.setIfInBounds_toArray, List.set_cons_zero, List.set_cons_succ]) | (refine Q_run (v := ?_) (by rfl) (by rfl) ?_ ?_; rotate_left; (· (intro W hW; (try dsimp only at hW); go_simp; try with_reducible rfl)); simp only [Act.put, List.setIfInBounds_toArray, List.set_cons_zero, List.set_cons_succ]) | (refine Q_read (v := ?_) (by rfl) (by rfl) ?_ ?_; rotate_left; (· (intro W hW; (try dsimp only at hW); go_simp; try with_reducible rfl)); simp only [Act.put, List.setIfInBounds_toArray, List.set_cons_zero, List.set_cons_succ]))
  (refine Q_call (v := .int .i64 x) (by rfl) (by rfl) (by rfl) ?_ ?_; (· (intro W hW; (try dsimp only at hW); go_simp; refine (MX.out _).mono ?_; rintro e w' ⟨rfl, hx⟩; exact ⟨_, rfl, rfl, hx⟩))); simp only [Act.put, List.setIfInBounds_toArray, List.set_cons_zero, List.set_cons_succ]
  repeat (first | (refine Q_skip (by rfl) (by rfl) ?_; simp only [Act.put, List.setIfInBounds_toArray, List.set_cons_zero, List.set_cons_succ]) | (refine Q_run (v := ?_) (by rfl) (by rfl) ?_ ?_; rotate_left; (· (intro W hW; (try dsimp only at hW); go_simp; try with_reducible rfl)); simp only [Act.put, List.setIfInBounds_toArray, List.set_cons_zero, List.set_cons_succ]) | (refine Q_read (v := ?_) (by rfl) (by rfl) ?_ ?_; rotate_left; (· (intro W hW; (try dsimp only at hW); go_simp; try with_reducible rfl)); simp only [Act.put, List.setIfInBounds_toArray, List.set_cons_zero, List.set_cons_succ]))
  (refine Q_call (v := .int .i64 y) (by rfl) (by rfl) (by rfl) ?_ ?_; (· (intro W hW; (try dsimp only at hW); go_simp; refine (MY.out _).mono ?_; rintro e w' ⟨rfl, hx⟩; exact ⟨_, rfl, rfl, hx⟩))); simp only [Act.put, List.setIfInBounds_toArray, List.set_cons_zero, List.set_cons_succ]
  repeat (first | (refine Q_skip (by rfl) (by rfl) ?_; simp only [Act.put, List.setIfInBounds_toArray, List.set_cons_zero, List.set_cons_succ]) | (refine Q_run (v := ?_) (by rfl) (by rfl) ?_ ?_; rotate_left; (· (intro W hW; (try dsimp only at hW); go_simp; try with_reducible rfl)); simp only [Act.put, List.setIfInBounds_toArray, List.set_cons_zero, List.set_cons_succ]) | (refine Q_read (v := ?_) (by rfl) (by rfl) ?_ ?_; rotate_left; (· (intro W hW; (try dsimp only at hW); go_simp; try with_reducible rfl)); simp only [Act.put, List.setIfInBounds_toArray, List.set_cons_zero, List.set_cons_succ]))
  refine Q_done ?_
  refine F_store (fun W => Ext w W ∧ V4.heap.size ≤ W.heap.size ∧ W.cell? ⟨w.heap.size, 0, none⟩ = some (.int .i64 x) ∧ W.cell? ⟨w.heap.size, 1, none⟩ = some (.int .i64 y) ∧ W.cell? ⟨A, 0, none⟩ = some (.int .i64 k) ∧ W.cell? ⟨A, 1, none⟩ = some (.int .i64 ax) ∧ W.cell? ⟨A, 2, none⟩ = some (.int .i64 ay) ∧ W.cell? ⟨A, 3, none⟩ = some (.int .i64 bx) ∧ W.cell? ⟨A, 4, none⟩ = some (.int .i64 by') ∧ W.cell? ⟨A, 5, none⟩ = some (.int .i64 cx) ∧ W.cell? ⟨A, 6, none⟩ = some (.int .i64 cy) ∧ W.cell? ⟨g, 0, none⟩ = some (.int .i64 k2) ∧ W.cell? ⟨g, 1, none⟩ = some (.int .i64 m1) ∧ W.cell? ⟨g, 2, none⟩ = some (.int .i64 m2) ∧ W.cell? ⟨g, 3, none⟩ = some (.int .i64 m3) ∧ W.cell? ⟨g, 4, none⟩ = some (.int .i64 m4) ∧ W.cell? ⟨g, 5, none⟩ = some (.int .i64 m5) ∧ W.cell? ⟨g, 6, none⟩ = some (.int .i64 m6)) ?_ (fun _ _ => trivial) (by rfl) (by rfl) ?_ ?_
  · (intro W W' h hb; obtain ⟨hx, hz, hc⟩ := h; have hbc : ∀ b o, b < W.heap.size → W'.cell? ⟨b, o, none⟩ = W.cell? ⟨b, o, none⟩ := fun b o h => hb.cell (p := ⟨b, o, none⟩) h; have hbf : ∀ b o, b < W.heap.size → W'.frozen? ⟨b, o, none⟩ = W.frozen? ⟨b, o, none⟩ := fun b o h => hb.frozen (p := ⟨b, o, none⟩) h; refine ⟨hx.step hb, Nat.le_trans hz hb.size, ?_⟩; simp (disch := omega) only [hbc, hbf]; exact hc)
  · (intro W hW; obtain ⟨⟨hx, hz, hc⟩, hr⟩ := hW; go_simp; (try dsimp only); (repeat' apply And.intro) <;> first | with_reducible assumption | (go_simp; done) | ((repeat (refine Below.setCell ?_ (by first | exact Nat.le_refl _ | exact Nat.le_succ _ | (dsimp only; omega) | omega) _)); exact hx) | omega | (simp; done) | (simp; omega))
  simp only [Act.put, List.setIfInBounds_toArray, List.set_cons_zero, List.set_cons_succ]
  rintro V5 ⟨⟨hx7, hz7, u0, u1, z0, z1, z2, z3, z4, z5, z6, e0, e1, e2, e3, e4, e5, e6⟩, _⟩
  have nA0 : A < V5.heap.size := by omega
  have ng0 : g < V5.heap.size := by omega
  have nw0 : w.heap.size < V5.heap.size := by omega
  go_upto_region 7 with (fail)
  refine wp_world (fun W => Ext w W ∧ (W.cell? ⟨w.heap.size, 0, none⟩ = some (.int .i64 x) ∧ W.cell? ⟨w.heap.size, 1, none⟩ = some (.int .i64 y) ∧ W.cell? ⟨A, 0, none⟩ = some (.int .i64 k) ∧ W.cell? ⟨A, 1, none⟩ = some (.int .i64 ax) ∧ W.cell? ⟨A, 2, none⟩ = some (.int .i64 ay) ∧ W.cell? ⟨A, 3, none⟩ = some (.int .i64 bx) ∧ W.cell? ⟨A, 4, none⟩ = some (.int .i64 by') ∧ W.cell? ⟨A, 5, none⟩ = some (.int .i64 cx) ∧ W.cell? ⟨A, 6, none⟩ = some (.int .i64 cy) ∧ W.cell? ⟨g, 0, none⟩ = some (.int .i64 k2) ∧ W.cell? ⟨g, 1, none⟩ = some (.int .i64 m1) ∧ W.cell? ⟨g, 2, none⟩ = some (.int .i64 m2) ∧ W.cell? ⟨g, 3, none⟩ = some (.int .i64 m3) ∧ W.cell? ⟨g, 4, none⟩ = some (.int .i64 m4) ∧ W.cell? ⟨g, 5, none⟩ = some (.int .i64 m5) ∧ W.cell? ⟨g, 6, none⟩ = some (.int .i64 m6) ∧ W.cell? ⟨V5.heap.size, 0, none⟩ = some (.int .i64 1) ∧ W.cell? ⟨V5.heap.size, 1, none⟩ = some (.int .i64 x) ∧ W.cell? ⟨V5.heap.size, 2, none⟩ = some (.int .i64 y) ∧ W.cell? ⟨V5.heap.size, 3, none⟩ = some (.int .i64 x) ∧ W.cell? ⟨V5.heap.size, 4, none⟩ = some (.int .i64 y) ∧ W.cell? ⟨V5.heap.size, 5, none⟩ = some (.int .i64 0) ∧ W.cell? ⟨V5.heap.size, 6, none⟩ = some (.int .i64 0) ) ∧ V5.heap.size < W.heap.size) ?_ ?_
  · refine ⟨by (repeat (first | exact Below.refl _ _ | assumption | refine Below.drewN ?_ _ | refine Below.drew ?_ | refine Below.setCell ?_ (by first | exact Nat.le_refl _ | (simp; done) | (simp; omega) | omega) _ | refine Below.alloc ?_ (by first | exact Nat.le_refl _ | (simp; done) | (simp; omega) | omega) _)), by go_simp, by simp⟩
  clear u0 u1 z0 z1 z2 z3 z4 z5 z6 e0 e1 e2 e3 e4 e5 e6
  rintro V6 ⟨hxx, ⟨u0, u1, z0, z1, z2, z3, z4, z5, z6, e0, e1, e2, e3, e4, e5, e6, h0, h1, h2, h3, h4, h5, h6⟩, nH⟩
  have nA : A < V6.heap.size := by omega
  have ng : g < V6.heap.size := by omega
  obtain ⟨H, hH⟩ : ∃ H, Hid (V5.heap.size = H) := ⟨_, rfl⟩
  rw [hH.out] at h0 h1 h2 h3 h4 h5 h6 nH ⊢
  clear nA0 ng0 nw0 hx7 hz7
  go_wp2_with fail
  refine (ON.out _).mono ?_
  rintro e w7 ⟨rfl, hx⟩
  have hq : ∀ b o, b < V6.heap.size → w7.cell? ⟨b, o, none⟩ = V6.cell? ⟨b, o, none⟩ := fun b o h => hx.cell (p := ⟨b, o, none⟩) h
  replace z0 := (hq A 0 nA).trans z0
  replace z1 := (hq A 1 nA).trans z1
  replace z2 := (hq A 2 nA).trans z2
  replace z3 := (hq A 3 nA).trans z3
  replace z4 := (hq A 4 nA).trans z4
  replace z5 := (hq A 5 nA).trans z5
  replace z6 := (hq A 6 nA).trans z6
  replace e0 := (hq g 0 ng).trans e0
  replace e1 := (hq g 1 ng).trans e1
  replace e2 := (hq g 2 ng).trans e2
  replace e3 := (hq g 3 ng).trans e3
  replace e4 := (hq g 4 ng).trans e4
  replace e5 := (hq g 5 ng).trans e5
  replace e6 := (hq g 6 ng).trans e6
  replace h0 := (hq H 0 nH).trans h0
  replace h1 := (hq H 1 nH).trans h1
  replace h2 := (hq H 2 nH).trans h2
  replace h3 := (hq H 3 nH).trans h3
  replace h4 := (hq H 4 nH).trans h4
  replace h5 := (hq H 5 nH).trans h5
  replace h6 := (hq H 6 nH).trans h6
  replace nA := Nat.lt_of_lt_of_le nA hx.size
  replace ng := Nat.lt_of_lt_of_le ng hx.size
  replace nH := Nat.lt_of_lt_of_le nH hx.size
  replace hxx : Ext w w7 := Ext.step hxx hx
  clear hq hx
  cases on
  all_goals
    simp only [Bool.false_eq_true, if_false, if_true] at C1
    go_wp2_with fail
    refine (E1.out _).mono ?_
    rintro e w8 ⟨rfl, hx⟩
    have hq : ∀ b o, b < w7.heap.size → w8.cell? ⟨b, o, none⟩ = w7.cell? ⟨b, o, none⟩ := fun b o h => hx.cell (p := ⟨b, o, none⟩) h
    replace z0 := (hq A 0 nA).trans z0
    replace z1 := (hq A 1 nA).trans z1
    replace z2 := (hq A 2 nA).trans z2
    replace z3 := (hq A 3 nA).trans z3
    replace z4 := (hq A 4 nA).trans z4
    replace z5 := (hq A 5 nA).trans z5
    replace z6 := (hq A 6 nA).trans z6
    replace e0 := (hq g 0 ng).trans e0
    replace e1 := (hq g 1 ng).trans e1
    replace e2 := (hq g 2 ng).trans e2
    replace e3 := (hq g 3 ng).trans e3
    replace e4 := (hq g 4 ng).trans e4
    replace e5 := (hq g 5 ng).trans e5
    replace e6 := (hq g 6 ng).trans e6
    replace h0 := (hq H 0 nH).trans h0
    replace h1 := (hq H 1 nH).trans h1
    replace h2 := (hq H 2 nH).trans h2
    replace h3 := (hq H 3 nH).trans h3
    replace h4 := (hq H 4 nH).trans h4
    replace h5 := (hq H 5 nH).trans h5
    replace h6 := (hq H 6 nH).trans h6
    replace nA := Nat.lt_of_lt_of_le nA hx.size
    replace ng := Nat.lt_of_lt_of_le ng hx.size
    replace nH := Nat.lt_of_lt_of_le nH hx.size
    replace hxx : Ext w w8 := Ext.step hxx hx
    clear hq hx
    go_wp2_with fail
    refine (C1.out _).mono ?_
    rintro e w9 ⟨rfl, hx⟩
    have hq : ∀ b o, b < w8.heap.size → w9.cell? ⟨b, o, none⟩ = w8.cell? ⟨b, o, none⟩ := fun b o h => hx.cell (p := ⟨b, o, none⟩) h
    replace z0 := (hq A 0 nA).trans z0
    replace z1 := (hq A 1 nA).trans z1
    replace z2 := (hq A 2 nA).trans z2
    replace z3 := (hq A 3 nA).trans z3
    replace z4 := (hq A 4 nA).trans z4
    replace z5 := (hq A 5 nA).trans z5
    replace z6 := (hq A 6 nA).trans z6
    replace e0 := (hq g 0 ng).trans e0
    replace e1 := (hq g 1 ng).trans e1
    replace e2 := (hq g 2 ng).trans e2
    replace e3 := (hq g 3 ng).trans e3
    replace e4 := (hq g 4 ng).trans e4
    replace e5 := (hq g 5 ng).trans e5
    replace e6 := (hq g 6 ng).trans e6
    replace h0 := (hq H 0 nH).trans h0
    replace h1 := (hq H 1 nH).trans h1
    replace h2 := (hq H 2 nH).trans h2
    replace h3 := (hq H 3 nH).trans h3
    replace h4 := (hq H 4 nH).trans h4
    replace h5 := (hq H 5 nH).trans h5
    replace h6 := (hq H 6 nH).trans h6
    replace nA := Nat.lt_of_lt_of_le nA hx.size
    replace ng := Nat.lt_of_lt_of_le ng hx.size
    replace nH := Nat.lt_of_lt_of_le nH hx.size
    replace hxx : Ext w w9 := Ext.step hxx hx
    clear hq hx
    go_wp2_with fail
    refine (C2.out _).mono ?_
    rintro e w10 ⟨rfl, hx⟩
    have hq : ∀ b o, b < w9.heap.size → w10.cell? ⟨b, o, none⟩ = w9.cell? ⟨b, o, none⟩ := fun b o h => hx.cell (p := ⟨b, o, none⟩) h
    replace z0 := (hq A 0 nA).trans z0
    replace z1 := (hq A 1 nA).trans z1
    replace z2 := (hq A 2 nA).trans z2
    replace z3 := (hq A 3 nA).trans z3
    replace z4 := (hq A 4 nA).trans z4
    replace z5 := (hq A 5 nA).trans z5
    replace z6 := (hq A 6 nA).trans z6
    replace e0 := (hq g 0 ng).trans e0
    replace e1 := (hq g 1 ng).trans e1
    replace e2 := (hq g 2 ng).trans e2
    replace e3 := (hq g 3 ng).trans e3
    replace e4 := (hq g 4 ng).trans e4
    replace e5 := (hq g 5 ng).trans e5
    replace e6 := (hq g 6 ng).trans e6
    replace h0 := (hq H 0 nH).trans h0
    replace h1 := (hq H 1 nH).trans h1
    replace h2 := (hq H 2 nH).trans h2
    replace h3 := (hq H 3 nH).trans h3
    replace h4 := (hq H 4 nH).trans h4
    replace h5 := (hq H 5 nH).trans h5
    replace h6 := (hq H 6 nH).trans h6
    replace nA := Nat.lt_of_lt_of_le nA hx.size
    replace ng := Nat.lt_of_lt_of_le ng hx.size
    replace nH := Nat.lt_of_lt_of_le nH hx.size
    replace hxx : Ext w w10 := Ext.step hxx hx
    clear hq hx
    go_wp2_with fail
    refine (E2.out _).mono ?_
    rintro e w11 ⟨rfl, hx⟩
    have hq : ∀ b o, b < w10.heap.size → w11.cell? ⟨b, o, none⟩ = w10.cell? ⟨b, o, none⟩ := fun b o h => hx.cell (p := ⟨b, o, none⟩) h
    replace z0 := (hq A 0 nA).trans z0
    replace z1 := (hq A 1 nA).trans z1
    replace z2 := (hq A 2 nA).trans z2
    replace z3 := (hq A 3 nA).trans z3
    replace z4 := (hq A 4 nA).trans z4
    replace z5 := (hq A 5 nA).trans z5
    replace z6 := (hq A 6 nA).trans z6
    replace e0 := (hq g 0 ng).trans e0
    replace e1 := (hq g 1 ng).trans e1
    replace e2 := (hq g 2 ng).trans e2
    replace e3 := (hq g 3 ng).trans e3
    replace e4 := (hq g 4 ng).trans e4
    replace e5 := (hq g 5 ng).trans e5
    replace e6 := (hq g 6 ng).trans e6
    replace h0 := (hq H 0 nH).trans h0
    replace h1 := (hq H 1 nH).trans h1
    replace h2 := (hq H 2 nH).trans h2
    replace h3 := (hq H 3 nH).trans h3
    replace h4 := (hq H 4 nH).trans h4
    replace h5 := (hq H 5 nH).trans h5
    replace h6 := (hq H 6 nH).trans h6
    replace nA := Nat.lt_of_lt_of_le nA hx.size
    replace ng := Nat.lt_of_lt_of_le ng hx.size
    replace nH := Nat.lt_of_lt_of_le nH hx.size
    replace hxx : Ext w w11 := Ext.step hxx hx
    clear hq hx
    go_wp2
    go_ret
    exact ⟨rfl, hxx⟩
end Go.Proofs.Ytmmhiiiaccldmaa
