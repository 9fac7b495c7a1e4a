/- More steps: new variables of four cells (a rectangle) that a statement makes and fills. | The law MeetBoxes: its walk. -/
import Derived.Test.YtmmhiiiaccldmaaJ30
import Derived.Test.YtmmhiiiaccldmaaJ26
import Derived.Test.YtmmhiiiaccldmaaJ34
import Derived.Test.YtmmhiiiaccldmaaJ09
import Derived.Test.YtmmhiiiaccldmaaJ31
import Derived.Deep.DeepCutAuto
set_option linter.unusedVariables false
set_option linter.unusedSimpArgs false

namespace Go.Proofs.Ytmmhiiiaccldmaa
open Go.RowKit

theorem cells4 {W : World} {g : Nat} {a0 a1 a2 a3 : Value} {T : TypeId} (h : W.heap[g]? = some (.cells #[a0, a1, a2, a3] T)) :
    (W.cell? ⟨g, 0, none⟩ = some a0 ∧ W.cell? ⟨g, 1, none⟩ = some a1 ∧ W.cell? ⟨g, 2, none⟩ = some a2 ∧ W.cell? ⟨g, 3, none⟩ = some a3) ∧
      (∀ o, W.frozen? ⟨g, o, none⟩ = false) ∧ g < W.heap.size := by
  refine ⟨⟨?_, ?_, ?_, ?_⟩, fun o => ?_, (Array.getElem?_eq_some_iff.1 h).1⟩
  all_goals first | (rw [cell_of_row _ _ _ _ _ _ h]; rfl) | simp [World.frozen?, h]
theorem store4 {W : World} {g : Nat} {a0 a1 a2 a3 x0 x1 x2 x3 : Value} {T : TypeId} (h : W.heap[g]? = some (.cells #[a0, a1, a2, a3] T)) :
    OnlyB g W ((((W.setCell ⟨g, 0, none⟩ x0).setCell ⟨g, 1, none⟩ x1).setCell ⟨g, 2, none⟩ x2).setCell ⟨g, 3, none⟩ x3) ∧
      ((((W.setCell ⟨g, 0, none⟩ x0).setCell ⟨g, 1, none⟩ x1).setCell ⟨g, 2, none⟩ x2).setCell ⟨g, 3, none⟩ x3).heap[g]? = some (.cells #[x0, x1, x2, x3] T) := by
  obtain ⟨h0, k0⟩ := store1 (j := 0) (v := x0) h
  obtain ⟨h1, k1⟩ := store1 (j := 1) (v := x1) k0
  obtain ⟨h2, k2⟩ := store1 (j := 2) (v := x2) k1
  obtain ⟨h3, k3⟩ := store1 (j := 3) (v := x3) k2
  refine ⟨((h0.step h1).step h2).step h3, k3.trans ?_⟩
  simp
section
variable {P : Program} {ops : Array Oper} {S : World → Prop} {Q : Act → World → Prop} {o : Oper} {l : List Oper} {a : Act} {own : List Nat} {F : World → Prop}
/-- A store into a new variable of four cells. -/
theorem F_store4 (R : World → Prop) (g : Nat) (a0 a1 a2 a3 x0 x1 x2 x3 : Value) (T : TypeId) (hk : fkind o = 3) (hw : Region.wanted o (yielded ops a.tmps) = true)
    (hrun : ∀ W : World, W.cell? ⟨g, 0, none⟩ = some a0 → W.cell? ⟨g, 1, none⟩ = some a1 → W.cell? ⟨g, 2, none⟩ = some a2 → W.cell? ⟨g, 3, none⟩ = some a3 → (∀ o, W.frozen? ⟨g, o, none⟩ = false) →
      (execOp a.eval o).run P W = .ok .skip ((((W.setCell ⟨g, 0, none⟩ x0).setCell ⟨g, 1, none⟩ x1).setCell ⟨g, 2, none⟩ x2).setCell ⟨g, 3, none⟩ x3))
    (hF : ∀ W, F W → R W ∧ W.heap[g]? = some (.cells #[a0, a1, a2, a3] T)) (hR : RK g (.cells #[a0, a1, a2, a3] T) R) (hm : FMono R) (hs : ∀ W, R W → S W)
    (h : WpF P ops S Q l (a.put o.dst undef) own (fun W => (R W ∧ W.heap[g]? = some (.cells #[x0, x1, x2, x3] T)) ∧ ∀ g ∈ own, g < W.heap.size)) : WpF P ops S Q (o :: l) a own F := by
  refine F_store (fun W => R W ∧ W.heap[g]? = some (.cells #[x0, x1, x2, x3] T)) (hm.and (fmono_obj _ _)) (fun W h => hs W h.1) hk hw (fun W hf => ?_) h
  obtain ⟨hr, hb⟩ := hF W hf
  obtain ⟨⟨c0, c1, c2, c3⟩, cf, hlt⟩ := cells4 hb
  unfold Gives
  rw [hrun W c0 c1 c2 c3 cf]
  obtain ⟨k1, k2⟩ := store4 (x0 := x0) (x1 := x1) (x2 := x2) (x3 := x3) hb
  exact ⟨rfl, by rw [k1.size]; exact Nat.le_refl _, hR W _ hr hb k1, k2⟩
end
end Go.Proofs.Ytmmhiiiaccldmaa

namespace Go.Proofs.Ytmmhiiiaccldmaa
open Go.RowKit
attribute [local go_sem] Gives givesU

set_option maxRecDepth 100000 in
set_option maxHeartbeats 8000000 in
theorem Boxes_core (k ax ay bx by' cx cy k' dx dy ex ey fx fy k2 m1 m2 m3 m4 m5 m6 p0 p1 x y x0 y0 x1 y1 u0 v0 u1 v1 : Int) (o1 o2 : Int → Int → Bool) (me : Bool) (a0 a1 : Option Addr) (n0 c0 n1 c1 : Nat) (w : World)
    (X : p0.tmod 40 = x) (Y : p1.tmod 40 = y) (hx' : IntKind.i64.wrap x = x) (hy' : IntKind.i64.wrap y = y)
    (M1 : ∀ W, Ext w W → Calls Try.prog 9 #[.slice a0 n0 c0, .int .i64 1] W fun e w' => e = .returned (.agg #[.int .i64 k, .int .i64 ax, .int .i64 ay, .int .i64 bx, .int .i64 by', .int .i64 cx, .int .i64 cy]) ∧ Ext W w')
    (M2 : ∀ W, Ext w W → Calls Try.prog 9 #[.slice a1 n1 c1, .int .i64 1] W fun e w' => e = .returned (.agg #[.int .i64 k', .int .i64 dx, .int .i64 dy, .int .i64 ex, .int .i64 ey, .int .i64 fx, .int .i64 fy]) ∧ Ext W w')
    (MV : ∀ W, Calls Try.prog 16 #[.agg #[.int .i64 k', .int .i64 dx, .int .i64 dy, .int .i64 ex, .int .i64 ey, .int .i64 fx, .int .i64 fy], .agg #[.int .i64 x, .int .i64 y, .int .i64 0, .bool false]] W fun e w' => e = .returned (.agg #[.int .i64 k2, .int .i64 m1, .int .i64 m2, .int .i64 m3, .int .i64 m4, .int .i64 m5, .int .i64 m6]) ∧ Ext W w')
    (B1 : ∀ W, Calls Try.prog 20 #[.agg #[.int .i64 k, .int .i64 ax, .int .i64 ay, .int .i64 bx, .int .i64 by', .int .i64 cx, .int .i64 cy]] W fun e w' => e = .returned (.agg #[.int .i64 x0, .int .i64 y0, .int .i64 x1, .int .i64 y1]) ∧ Ext W w')
    (B2 : ∀ W, Calls Try.prog 20 #[.agg #[.int .i64 k2, .int .i64 m1, .int .i64 m2, .int .i64 m3, .int .i64 m4, .int .i64 m5, .int .i64 m6]] W fun e w' => e = .returned (.agg #[.int .i64 u0, .int .i64 v0, .int .i64 u1, .int .i64 v1]) ∧ Ext W w')
    (O1 : ∀ i j W, Calls Try.prog 18 #[.agg #[.int .i64 k, .int .i64 ax, .int .i64 ay, .int .i64 bx, .int .i64 by', .int .i64 cx, .int .i64 cy], .agg #[.int .i64 i, .int .i64 j]] W fun e w' => e = .returned (.bool (o1 i j)) ∧ Ext W w')
    (O2 : ∀ i j W, Calls Try.prog 18 #[.agg #[.int .i64 k2, .int .i64 m1, .int .i64 m2, .int .i64 m3, .int .i64 m4, .int .i64 m5, .int .i64 m6], .agg #[.int .i64 i, .int .i64 j]] W fun e w' => e = .returned (.bool (o2 i j)) ∧ Ext W w')
    (EM : ∀ W, Calls Try.prog 19 #[.agg #[.int .i64 k, .int .i64 ax, .int .i64 ay, .int .i64 bx, .int .i64 by', .int .i64 cx, .int .i64 cy], .agg #[.int .i64 k2, .int .i64 m1, .int .i64 m2, .int .i64 m3, .int .i64 m4, .int .i64 m5, .int .i64 m6]] W fun e w' => e = .returned (.bool me) ∧ Ext W w')
    (hap : (x1 < u0 ∨ u1 < x0 ∨ y1 < v0 ∨ v1 < y0) → me = false) (hon : ∀ i j, o1 i j = true → o2 i j = true → me = true)
    (z1 : -1000000 ≤ x0 ∧ x0 ≤ 1000000) (z2 : -1000000 ≤ x1 ∧ x1 ≤ 1000000) (z3 : -1000000 ≤ y0 ∧ y0 ≤ 1000000) (z4 : -1000000 ≤ y1 ∧ y1 ≤ 1000000)
    (z5 : -1000000 ≤ u0 ∧ u0 ≤ 1000000) (z6 : -1000000 ≤ u1 ∧ u1 ≤ 1000000) (z7 : -1000000 ≤ v0 ∧ v0 ≤ 1000000) (z8 : -1000000 ≤ v1 ∧ v1 ≤ 1000000) :
    Calls Try.prog 6 #[.slice a0 n0 c0, .slice a1 n1 c1, .agg #[.int .i64 p0, .int .i64 p1]] w fun e w' => e = .returned (.bool true) ∧ Ext w w' := by
  have SN := Lib.hid law_sanity
  replace M1 := Lib.hid M1
  replace M2 := Lib.hid M2
  replace MV := Lib.hid MV
  replace B1 := Lib.hid B1
  replace B2 := Lib.hid B2
  replace O1 := Lib.hid O1
  replace O2 := Lib.hid O2
  replace EM := Lib.hid EM
  have HAP := Lib.hid hap
  have HON := Lib.hid hon
  clear hap hon
  obtain ⟨L1, hL1⟩ : ∃ z, Hid (max x0 u0 = z) := ⟨_, rfl⟩
  obtain ⟨H1, hH1⟩ : ∃ z, Hid (min x1 u1 = z) := ⟨_, rfl⟩
  obtain ⟨L2, hL2⟩ : ∃ z, Hid (max y0 v0 = z) := ⟨_, rfl⟩
  obtain ⟨H2, hH2⟩ : ∃ z, Hid (min y1 v1 = z) := ⟨_, rfl⟩
  have q1 : -1000000 ≤ L1 ∧ L1 ≤ 1000000 := by have := hL1.out; omega
  have q2 : -1000000 ≤ H1 ∧ H1 ≤ 1000000 := by have := hH1.out; omega
  have q3 : -1000000 ≤ L2 ∧ L2 ≤ 1000000 := by have := hL2.out; omega
  have q4 : -1000000 ≤ H2 ∧ H2 ≤ 1000000 := by have := hH2.out; omega
  have r1 : ∀ (ts : Array TypeId) (t : TypeId) (w : World), (Builtin.max_ ts t #[.int .i64 x0, .int .i64 u0]).run Try.prog w = .ok (.int .i64 L1) w := fun ts t w => by rw [run_max2, hL1.out]
  have r2 : ∀ (ts : Array TypeId) (t : TypeId) (w : World), (Builtin.min_ ts t #[.int .i64 x1, .int .i64 u1]).run Try.prog w = .ok (.int .i64 H1) w := fun ts t w => by rw [run_min2, hH1.out]
  have r3 : ∀ (ts : Array TypeId) (t : TypeId) (w : World), (Builtin.max_ ts t #[.int .i64 y0, .int .i64 v0]).run Try.prog w = .ok (.int .i64 L2) w := fun ts t w => by rw [run_max2, hL2.out]
  have r4 : ∀ (ts : Array TypeId) (t : TypeId) (w : World), (Builtin.min_ ts t #[.int .i64 y1, .int .i64 v1]).run Try.prog w = .ok (.int .i64 H2) w := fun ts t w => by rw [run_min2, hH2.out]
  clear z1 z2 z3 z4 z5 z6 z7 z8
  go_enter Try.func6, Try.ntmps6
  go_wp2_with fail
  refine (SN.out _).mono ?_
  rintro e w1 ⟨rfl, hx⟩
  have hx1 : Ext w w1 := Ext.step (by (repeat (first | exact Below.refl _ _ | assumption | refine Below.drewN ?_ _ | refine Below.drew ?_ | refine Below.setCell ?_ (by first | exact Nat.le_refl _ | (simp; done) | (simp; omega) | omega) _ | refine Below.alloc ?_ (by first | exact Nat.le_refl _ | (simp; done) | (simp; omega) | omega) _))) hx
  have hs1 := hx1.size
  have hz_w1 : w.heap.size + 1 ≤ w1.heap.size := Nat.le_trans (by first | omega | (simp; done) | (simp; omega)) hx.size
  have hl_w1_0 : w.heap.size < w1.heap.size := Nat.lt_of_lt_of_le (by omega) hz_w1
  have hk_w1_0 : ∀ o, w1.cell? ⟨w.heap.size, o, none⟩ = _ := fun o => hx.cell (p := ⟨w.heap.size, o, none⟩) (show w.heap.size < _ from (by first | omega | (simp; done) | (simp; omega)))
  have hf_w1_0 : ∀ o, w1.frozen? ⟨w.heap.size, o, none⟩ = _ := fun o => hx.frozen (p := ⟨w.heap.size, o, none⟩) (show w.heap.size < _ from (by first | omega | (simp; done) | (simp; omega)))
  clear hx
  have b0 : w1.cell? ⟨w.heap.size, 0, none⟩ = some (.int .i64 p0) := by go_simp
  have b1 : w1.cell? ⟨w.heap.size, 1, none⟩ = some (.int .i64 p1) := by go_simp
  clear hk_w1_0 hf_w1_0
  go_wp2_with fail
  refine (M1.out _ hx1).mono ?_
  rintro e w2 ⟨rfl, hx⟩
  have hx2 : Ext w w2 := Ext.step hx1 hx
  replace b0 := (hx.cell (p := ⟨w.heap.size, 0, none⟩) hl_w1_0).trans b0
  replace b1 := (hx.cell (p := ⟨w.heap.size, 1, none⟩) hl_w1_0).trans b1
  have l2 : w.heap.size < w2.heap.size := Nat.lt_of_lt_of_le hl_w1_0 hx.size
  have hs2 := hx2.size
  clear hx hx1
  go_upto_region 3 with (fail)
  refine wp_world (fun W => Ext w W ∧ (W.cell? ⟨w.heap.size, 0, none⟩ = some (.int .i64 p0) ∧ W.cell? ⟨w.heap.size, 1, none⟩ = some (.int .i64 p1) ∧ W.cell? ⟨w2.heap.size, 0, none⟩ = some (.int .i64 k) ∧ W.cell? ⟨w2.heap.size, 1, none⟩ = some (.int .i64 ax) ∧ W.cell? ⟨w2.heap.size, 2, none⟩ = some (.int .i64 ay) ∧ W.cell? ⟨w2.heap.size, 3, none⟩ = some (.int .i64 bx) ∧ W.cell? ⟨w2.heap.size, 4, none⟩ = some (.int .i64 by') ∧ W.cell? ⟨w2.heap.size, 5, none⟩ = some (.int .i64 cx) ∧ W.cell? ⟨w2.heap.size, 6, none⟩ = some (.int .i64 cy) ) ∧ w2.heap.size < W.heap.size) ?_ ?_
  · refine ⟨by (repeat (first | exact Below.refl _ _ | assumption | refine Below.drewN ?_ _ | refine Below.drew ?_ | refine Below.setCell ?_ (by first | exact Nat.le_refl _ | (simp; done) | (simp; omega) | omega) _ | refine Below.alloc ?_ (by first | exact Nat.le_refl _ | (simp; done) | (simp; omega) | omega) _)), by go_simp, by simp⟩
  clear b0 b1
  rintro V3 ⟨hx4, ⟨b0, b1, z0, z1, z2, z3, z4, z5, z6⟩, hl⟩
  obtain ⟨A, hA⟩ : ∃ A, Hid (w2.heap.size = A) := ⟨_, rfl⟩
  rw [hA.out] at z0 z1 z2 z3 z4 z5 z6 l2 hl
  rw [hA.out]
  have e0 : w.heap.size < V3.heap.size := by omega
  clear hx2 hs1 hs2
  have hKeep : FKeep (V3.heap.size) (fun W => Ext V3 W ∧ V3.heap.size ≤ W.heap.size ∧ W.cell? ⟨w.heap.size, 0, none⟩ = some (.int .i64 p0) ∧ W.cell? ⟨w.heap.size, 1, none⟩ = some (.int .i64 p1) ∧ W.cell? ⟨A, 0, none⟩ = some (.int .i64 k) ∧ W.cell? ⟨A, 1, none⟩ = some (.int .i64 ax) ∧ W.cell? ⟨A, 2, none⟩ = some (.int .i64 ay) ∧ W.cell? ⟨A, 3, none⟩ = some (.int .i64 bx) ∧ W.cell? ⟨A, 4, none⟩ = some (.int .i64 by') ∧ W.cell? ⟨A, 5, none⟩ = some (.int .i64 cx) ∧ W.cell? ⟨A, 6, none⟩ = some (.int .i64 cy)) := (by intro W W' h hb; obtain ⟨hx, hz, hc⟩ := h; have hbc : ∀ b o, b < _ → W'.cell? ⟨b, o, none⟩ = W.cell? ⟨b, o, none⟩ := fun b o h => hb.cell (p := ⟨b, o, none⟩) h; refine ⟨hx.trans (hb.mono (by omega)), Nat.le_trans hz hb.size, ?_⟩; (try dsimp only at hc ⊢); simp (disch := omega) only [hbc]; exact hc)
  first | refine wp_region_K (V3.heap.size) (fun W => Ext V3 W ∧ V3.heap.size ≤ W.heap.size ∧ W.cell? ⟨w.heap.size, 0, none⟩ = some (.int .i64 p0) ∧ W.cell? ⟨w.heap.size, 1, none⟩ = some (.int .i64 p1) ∧ W.cell? ⟨A, 0, none⟩ = some (.int .i64 k) ∧ W.cell? ⟨A, 1, none⟩ = some (.int .i64 ax) ∧ W.cell? ⟨A, 2, none⟩ = some (.int .i64 ay) ∧ W.cell? ⟨A, 3, none⟩ = some (.int .i64 bx) ∧ W.cell? ⟨A, 4, none⟩ = some (.int .i64 by') ∧ W.cell? ⟨A, 5, none⟩ = some (.int .i64 cx) ∧ W.cell? ⟨A, 6, none⟩ = some (.int .i64 cy)) (by kernel_rfl) (by kernel_rfl) ?_ hKeep (fun _ h => h.2.1) ?_ | refine wp_region_Ks (V3.heap.size) (fun W => Ext V3 W ∧ V3.heap.size ≤ W.heap.size ∧ W.cell? ⟨w.heap.size, 0, none⟩ = some (.int .i64 p0) ∧ W.cell? ⟨w.heap.size, 1, none⟩ = some (.int .i64 p1) ∧ W.cell? ⟨A, 0, none⟩ = some (.int .i64 k) ∧ W.cell? ⟨A, 1, none⟩ = some (.int .i64 ax) ∧ W.cell? ⟨A, 2, none⟩ = some (.int .i64 ay) ∧ W.cell? ⟨A, 3, none⟩ = some (.int .i64 bx) ∧ W.cell? ⟨A, 4, none⟩ = some (.int .i64 by') ∧ W.cell? ⟨A, 5, none⟩ = some (.int .i64 cx) ∧ W.cell? ⟨A, 6, none⟩ = some (.int .i64 cy)) ?_ hKeep (fun _ h => h.2.1) ?_
  · refine ⟨by (repeat (first | exact Below.refl _ _ | assumption | refine Below.drewN ?_ _ | refine Below.drew ?_ | refine Below.setCell ?_ (by first | exact Nat.le_refl _ | (simp; done) | (simp; omega) | omega) _ | refine Below.alloc ?_ (by first | exact Nat.le_refl _ | (simp; done) | (simp; omega) | omega) _)), by first | omega | (simp; done) | (simp; omega), ?_⟩
    go_simp
  repeat (first | (refine F_skip (by rfl) ?_; simp only [Act.put, List.setIfInBounds_toArray, List.set_cons_zero, List.set_cons_succ]) | (refine F_run (v := ?_) (by rfl) ?_ ?_; rotate_left; (· (intro W hW; (try dsimp only at hW); go_simp; try with_reducible rfl)); simp only [Act.put, List.setIfInBounds_toArray, List.set_cons_zero, List.set_cons_succ]))
  (refine F_call (v := .agg #[.int .i64 k', .int .i64 dx, .int .i64 dy, .int .i64 ex, .int .i64 ey, .int .i64 fx, .int .i64 fy]) (by rfl) (by rfl) ?_ ?_; (· (intro W hW; (try dsimp only at hW); go_simp; refine (M2.out _ (hx4.trans (hW.1.mono (by omega)))).mono ?_; rintro e w' ⟨rfl, hx⟩; exact ⟨_, rfl, rfl, hx⟩))); simp only [Act.put, List.setIfInBounds_toArray, List.set_cons_zero, List.set_cons_succ]
  repeat (first | (refine F_skip (by rfl) ?_; simp only [Act.put, List.setIfInBounds_toArray, List.set_cons_zero, List.set_cons_succ]) | (refine F_run (v := ?_) (by rfl) ?_ ?_; rotate_left; (· (intro W hW; (try dsimp only at hW); go_simp; try with_reducible rfl)); simp only [Act.put, List.setIfInBounds_toArray, List.set_cons_zero, List.set_cons_succ]))
  (refine F_call (v := .agg #[.int .i64 k2, .int .i64 m1, .int .i64 m2, .int .i64 m3, .int .i64 m4, .int .i64 m5, .int .i64 m6]) (by rfl) (by rfl) ?_ ?_; (· (intro W hW; (try dsimp only at hW); go_simp; refine (MV.out _).mono ?_; rintro e w' ⟨rfl, hx⟩; exact ⟨_, rfl, rfl, hx⟩))); simp only [Act.put, List.setIfInBounds_toArray, List.set_cons_zero, List.set_cons_succ]
  refine F_alloc (.cells #[.int .i64 0, .int .i64 0, .int .i64 0, .int .i64 0, .int .i64 0, .int .i64 0, .int .i64 0] 27) (by rfl) (by rfl) (by intro W hW; go_simp) ?_
  intro g hg
  simp only [List.mem_cons, List.mem_range, not_or, Nat.not_lt] at hg
  simp only [Act.put, List.setIfInBounds_toArray, List.set_cons_zero, List.set_cons_succ]
  refine F_store7 (fun W => (Ext V3 W ∧ V3.heap.size ≤ W.heap.size ∧ W.cell? ⟨w.heap.size, 0, none⟩ = some (.int .i64 p0) ∧ W.cell? ⟨w.heap.size, 1, none⟩ = some (.int .i64 p1) ∧ W.cell? ⟨A, 0, none⟩ = some (.int .i64 k) ∧ W.cell? ⟨A, 1, none⟩ = some (.int .i64 ax) ∧ W.cell? ⟨A, 2, none⟩ = some (.int .i64 ay) ∧ W.cell? ⟨A, 3, none⟩ = some (.int .i64 bx) ∧ W.cell? ⟨A, 4, none⟩ = some (.int .i64 by') ∧ W.cell? ⟨A, 5, none⟩ = some (.int .i64 cx) ∧ W.cell? ⟨A, 6, none⟩ = some (.int .i64 cy))) g (.int .i64 0) (.int .i64 0) (.int .i64 0) (.int .i64 0) (.int .i64 0) (.int .i64 0) (.int .i64 0) (.int .i64 k2) (.int .i64 m1) (.int .i64 m2) (.int .i64 m3) (.int .i64 m4) (.int .i64 m5) (.int .i64 m6) 27 (by rfl) (by rfl) (by intro W c0 c1 c2 c3 c4 c5 c6 cf; go_simp) (fun W hW => hW) ?_ ?_ ?_ ?_
  · repeat (first | exact hRKS | exact RK.keep hKeep (by assumption) | exact RK.obj (by assumption) | exact RK.nr (by intro z h; cases h) (by intro z h; cases h) | refine RK.and ?_ ?_)
  · repeat (first | exact hSM | exact hKeep.mono (fun _ h => h.2.1) | exact fmono_obj _ _ | exact fmono_nr _ _ _ _ _ | refine FMono.and ?_ ?_)
  · (intro W h; first | exact h | exact h.1 | exact h.1.1 | exact h.1.1.1 | exact h.1.1.1.1)
  simp only [Act.put, List.setIfInBounds_toArray, List.set_cons_zero, List.set_cons_succ]
  rintro V4 ⟨⟨⟨hx5, hz5, hc5⟩, hb5⟩, _⟩
  obtain ⟨⟨f0, f1, f2, f3, f4, f5, f6⟩, _, hlg⟩ := cells7 hb5
  clear hb5 b0 b1 z0 z1 z2 z3 z4 z5 z6 M1 M2 MV hKeep
  obtain ⟨_, _, z0, z1, z2, z3, z4, z5, z6⟩ := hc5
  have hx6 : Ext w V4 := hx4.trans (hx5.mono (by omega))
  have e1 : A < V4.heap.size := by omega
  have gA : A ≠ g := by omega
  have gA' : g ≠ A := by omega
  clear hx5 hx4 e0 hl hz5
  go_wp2_with fail
  have hKeep : FKeep (V4.heap.size) (fun W => Ext V4 W ∧ V4.heap.size ≤ W.heap.size ∧ W.cell? ⟨A, 0, none⟩ = some (.int .i64 k) ∧ W.cell? ⟨A, 1, none⟩ = some (.int .i64 ax) ∧ W.cell? ⟨A, 2, none⟩ = some (.int .i64 ay) ∧ W.cell? ⟨A, 3, none⟩ = some (.int .i64 bx) ∧ W.cell? ⟨A, 4, none⟩ = some (.int .i64 by') ∧ W.cell? ⟨A, 5, none⟩ = some (.int .i64 cx) ∧ W.cell? ⟨A, 6, none⟩ = some (.int .i64 cy) ∧ W.cell? ⟨g, 0, none⟩ = some (.int .i64 k2) ∧ W.cell? ⟨g, 1, none⟩ = some (.int .i64 m1) ∧ W.cell? ⟨g, 2, none⟩ = some (.int .i64 m2) ∧ W.cell? ⟨g, 3, none⟩ = some (.int .i64 m3) ∧ W.cell? ⟨g, 4, none⟩ = some (.int .i64 m4) ∧ W.cell? ⟨g, 5, none⟩ = some (.int .i64 m5) ∧ W.cell? ⟨g, 6, none⟩ = some (.int .i64 m6)) := (by intro W W' h hb; obtain ⟨hx, hz, hc⟩ := h; have hbc : ∀ b o, b < _ → W'.cell? ⟨b, o, none⟩ = W.cell? ⟨b, o, none⟩ := fun b o h => hb.cell (p := ⟨b, o, none⟩) h; refine ⟨hx.trans (hb.mono (by omega)), Nat.le_trans hz hb.size, ?_⟩; (try dsimp only at hc ⊢); simp (disch := omega) only [hbc]; exact hc)
  first | refine wp_region_K (V4.heap.size) (fun W => Ext V4 W ∧ V4.heap.size ≤ W.heap.size ∧ W.cell? ⟨A, 0, none⟩ = some (.int .i64 k) ∧ W.cell? ⟨A, 1, none⟩ = some (.int .i64 ax) ∧ W.cell? ⟨A, 2, none⟩ = some (.int .i64 ay) ∧ W.cell? ⟨A, 3, none⟩ = some (.int .i64 bx) ∧ W.cell? ⟨A, 4, none⟩ = some (.int .i64 by') ∧ W.cell? ⟨A, 5, none⟩ = some (.int .i64 cx) ∧ W.cell? ⟨A, 6, none⟩ = some (.int .i64 cy) ∧ W.cell? ⟨g, 0, none⟩ = some (.int .i64 k2) ∧ W.cell? ⟨g, 1, none⟩ = some (.int .i64 m1) ∧ W.cell? ⟨g, 2, none⟩ = some (.int .i64 m2) ∧ W.cell? ⟨g, 3, none⟩ = some (.int .i64 m3) ∧ W.cell? ⟨g, 4, none⟩ = some (.int .i64 m4) ∧ W.cell? ⟨g, 5, none⟩ = some (.int .i64 m5) ∧ W.cell? ⟨g, 6, none⟩ = some (.int .i64 m6)) (by kernel_rfl) (by kernel_rfl) ?_ hKeep (fun _ h => h.2.1) ?_ | refine wp_region_Ks (V4.heap.size) (fun W => Ext V4 W ∧ V4.heap.size ≤ W.heap.size ∧ W.cell? ⟨A, 0, none⟩ = some (.int .i64 k) ∧ W.cell? ⟨A, 1, none⟩ = some (.int .i64 ax) ∧ W.cell? ⟨A, 2, none⟩ = some (.int .i64 ay) ∧ W.cell? ⟨A, 3, none⟩ = some (.int .i64 bx) ∧ W.cell? ⟨A, 4, none⟩ = some (.int .i64 by') ∧ W.cell? ⟨A, 5, none⟩ = some (.int .i64 cx) ∧ W.cell? ⟨A, 6, none⟩ = some (.int .i64 cy) ∧ W.cell? ⟨g, 0, none⟩ = some (.int .i64 k2) ∧ W.cell? ⟨g, 1, none⟩ = some (.int .i64 m1) ∧ W.cell? ⟨g, 2, none⟩ = some (.int .i64 m2) ∧ W.cell? ⟨g, 3, none⟩ = some (.int .i64 m3) ∧ W.cell? ⟨g, 4, none⟩ = some (.int .i64 m4) ∧ W.cell? ⟨g, 5, none⟩ = some (.int .i64 m5) ∧ W.cell? ⟨g, 6, none⟩ = some (.int .i64 m6)) ?_ hKeep (fun _ h => h.2.1) ?_
  · refine ⟨by (repeat (first | exact Below.refl _ _ | assumption | refine Below.drewN ?_ _ | refine Below.drew ?_ | refine Below.setCell ?_ (by first | exact Nat.le_refl _ | (simp; done) | (simp; omega) | omega) _ | refine Below.alloc ?_ (by first | exact Nat.le_refl _ | (simp; done) | (simp; omega) | omega) _)), by first | omega | (simp; done) | (simp; omega), ?_⟩
    go_simp
  repeat (first | (refine F_skip (by rfl) ?_; simp only [Act.put, List.setIfInBounds_toArray, List.set_cons_zero, List.set_cons_succ]) | (refine F_run (v := ?_) (by rfl) ?_ ?_; rotate_left; (· (intro W hW; (try dsimp only at hW); go_simp; try with_reducible rfl)); simp only [Act.put, List.setIfInBounds_toArray, List.set_cons_zero, List.set_cons_succ]))
  (refine F_call (v := .agg #[.int .i64 x0, .int .i64 y0, .int .i64 x1, .int .i64 y1]) (by rfl) (by rfl) ?_ ?_; (· (intro W hW; (try dsimp only at hW); go_simp; refine (B1.out _).mono ?_; rintro e w' ⟨rfl, hx⟩; exact ⟨_, rfl, rfl, hx⟩))); simp only [Act.put, List.setIfInBounds_toArray, List.set_cons_zero, List.set_cons_succ]
  repeat (first | (refine F_skip (by rfl) ?_; simp only [Act.put, List.setIfInBounds_toArray, List.set_cons_zero, List.set_cons_succ]) | (refine F_run (v := ?_) (by rfl) ?_ ?_; rotate_left; (· (intro W hW; (try dsimp only at hW); go_simp; try with_reducible rfl)); simp only [Act.put, List.setIfInBounds_toArray, List.set_cons_zero, List.set_cons_succ]))
  (refine F_call (v := .agg #[.int .i64 u0, .int .i64 v0, .int .i64 u1, .int .i64 v1]) (by rfl) (by rfl) ?_ ?_; (· (intro W hW; (try dsimp only at hW); go_simp; refine (B2.out _).mono ?_; rintro e w' ⟨rfl, hx⟩; exact ⟨_, rfl, rfl, hx⟩))); simp only [Act.put, List.setIfInBounds_toArray, List.set_cons_zero, List.set_cons_succ]
  refine F_alloc (.cells #[.int .i64 0, .int .i64 0, .int .i64 0, .int .i64 0] 45) (by rfl) (by rfl) (by intro W hW; go_simp) ?_
  intro r hr
  simp only [List.mem_cons, List.mem_range, not_or, Nat.not_lt] at hr
  simp only [Act.put, List.setIfInBounds_toArray, List.set_cons_zero, List.set_cons_succ]
  refine F_alloc (.cells #[.int .i64 0, .int .i64 0, .int .i64 0, .int .i64 0] 45) (by rfl) (by rfl) (by intro W hW; go_simp) ?_
  intro s hs
  simp only [List.mem_cons, List.mem_range, not_or, Nat.not_lt] at hs
  simp only [Act.put, List.setIfInBounds_toArray, List.set_cons_zero, List.set_cons_succ]
  obtain ⟨hrs, hs⟩ := hs
  have hrs' := Ne.symm hrs
  refine F_store4 (fun W => (Ext V4 W ∧ V4.heap.size ≤ W.heap.size ∧ W.cell? ⟨A, 0, none⟩ = some (.int .i64 k) ∧ W.cell? ⟨A, 1, none⟩ = some (.int .i64 ax) ∧ W.cell? ⟨A, 2, none⟩ = some (.int .i64 ay) ∧ W.cell? ⟨A, 3, none⟩ = some (.int .i64 bx) ∧ W.cell? ⟨A, 4, none⟩ = some (.int .i64 by') ∧ W.cell? ⟨A, 5, none⟩ = some (.int .i64 cx) ∧ W.cell? ⟨A, 6, none⟩ = some (.int .i64 cy) ∧ W.cell? ⟨g, 0, none⟩ = some (.int .i64 k2) ∧ W.cell? ⟨g, 1, none⟩ = some (.int .i64 m1) ∧ W.cell? ⟨g, 2, none⟩ = some (.int .i64 m2) ∧ W.cell? ⟨g, 3, none⟩ = some (.int .i64 m3) ∧ W.cell? ⟨g, 4, none⟩ = some (.int .i64 m4) ∧ W.cell? ⟨g, 5, none⟩ = some (.int .i64 m5) ∧ W.cell? ⟨g, 6, none⟩ = some (.int .i64 m6)) ∧ W.heap[s]? = some (.cells #[.int .i64 0, .int .i64 0, .int .i64 0, .int .i64 0] 45)) r (.int .i64 0) (.int .i64 0) (.int .i64 0) (.int .i64 0) (.int .i64 x0) (.int .i64 y0) (.int .i64 x1) (.int .i64 y1) 45 (by rfl) (by rfl) (by intro W c0 c1 c2 c3 cf; go_simp) (fun W hW => ⟨⟨hW.1.1, hW.2⟩, hW.1.2⟩) ?_ ?_ ?_ ?_
  · repeat (first | exact hRKS | exact RK.keep hKeep (by assumption) | exact RK.obj (by assumption) | exact RK.nr (by intro z h; cases h) (by intro z h; cases h) | refine RK.and ?_ ?_)
  · repeat (first | exact hSM | exact hKeep.mono (fun _ h => h.2.1) | exact fmono_obj _ _ | exact fmono_nr _ _ _ _ _ | refine FMono.and ?_ ?_)
  · (intro W h; first | exact h | exact h.1 | exact h.1.1 | exact h.1.1.1 | exact h.1.1.1.1)
  simp only [Act.put, List.setIfInBounds_toArray, List.set_cons_zero, List.set_cons_succ]
  refine F_store4 (fun W => (Ext V4 W ∧ V4.heap.size ≤ W.heap.size ∧ W.cell? ⟨A, 0, none⟩ = some (.int .i64 k) ∧ W.cell? ⟨A, 1, none⟩ = some (.int .i64 ax) ∧ W.cell? ⟨A, 2, none⟩ = some (.int .i64 ay) ∧ W.cell? ⟨A, 3, none⟩ = some (.int .i64 bx) ∧ W.cell? ⟨A, 4, none⟩ = some (.int .i64 by') ∧ W.cell? ⟨A, 5, none⟩ = some (.int .i64 cx) ∧ W.cell? ⟨A, 6, none⟩ = some (.int .i64 cy) ∧ W.cell? ⟨g, 0, none⟩ = some (.int .i64 k2) ∧ W.cell? ⟨g, 1, none⟩ = some (.int .i64 m1) ∧ W.cell? ⟨g, 2, none⟩ = some (.int .i64 m2) ∧ W.cell? ⟨g, 3, none⟩ = some (.int .i64 m3) ∧ W.cell? ⟨g, 4, none⟩ = some (.int .i64 m4) ∧ W.cell? ⟨g, 5, none⟩ = some (.int .i64 m5) ∧ W.cell? ⟨g, 6, none⟩ = some (.int .i64 m6)) ∧ W.heap[r]? = some (.cells #[.int .i64 x0, .int .i64 y0, .int .i64 x1, .int .i64 y1] 45)) s (.int .i64 0) (.int .i64 0) (.int .i64 0) (.int .i64 0) (.int .i64 u0) (.int .i64 v0) (.int .i64 u1) (.int .i64 v1) 45 (by rfl) (by rfl) (by intro W c0 c1 c2 c3 cf; go_simp) (fun W hW => ⟨⟨hW.1.1.1, hW.1.2⟩, hW.1.1.2⟩) ?_ ?_ ?_ ?_
  · repeat (first | exact hRKS | exact RK.keep hKeep (by assumption) | exact RK.obj (by assumption) | exact RK.nr (by intro z h; cases h) (by intro z h; cases h) | refine RK.and ?_ ?_)
  · repeat (first | exact hSM | exact hKeep.mono (fun _ h => h.2.1) | exact fmono_obj _ _ | exact fmono_nr _ _ _ _ _ | refine FMono.and ?_ ?_)
  · (intro W h; first | exact h | exact h.1 | exact h.1.1 | exact h.1.1.1 | exact h.1.1.1.1)
  simp only [Act.put, List.setIfInBounds_toArray, List.set_cons_zero, List.set_cons_succ]
  rintro V5 ⟨⟨⟨⟨hx5, hz5, hc5⟩, hb5⟩, hb6⟩, _⟩
  obtain ⟨⟨h0, h1, h2, h3⟩, _, hlr⟩ := cells4 hb5
  obtain ⟨⟨j0, j1, j2, j3⟩, _, hls⟩ := cells4 hb6
  clear hb5 hb6 z0 z1 z2 z3 z4 z5 z6 f0 f1 f2 f3 f4 f5 f6 B1 B2 hKeep
  obtain ⟨z0, z1, z2, z3, z4, z5, z6, f0, f1, f2, f3, f4, f5, f6⟩ := hc5
  have hx7 : Ext w V5 := hx6.trans (hx5.mono (by have := hx6.size; omega))
  have e2 : A < V5.heap.size := by omega
  have e3 : g < V5.heap.size := by omega
  clear hx5 hx6 hz5 e1 hlg
  obtain ⟨d1, D1⟩ : ∃ b, decide (x1 < u0) = b := ⟨_, rfl⟩
  obtain ⟨d2, D2⟩ : ∃ b, decide (u1 < x0) = b := ⟨_, rfl⟩
  obtain ⟨d3, D3⟩ : ∃ b, decide (y1 < v0) = b := ⟨_, rfl⟩
  obtain ⟨d4, D4⟩ : ∃ b, decide (v1 < y0) = b := ⟨_, rfl⟩
  have HA : Hid ((d1 || d2 || d3 || d4) = true → me = false) := by
    show _ → _
    intro h
    apply HAP.out
    rw [← D1, ← D2, ← D3, ← D4] at h
    simpa [or_assoc] using h
  cases d1
  rotate_left
  · have hm : me = false := HA.out (by rfl)
    subst hm
    clear HA HAP HON O1 O2 q1 q2 q3 q4 r1 r2 r3 r4
    go_wp2_with fail
    refine (EM.out _).mono ?_
    rintro e w6 ⟨rfl, hx⟩
    have hx8 : Ext w w6 := Ext.step hx7 hx
    clear hx
    go_wp2
    go_ret
    exact ⟨rfl, hx8⟩
  cases d2
  rotate_left
  · have hm : me = false := HA.out (by rfl)
    subst hm
    clear HA HAP HON O1 O2 q1 q2 q3 q4 r1 r2 r3 r4
    go_wp2_with fail
    refine (EM.out _).mono ?_
    rintro e w6 ⟨rfl, hx⟩
    have hx8 : Ext w w6 := Ext.step hx7 hx
    clear hx
    go_wp2
    go_ret
    exact ⟨rfl, hx8⟩
  cases d3
  rotate_left
  · have hm : me = false := HA.out (by rfl)
    subst hm
    clear HA HAP HON O1 O2 q1 q2 q3 q4 r1 r2 r3 r4
    go_wp2_with fail
    refine (EM.out _).mono ?_
    rintro e w6 ⟨rfl, hx⟩
    have hx8 : Ext w w6 := Ext.step hx7 hx
    clear hx
    go_wp2
    go_ret
    exact ⟨rfl, hx8⟩
  cases d4
  rotate_left
  · have hm : me = false := HA.out (by rfl)
    subst hm
    clear HA HAP HON O1 O2 q1 q2 q3 q4 r1 r2 r3 r4
    go_wp2_with fail
    refine (EM.out _).mono ?_
    rintro e w6 ⟨rfl, hx⟩
    have hx8 : Ext w w6 := Ext.step hx7 hx
    clear hx
    go_wp2
    go_ret
    exact ⟨rfl, hx8⟩
  clear HA HAP hL1 hL2 hH1 hH2
  go_wp2
  go_loopw [13] (fun i wr => (Ext w wr ∧ V5.heap.size ≤ wr.heap.size) ∧ ((fun W => (W.cell? ⟨A, 0, none⟩ = some (.int .i64 k) ∧ W.cell? ⟨A, 1, none⟩ = some (.int .i64 ax) ∧ W.cell? ⟨A, 2, none⟩ = some (.int .i64 ay) ∧ W.cell? ⟨A, 3, none⟩ = some (.int .i64 bx) ∧ W.cell? ⟨A, 4, none⟩ = some (.int .i64 by') ∧ W.cell? ⟨A, 5, none⟩ = some (.int .i64 cx) ∧ W.cell? ⟨A, 6, none⟩ = some (.int .i64 cy) ∧ W.cell? ⟨g, 0, none⟩ = some (.int .i64 k2) ∧ W.cell? ⟨g, 1, none⟩ = some (.int .i64 m1) ∧ W.cell? ⟨g, 2, none⟩ = some (.int .i64 m2) ∧ W.cell? ⟨g, 3, none⟩ = some (.int .i64 m3) ∧ W.cell? ⟨g, 4, none⟩ = some (.int .i64 m4) ∧ W.cell? ⟨g, 5, none⟩ = some (.int .i64 m5) ∧ W.cell? ⟨g, 6, none⟩ = some (.int .i64 m6) ∧ W.cell? ⟨r, 0, none⟩ = some (.int .i64 x0) ∧ W.cell? ⟨r, 1, none⟩ = some (.int .i64 y0) ∧ W.cell? ⟨r, 2, none⟩ = some (.int .i64 x1) ∧ W.cell? ⟨r, 3, none⟩ = some (.int .i64 y1) ∧ W.cell? ⟨s, 0, none⟩ = some (.int .i64 u0) ∧ W.cell? ⟨s, 1, none⟩ = some (.int .i64 v0) ∧ W.cell? ⟨s, 2, none⟩ = some (.int .i64 u1) ∧ W.cell? ⟨s, 3, none⟩ = some (.int .i64 v1) )) wr) ∧ ∃ n : Int, i = .int .i64 n ∧ L1 ≤ n ∧ n ≤ max L1 (H1 + 1)) (fun i _ => (H1 + 1 - intOf i).toNat)
  case atStart =>
    refine ⟨⟨hx7, Nat.le_refl _⟩, ?_, L1, rfl, Int.le_refl _, by omega⟩
    (try dsimp only)
    go_simp
  case round =>
    obtain ⟨⟨hxr, hzr⟩, hcr, n, rfl, hn1, hn2⟩ := hrel
    (try dsimp only at hcr)
    clear z0 z1 z2 z3 z4 z5 z6 f0 f1 f2 f3 f4 f5 f6 h0 h1 h2 h3 j0 j1 j2 j3
    obtain ⟨z0, z1, z2, z3, z4, z5, z6, f0, f1, f2, f3, f4, f5, f6, h0, h1, h2, h3, j0, j1, j2, j3⟩ := hcr
    obtain ⟨wo, hwo⟩ : ∃ wo, wo = wr := ⟨_, rfl⟩
    subst hwo
    have i2 : A < wo.heap.size := by omega
    have i3 : g < wo.heap.size := by omega
    have i4 : r < wo.heap.size := by omega
    have i5 : s < wo.heap.size := by omega
    by_cases hle : n ≤ H1
    · have dn : decide (n ≤ H1) = true := by simpa using hle
      have wn : IntKind.i64.wrap (n + 1) = n + 1 := wrap_in (by unfold I64; omega)
      go_wp2
      go_loopw [14] (fun j wq => (Ext w wq ∧ V5.heap.size ≤ wq.heap.size) ∧ ((fun W => (W.cell? ⟨A, 0, none⟩ = some (.int .i64 k) ∧ W.cell? ⟨A, 1, none⟩ = some (.int .i64 ax) ∧ W.cell? ⟨A, 2, none⟩ = some (.int .i64 ay) ∧ W.cell? ⟨A, 3, none⟩ = some (.int .i64 bx) ∧ W.cell? ⟨A, 4, none⟩ = some (.int .i64 by') ∧ W.cell? ⟨A, 5, none⟩ = some (.int .i64 cx) ∧ W.cell? ⟨A, 6, none⟩ = some (.int .i64 cy) ∧ W.cell? ⟨g, 0, none⟩ = some (.int .i64 k2) ∧ W.cell? ⟨g, 1, none⟩ = some (.int .i64 m1) ∧ W.cell? ⟨g, 2, none⟩ = some (.int .i64 m2) ∧ W.cell? ⟨g, 3, none⟩ = some (.int .i64 m3) ∧ W.cell? ⟨g, 4, none⟩ = some (.int .i64 m4) ∧ W.cell? ⟨g, 5, none⟩ = some (.int .i64 m5) ∧ W.cell? ⟨g, 6, none⟩ = some (.int .i64 m6) ∧ W.cell? ⟨r, 0, none⟩ = some (.int .i64 x0) ∧ W.cell? ⟨r, 1, none⟩ = some (.int .i64 y0) ∧ W.cell? ⟨r, 2, none⟩ = some (.int .i64 x1) ∧ W.cell? ⟨r, 3, none⟩ = some (.int .i64 y1) ∧ W.cell? ⟨s, 0, none⟩ = some (.int .i64 u0) ∧ W.cell? ⟨s, 1, none⟩ = some (.int .i64 v0) ∧ W.cell? ⟨s, 2, none⟩ = some (.int .i64 u1) ∧ W.cell? ⟨s, 3, none⟩ = some (.int .i64 v1) )) wq) ∧ ∃ m : Int, j = .int .i64 m ∧ L2 ≤ m ∧ m ≤ max L2 (H2 + 1)) (fun j _ => (H2 + 1 - intOf j).toNat)
      case atStart =>
        refine ⟨⟨hxr, hzr⟩, ?_, L2, rfl, Int.le_refl _, by omega⟩
        (try dsimp only)
        go_simp
      case round =>
        obtain ⟨⟨hxq, hzq⟩, hcq, m, rfl, hm1, hm2⟩ := hrel
        (try dsimp only at hcq)
        clear z0 z1 z2 z3 z4 z5 z6 f0 f1 f2 f3 f4 f5 f6 h0 h1 h2 h3 j0 j1 j2 j3 i2 i3 i4 i5
        obtain ⟨z0, z1, z2, z3, z4, z5, z6, f0, f1, f2, f3, f4, f5, f6, h0, h1, h2, h3, j0, j1, j2, j3⟩ := hcq
        have i2 : A < wr.heap.size := by omega
        have i3 : g < wr.heap.size := by omega
        have i4 : r < wr.heap.size := by omega
        have i5 : s < wr.heap.size := by omega
        by_cases hle2 : m ≤ H2
        · have dm : decide (m ≤ H2) = true := by simpa using hle2
          have wm : IntKind.i64.wrap (m + 1) = m + 1 := wrap_in (by unfold I64; omega)
          have ON1 := Lib.hid (O1.out n m)
          have ON2 := Lib.hid (O2.out n m)
          have HM := Lib.hid (HON.out n m)
          obtain ⟨t1, T1⟩ : ∃ b, o1 n m = b := ⟨_, rfl⟩
          obtain ⟨t2, T2⟩ : ∃ b, o2 n m = b := ⟨_, rfl⟩
          rw [T1, T2] at HM
          rw [T1] at ON1
          rw [T2] at ON2
          clear T1 T2
          go_upto_region 15 with (fail)
          cases t1
          · skip
            first | refine wp_region_FC (fun W => W.cell? ⟨A, 0, none⟩ = some (.int .i64 k) ∧ W.cell? ⟨A, 1, none⟩ = some (.int .i64 ax) ∧ W.cell? ⟨A, 2, none⟩ = some (.int .i64 ay) ∧ W.cell? ⟨A, 3, none⟩ = some (.int .i64 bx) ∧ W.cell? ⟨A, 4, none⟩ = some (.int .i64 by') ∧ W.cell? ⟨A, 5, none⟩ = some (.int .i64 cx) ∧ W.cell? ⟨A, 6, none⟩ = some (.int .i64 cy) ∧ W.cell? ⟨g, 0, none⟩ = some (.int .i64 k2) ∧ W.cell? ⟨g, 1, none⟩ = some (.int .i64 m1) ∧ W.cell? ⟨g, 2, none⟩ = some (.int .i64 m2) ∧ W.cell? ⟨g, 3, none⟩ = some (.int .i64 m3) ∧ W.cell? ⟨g, 4, none⟩ = some (.int .i64 m4) ∧ W.cell? ⟨g, 5, none⟩ = some (.int .i64 m5) ∧ W.cell? ⟨g, 6, none⟩ = some (.int .i64 m6) ∧ W.cell? ⟨r, 0, none⟩ = some (.int .i64 x0) ∧ W.cell? ⟨r, 1, none⟩ = some (.int .i64 y0) ∧ W.cell? ⟨r, 2, none⟩ = some (.int .i64 x1) ∧ W.cell? ⟨r, 3, none⟩ = some (.int .i64 y1) ∧ W.cell? ⟨s, 0, none⟩ = some (.int .i64 u0) ∧ W.cell? ⟨s, 1, none⟩ = some (.int .i64 v0) ∧ W.cell? ⟨s, 2, none⟩ = some (.int .i64 u1) ∧ W.cell? ⟨s, 3, none⟩ = some (.int .i64 v1) ∧ W.cell? ⟨wr.heap.size, 0, none⟩ = some (.int .i64 n) ∧ W.cell? ⟨wr.heap.size, 1, none⟩ = some (.int .i64 m)) (by kernel_rfl) (by kernel_rfl) ?_ ?_ ?_ | refine wp_region_FCs (fun W => W.cell? ⟨A, 0, none⟩ = some (.int .i64 k) ∧ W.cell? ⟨A, 1, none⟩ = some (.int .i64 ax) ∧ W.cell? ⟨A, 2, none⟩ = some (.int .i64 ay) ∧ W.cell? ⟨A, 3, none⟩ = some (.int .i64 bx) ∧ W.cell? ⟨A, 4, none⟩ = some (.int .i64 by') ∧ W.cell? ⟨A, 5, none⟩ = some (.int .i64 cx) ∧ W.cell? ⟨A, 6, none⟩ = some (.int .i64 cy) ∧ W.cell? ⟨g, 0, none⟩ = some (.int .i64 k2) ∧ W.cell? ⟨g, 1, none⟩ = some (.int .i64 m1) ∧ W.cell? ⟨g, 2, none⟩ = some (.int .i64 m2) ∧ W.cell? ⟨g, 3, none⟩ = some (.int .i64 m3) ∧ W.cell? ⟨g, 4, none⟩ = some (.int .i64 m4) ∧ W.cell? ⟨g, 5, none⟩ = some (.int .i64 m5) ∧ W.cell? ⟨g, 6, none⟩ = some (.int .i64 m6) ∧ W.cell? ⟨r, 0, none⟩ = some (.int .i64 x0) ∧ W.cell? ⟨r, 1, none⟩ = some (.int .i64 y0) ∧ W.cell? ⟨r, 2, none⟩ = some (.int .i64 x1) ∧ W.cell? ⟨r, 3, none⟩ = some (.int .i64 y1) ∧ W.cell? ⟨s, 0, none⟩ = some (.int .i64 u0) ∧ W.cell? ⟨s, 1, none⟩ = some (.int .i64 v0) ∧ W.cell? ⟨s, 2, none⟩ = some (.int .i64 u1) ∧ W.cell? ⟨s, 3, none⟩ = some (.int .i64 v1) ∧ W.cell? ⟨wr.heap.size, 0, none⟩ = some (.int .i64 n) ∧ W.cell? ⟨wr.heap.size, 1, none⟩ = some (.int .i64 m)) ?_ ?_ ?_
            · go_simp
            · (intro W W' h hx hb; have hs := hx.size; (try simp at hs); have hbc : ∀ b o, b < W.heap.size → W'.cell? ⟨b, o, none⟩ = W.cell? ⟨b, o, none⟩ := fun b o h => hb.cell (p := ⟨b, o, none⟩) h; (try dsimp only at h ⊢); simp (disch := omega) only [hbc]; exact h)
            repeat (first | (refine F_skip (by rfl) ?_; simp only [Act.put, List.setIfInBounds_toArray, List.set_cons_zero, List.set_cons_succ]) | (refine F_run (v := ?_) (by rfl) ?_ ?_; rotate_left; (· (intro W hW; (try dsimp only at hW); go_simp; try with_reducible rfl)); simp only [Act.put, List.setIfInBounds_toArray, List.set_cons_zero, List.set_cons_succ]))
            (refine F_call (v := .bool false) (by rfl) (by rfl) ?_ ?_; (· (intro W hW; (try dsimp only at hW); go_simp; refine (ON1.out _).mono ?_; rintro e w' ⟨rfl, hx⟩; exact ⟨_, rfl, rfl, hx⟩))); simp only [Act.put, List.setIfInBounds_toArray, List.set_cons_zero, List.set_cons_succ]
            repeat (first | (refine F_skip (by rfl) ?_; simp only [Act.put, List.setIfInBounds_toArray, List.set_cons_zero, List.set_cons_succ]) | (refine F_run (v := ?_) (by rfl) ?_ ?_; rotate_left; (· (intro W hW; (try dsimp only at hW); go_simp; try with_reducible rfl)); simp only [Act.put, List.setIfInBounds_toArray, List.set_cons_zero, List.set_cons_succ]))
            rintro W ⟨hx, hc⟩
            clear z0 z1 z2 z3 z4 z5 z6 f0 f1 f2 f3 f4 f5 f6 h0 h1 h2 h3 j0 j1 j2 j3 ON1 ON2 HM
            have hx0 : Ext w W := Ext.step (by (repeat (first | exact Below.refl _ _ | assumption | refine Below.drewN ?_ _ | refine Below.drew ?_ | refine Below.setCell ?_ (by first | exact Nat.le_refl _ | (simp; done) | (simp; omega) | omega) _ | refine Below.alloc ?_ (by first | exact Nat.le_refl _ | (simp; done) | (simp; omega) | omega) _))) hx
            have hzW := hx.size
            obtain ⟨z0, z1, z2, z3, z4, z5, z6, f0, f1, f2, f3, f4, f5, f6, h0, h1, h2, h3, j0, j1, j2, j3, _⟩ := hc
            clear hx
            go_wp2
            refine ⟨⟨⟨hx0, by simp at hzW; omega⟩, ?_, m + 1, rfl, by omega, by omega⟩, by simp [intOf]; omega⟩
            (try dsimp only)
            go_simp
          · cases t2
            · skip
              first | refine wp_region_FC (fun W => W.cell? ⟨A, 0, none⟩ = some (.int .i64 k) ∧ W.cell? ⟨A, 1, none⟩ = some (.int .i64 ax) ∧ W.cell? ⟨A, 2, none⟩ = some (.int .i64 ay) ∧ W.cell? ⟨A, 3, none⟩ = some (.int .i64 bx) ∧ W.cell? ⟨A, 4, none⟩ = some (.int .i64 by') ∧ W.cell? ⟨A, 5, none⟩ = some (.int .i64 cx) ∧ W.cell? ⟨A, 6, none⟩ = some (.int .i64 cy) ∧ W.cell? ⟨g, 0, none⟩ = some (.int .i64 k2) ∧ W.cell? ⟨g, 1, none⟩ = some (.int .i64 m1) ∧ W.cell? ⟨g, 2, none⟩ = some (.int .i64 m2) ∧ W.cell? ⟨g, 3, none⟩ = some (.int .i64 m3) ∧ W.cell? ⟨g, 4, none⟩ = some (.int .i64 m4) ∧ W.cell? ⟨g, 5, none⟩ = some (.int .i64 m5) ∧ W.cell? ⟨g, 6, none⟩ = some (.int .i64 m6) ∧ W.cell? ⟨r, 0, none⟩ = some (.int .i64 x0) ∧ W.cell? ⟨r, 1, none⟩ = some (.int .i64 y0) ∧ W.cell? ⟨r, 2, none⟩ = some (.int .i64 x1) ∧ W.cell? ⟨r, 3, none⟩ = some (.int .i64 y1) ∧ W.cell? ⟨s, 0, none⟩ = some (.int .i64 u0) ∧ W.cell? ⟨s, 1, none⟩ = some (.int .i64 v0) ∧ W.cell? ⟨s, 2, none⟩ = some (.int .i64 u1) ∧ W.cell? ⟨s, 3, none⟩ = some (.int .i64 v1) ∧ W.cell? ⟨wr.heap.size, 0, none⟩ = some (.int .i64 n) ∧ W.cell? ⟨wr.heap.size, 1, none⟩ = some (.int .i64 m)) (by kernel_rfl) (by kernel_rfl) ?_ ?_ ?_ | refine wp_region_FCs (fun W => W.cell? ⟨A, 0, none⟩ = some (.int .i64 k) ∧ W.cell? ⟨A, 1, none⟩ = some (.int .i64 ax) ∧ W.cell? ⟨A, 2, none⟩ = some (.int .i64 ay) ∧ W.cell? ⟨A, 3, none⟩ = some (.int .i64 bx) ∧ W.cell? ⟨A, 4, none⟩ = some (.int .i64 by') ∧ W.cell? ⟨A, 5, none⟩ = some (.int .i64 cx) ∧ W.cell? ⟨A, 6, none⟩ = some (.int .i64 cy) ∧ W.cell? ⟨g, 0, none⟩ = some (.int .i64 k2) ∧ W.cell? ⟨g, 1, none⟩ = some (.int .i64 m1) ∧ W.cell? ⟨g, 2, none⟩ = some (.int .i64 m2) ∧ W.cell? ⟨g, 3, none⟩ = some (.int .i64 m3) ∧ W.cell? ⟨g, 4, none⟩ = some (.int .i64 m4) ∧ W.cell? ⟨g, 5, none⟩ = some (.int .i64 m5) ∧ W.cell? ⟨g, 6, none⟩ = some (.int .i64 m6) ∧ W.cell? ⟨r, 0, none⟩ = some (.int .i64 x0) ∧ W.cell? ⟨r, 1, none⟩ = some (.int .i64 y0) ∧ W.cell? ⟨r, 2, none⟩ = some (.int .i64 x1) ∧ W.cell? ⟨r, 3, none⟩ = some (.int .i64 y1) ∧ W.cell? ⟨s, 0, none⟩ = some (.int .i64 u0) ∧ W.cell? ⟨s, 1, none⟩ = some (.int .i64 v0) ∧ W.cell? ⟨s, 2, none⟩ = some (.int .i64 u1) ∧ W.cell? ⟨s, 3, none⟩ = some (.int .i64 v1) ∧ W.cell? ⟨wr.heap.size, 0, none⟩ = some (.int .i64 n) ∧ W.cell? ⟨wr.heap.size, 1, none⟩ = some (.int .i64 m)) ?_ ?_ ?_
              · go_simp
              · (intro W W' h hx hb; have hs := hx.size; (try simp at hs); have hbc : ∀ b o, b < W.heap.size → W'.cell? ⟨b, o, none⟩ = W.cell? ⟨b, o, none⟩ := fun b o h => hb.cell (p := ⟨b, o, none⟩) h; (try dsimp only at h ⊢); simp (disch := omega) only [hbc]; exact h)
              repeat (first | (refine F_skip (by rfl) ?_; simp only [Act.put, List.setIfInBounds_toArray, List.set_cons_zero, List.set_cons_succ]) | (refine F_run (v := ?_) (by rfl) ?_ ?_; rotate_left; (· (intro W hW; (try dsimp only at hW); go_simp; try with_reducible rfl)); simp only [Act.put, List.setIfInBounds_toArray, List.set_cons_zero, List.set_cons_succ]))
              (refine F_call (v := .bool true) (by rfl) (by rfl) ?_ ?_; (· (intro W hW; (try dsimp only at hW); go_simp; refine (ON1.out _).mono ?_; rintro e w' ⟨rfl, hx⟩; exact ⟨_, rfl, rfl, hx⟩))); simp only [Act.put, List.setIfInBounds_toArray, List.set_cons_zero, List.set_cons_succ]
              repeat (first | (refine F_skip (by rfl) ?_; simp only [Act.put, List.setIfInBounds_toArray, List.set_cons_zero, List.set_cons_succ]) | (refine F_run (v := ?_) (by rfl) ?_ ?_; rotate_left; (· (intro W hW; (try dsimp only at hW); go_simp; try with_reducible rfl)); simp only [Act.put, List.setIfInBounds_toArray, List.set_cons_zero, List.set_cons_succ]))
              (refine F_call (v := .bool false) (by rfl) (by rfl) ?_ ?_; (· (intro W hW; (try dsimp only at hW); go_simp; refine (ON2.out _).mono ?_; rintro e w' ⟨rfl, hx⟩; exact ⟨_, rfl, rfl, hx⟩))); simp only [Act.put, List.setIfInBounds_toArray, List.set_cons_zero, List.set_cons_succ]
              repeat (first | (refine F_skip (by rfl) ?_; simp only [Act.put, List.setIfInBounds_toArray, List.set_cons_zero, List.set_cons_succ]) | (refine F_run (v := ?_) (by rfl) ?_ ?_; rotate_left; (· (intro W hW; (try dsimp only at hW); go_simp; try with_reducible rfl)); simp only [Act.put, List.setIfInBounds_toArray, List.set_cons_zero, List.set_cons_succ]))
              rintro W ⟨hx, hc⟩
              clear z0 z1 z2 z3 z4 z5 z6 f0 f1 f2 f3 f4 f5 f6 h0 h1 h2 h3 j0 j1 j2 j3 ON1 ON2 HM
              have hx0 : Ext w W := Ext.step (by (repeat (first | exact Below.refl _ _ | assumption | refine Below.drewN ?_ _ | refine Below.drew ?_ | refine Below.setCell ?_ (by first | exact Nat.le_refl _ | (simp; done) | (simp; omega) | omega) _ | refine Below.alloc ?_ (by first | exact Nat.le_refl _ | (simp; done) | (simp; omega) | omega) _))) hx
              have hzW := hx.size
              obtain ⟨z0, z1, z2, z3, z4, z5, z6, f0, f1, f2, f3, f4, f5, f6, h0, h1, h2, h3, j0, j1, j2, j3, _⟩ := hc
              clear hx
              go_wp2
              refine ⟨⟨⟨hx0, by simp at hzW; omega⟩, ?_, m + 1, rfl, by omega, by omega⟩, by simp [intOf]; omega⟩
              (try dsimp only)
              go_simp
            · have hme : me = true := HM.out rfl rfl
              subst hme
              first | refine wp_region_FC (fun W => W.cell? ⟨A, 0, none⟩ = some (.int .i64 k) ∧ W.cell? ⟨A, 1, none⟩ = some (.int .i64 ax) ∧ W.cell? ⟨A, 2, none⟩ = some (.int .i64 ay) ∧ W.cell? ⟨A, 3, none⟩ = some (.int .i64 bx) ∧ W.cell? ⟨A, 4, none⟩ = some (.int .i64 by') ∧ W.cell? ⟨A, 5, none⟩ = some (.int .i64 cx) ∧ W.cell? ⟨A, 6, none⟩ = some (.int .i64 cy) ∧ W.cell? ⟨g, 0, none⟩ = some (.int .i64 k2) ∧ W.cell? ⟨g, 1, none⟩ = some (.int .i64 m1) ∧ W.cell? ⟨g, 2, none⟩ = some (.int .i64 m2) ∧ W.cell? ⟨g, 3, none⟩ = some (.int .i64 m3) ∧ W.cell? ⟨g, 4, none⟩ = some (.int .i64 m4) ∧ W.cell? ⟨g, 5, none⟩ = some (.int .i64 m5) ∧ W.cell? ⟨g, 6, none⟩ = some (.int .i64 m6) ∧ W.cell? ⟨r, 0, none⟩ = some (.int .i64 x0) ∧ W.cell? ⟨r, 1, none⟩ = some (.int .i64 y0) ∧ W.cell? ⟨r, 2, none⟩ = some (.int .i64 x1) ∧ W.cell? ⟨r, 3, none⟩ = some (.int .i64 y1) ∧ W.cell? ⟨s, 0, none⟩ = some (.int .i64 u0) ∧ W.cell? ⟨s, 1, none⟩ = some (.int .i64 v0) ∧ W.cell? ⟨s, 2, none⟩ = some (.int .i64 u1) ∧ W.cell? ⟨s, 3, none⟩ = some (.int .i64 v1) ∧ W.cell? ⟨wr.heap.size, 0, none⟩ = some (.int .i64 n) ∧ W.cell? ⟨wr.heap.size, 1, none⟩ = some (.int .i64 m)) (by kernel_rfl) (by kernel_rfl) ?_ ?_ ?_ | refine wp_region_FCs (fun W => W.cell? ⟨A, 0, none⟩ = some (.int .i64 k) ∧ W.cell? ⟨A, 1, none⟩ = some (.int .i64 ax) ∧ W.cell? ⟨A, 2, none⟩ = some (.int .i64 ay) ∧ W.cell? ⟨A, 3, none⟩ = some (.int .i64 bx) ∧ W.cell? ⟨A, 4, none⟩ = some (.int .i64 by') ∧ W.cell? ⟨A, 5, none⟩ = some (.int .i64 cx) ∧ W.cell? ⟨A, 6, none⟩ = some (.int .i64 cy) ∧ W.cell? ⟨g, 0, none⟩ = some (.int .i64 k2) ∧ W.cell? ⟨g, 1, none⟩ = some (.int .i64 m1) ∧ W.cell? ⟨g, 2, none⟩ = some (.int .i64 m2) ∧ W.cell? ⟨g, 3, none⟩ = some (.int .i64 m3) ∧ W.cell? ⟨g, 4, none⟩ = some (.int .i64 m4) ∧ W.cell? ⟨g, 5, none⟩ = some (.int .i64 m5) ∧ W.cell? ⟨g, 6, none⟩ = some (.int .i64 m6) ∧ W.cell? ⟨r, 0, none⟩ = some (.int .i64 x0) ∧ W.cell? ⟨r, 1, none⟩ = some (.int .i64 y0) ∧ W.cell? ⟨r, 2, none⟩ = some (.int .i64 x1) ∧ W.cell? ⟨r, 3, none⟩ = some (.int .i64 y1) ∧ W.cell? ⟨s, 0, none⟩ = some (.int .i64 u0) ∧ W.cell? ⟨s, 1, none⟩ = some (.int .i64 v0) ∧ W.cell? ⟨s, 2, none⟩ = some (.int .i64 u1) ∧ W.cell? ⟨s, 3, none⟩ = some (.int .i64 v1) ∧ W.cell? ⟨wr.heap.size, 0, none⟩ = some (.int .i64 n) ∧ W.cell? ⟨wr.heap.size, 1, none⟩ = some (.int .i64 m)) ?_ ?_ ?_
              · go_simp
              · (intro W W' h hx hb; have hs := hx.size; (try simp at hs); have hbc : ∀ b o, b < W.heap.size → W'.cell? ⟨b, o, none⟩ = W.cell? ⟨b, o, none⟩ := fun b o h => hb.cell (p := ⟨b, o, none⟩) h; (try dsimp only at h ⊢); simp (disch := omega) only [hbc]; exact h)
              repeat (first | (refine F_skip (by rfl) ?_; simp only [Act.put, List.setIfInBounds_toArray, List.set_cons_zero, List.set_cons_succ]) | (refine F_run (v := ?_) (by rfl) ?_ ?_; rotate_left; (· (intro W hW; (try dsimp only at hW); go_simp; try with_reducible rfl)); simp only [Act.put, List.setIfInBounds_toArray, List.set_cons_zero, List.set_cons_succ]))
              (refine F_call (v := .bool true) (by rfl) (by rfl) ?_ ?_; (· (intro W hW; (try dsimp only at hW); go_simp; refine (ON1.out _).mono ?_; rintro e w' ⟨rfl, hx⟩; exact ⟨_, rfl, rfl, hx⟩))); simp only [Act.put, List.setIfInBounds_toArray, List.set_cons_zero, List.set_cons_succ]
              repeat (first | (refine F_skip (by rfl) ?_; simp only [Act.put, List.setIfInBounds_toArray, List.set_cons_zero, List.set_cons_succ]) | (refine F_run (v := ?_) (by rfl) ?_ ?_; rotate_left; (· (intro W hW; (try dsimp only at hW); go_simp; try with_reducible rfl)); simp only [Act.put, List.setIfInBounds_toArray, List.set_cons_zero, List.set_cons_succ]))
              (refine F_call (v := .bool true) (by rfl) (by rfl) ?_ ?_; (· (intro W hW; (try dsimp only at hW); go_simp; refine (ON2.out _).mono ?_; rintro e w' ⟨rfl, hx⟩; exact ⟨_, rfl, rfl, hx⟩))); simp only [Act.put, List.setIfInBounds_toArray, List.set_cons_zero, List.set_cons_succ]
              repeat (first | (refine F_skip (by rfl) ?_; simp only [Act.put, List.setIfInBounds_toArray, List.set_cons_zero, List.set_cons_succ]) | (refine F_run (v := ?_) (by rfl) ?_ ?_; rotate_left; (· (intro W hW; (try dsimp only at hW); go_simp; try with_reducible rfl)); simp only [Act.put, List.setIfInBounds_toArray, List.set_cons_zero, List.set_cons_succ]))
              (refine F_call (v := .bool true) (by rfl) (by rfl) ?_ ?_; (· (intro W hW; (try dsimp only at hW); go_simp; refine (EM.out _).mono ?_; rintro e w' ⟨rfl, hx⟩; exact ⟨_, rfl, rfl, hx⟩))); simp only [Act.put, List.setIfInBounds_toArray, List.set_cons_zero, List.set_cons_succ]
              repeat (first | (refine F_skip (by rfl) ?_; simp only [Act.put, List.setIfInBounds_toArray, List.set_cons_zero, List.set_cons_succ]) | (refine F_run (v := ?_) (by rfl) ?_ ?_; rotate_left; (· (intro W hW; (try dsimp only at hW); go_simp; try with_reducible rfl)); simp only [Act.put, List.setIfInBounds_toArray, List.set_cons_zero, List.set_cons_succ]))
              rintro W ⟨hx, hc⟩
              clear z0 z1 z2 z3 z4 z5 z6 f0 f1 f2 f3 f4 f5 f6 h0 h1 h2 h3 j0 j1 j2 j3 ON1 ON2 HM
              have hx0 : Ext w W := Ext.step (by (repeat (first | exact Below.refl _ _ | assumption | refine Below.drewN ?_ _ | refine Below.drew ?_ | refine Below.setCell ?_ (by first | exact Nat.le_refl _ | (simp; done) | (simp; omega) | omega) _ | refine Below.alloc ?_ (by first | exact Nat.le_refl _ | (simp; done) | (simp; omega) | omega) _))) hx
              have hzW := hx.size
              obtain ⟨z0, z1, z2, z3, z4, z5, z6, f0, f1, f2, f3, f4, f5, f6, h0, h1, h2, h3, j0, j1, j2, j3, _⟩ := hc
              clear hx
              go_wp2
              refine ⟨⟨⟨hx0, by simp at hzW; omega⟩, ?_, m + 1, rfl, by omega, by omega⟩, by simp [intOf]; omega⟩
              (try dsimp only)
              go_simp
        · have dm : decide (m ≤ H2) = false := by simpa using hle2
          go_wp2
          refine ⟨⟨⟨hxq, hzq⟩, ?_, n + 1, rfl, by omega, by omega⟩, by simp [intOf]; omega⟩
          (try dsimp only)
          go_simp
    · have dn : decide (n ≤ H1) = false := by simpa using hle
      go_wp2
      go_ret
      exact ⟨rfl, hxr⟩
end Go.Proofs.Ytmmhiiiaccldmaa
