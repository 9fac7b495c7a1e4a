/- Contract: edge.Move, of a valid edge. | Contract: edge.Move, of a valid edge, by moveE. -/
import Derived.Test.YtmmhiiiaccldmaaJ27
import Derived.Test.YtmmhiiiaccldmaaJ31
import Derived.Deep.DeepCutAuto
set_option linter.unusedVariables false
set_option linter.unusedSimpArgs false

namespace Go.Proofs.Ytmmhiiiaccldmaa
open Go.RowKit
attribute [local go_sem] Gives givesU

/-- A moved edge. -/
def moveE (e : Ed) (x y t : Int) (m : Bool) : Ed :=
  ⟨if m then (fam e.k).k else e.k, (applyP x y t m e.ax e.ay).1, (applyP x y t m e.ax e.ay).2, (applyP x y t m e.bx e.by').1, (applyP x y t m e.bx e.by').2,
    if e.k = 1 then e.cx else (applyP x y t m e.cx e.cy).1, if e.k = 1 then e.cy else (applyP x y t m e.cx e.cy).2⟩

set_option maxRecDepth 100000 in
set_option maxHeartbeats 8000000 in
theorem Move_core (k ax ay bx by' cx cy x y t ko k2 a1 a2 b1 b2 c1 c2 : Int) (m : Bool) (fv gv hv : FuncId) (w : World)
    (OF : ∀ W, Calls Try.prog 31 #[.agg #[.int .i64 k, .int .i64 ax, .int .i64 ay, .int .i64 bx, .int .i64 by', .int .i64 cx, .int .i64 cy]] W fun e w' => e = .returned (.tuple #[.agg #[.func (.func fv) #[] #[], .func (.func gv) #[] #[], .func (.func hv) #[] #[], .int .i64 ko], .bool true]) ∧ Ext W w')
    (AA : ∀ W, Calls Try.prog 33 #[.agg #[.int .i64 x, .int .i64 y, .int .i64 t, .bool m], .agg #[.int .i64 ax, .int .i64 ay]] W fun e w' => e = .returned (.agg #[.int .i64 a1, .int .i64 a2]) ∧ Ext W w')
    (AB : ∀ W, Calls Try.prog 33 #[.agg #[.int .i64 x, .int .i64 y, .int .i64 t, .bool m], .agg #[.int .i64 bx, .int .i64 by']] W fun e w' => e = .returned (.agg #[.int .i64 b1, .int .i64 b2]) ∧ Ext W w')
    (AC : ¬ k2 = 1 → ∀ W, Calls Try.prog 33 #[.agg #[.int .i64 x, .int .i64 y, .int .i64 t, .bool m], .agg #[.int .i64 cx, .int .i64 cy]] W fun e w' => e = .returned (.agg #[.int .i64 c1, .int .i64 c2]) ∧ Ext W w')
    (h2 : k2 = if m then ko else k) (hc : k2 = 1 → c1 = cx ∧ c2 = cy) :
    Calls Try.prog 16 #[.agg #[.int .i64 k, .int .i64 ax, .int .i64 ay, .int .i64 bx, .int .i64 by', .int .i64 cx, .int .i64 cy], .agg #[.int .i64 x, .int .i64 y, .int .i64 t, .bool m]] w fun e w' => e = .returned (.agg #[.int .i64 k2, .int .i64 a1, .int .i64 a2, .int .i64 b1, .int .i64 b2, .int .i64 c1, .int .i64 c2]) ∧ Ext w w' := by
  replace OF := Lib.hid OF
  replace AA := Lib.hid AA
  replace AB := Lib.hid AB
  replace AC := Lib.hid AC
  have HC := Lib.hid hc
  clear hc
  go_enter Try.func16, Try.ntmps16
  go_wp2_with fail
  refine (OF.out _).mono ?_
  rintro e w1 ⟨rfl, hx⟩
  have hx0 : Ext w w1 := Ext.step (by (repeat (first | exact Below.refl _ _ | assumption | refine Below.drewN ?_ _ | refine Below.drew ?_ | refine Below.setCell ?_ (by first | exact Nat.le_refl _ | (simp; done) | (simp; omega) | omega) _ | refine Below.alloc ?_ (by first | exact Nat.le_refl _ | (simp; done) | (simp; omega) | omega) _))) hx
  have hs0 := hx0.size
  have hz_w1 : w.heap.size + 3 ≤ w1.heap.size := Nat.le_trans (by first | omega | (simp; done) | (simp; omega)) hx.size
  have hl_w1_0 : w.heap.size < w1.heap.size := Nat.lt_of_lt_of_le (by omega) hz_w1
  have hk_w1_0 : ∀ o, w1.cell? ⟨w.heap.size, o, none⟩ = _ := fun o => hx.cell (p := ⟨w.heap.size, o, none⟩) (show w.heap.size < _ from (by first | omega | (simp; done) | (simp; omega)))
  have hf_w1_0 : ∀ o, w1.frozen? ⟨w.heap.size, o, none⟩ = _ := fun o => hx.frozen (p := ⟨w.heap.size, o, none⟩) (show w.heap.size < _ from (by first | omega | (simp; done) | (simp; omega)))
  have hl_w1_1 : w.heap.size + 1 < w1.heap.size := Nat.lt_of_lt_of_le (by omega) hz_w1
  have hk_w1_1 : ∀ o, w1.cell? ⟨w.heap.size + 1, o, none⟩ = _ := fun o => hx.cell (p := ⟨w.heap.size + 1, o, none⟩) (show w.heap.size + 1 < _ from (by first | omega | (simp; done) | (simp; omega)))
  have hf_w1_1 : ∀ o, w1.frozen? ⟨w.heap.size + 1, o, none⟩ = _ := fun o => hx.frozen (p := ⟨w.heap.size + 1, o, none⟩) (show w.heap.size + 1 < _ from (by first | omega | (simp; done) | (simp; omega)))
  have hl_w1_2 : w.heap.size + 2 < w1.heap.size := Nat.lt_of_lt_of_le (by omega) hz_w1
  have hk_w1_2 : ∀ o, w1.cell? ⟨w.heap.size + 2, o, none⟩ = _ := fun o => hx.cell (p := ⟨w.heap.size + 2, o, none⟩) (show w.heap.size + 2 < _ from (by first | omega | (simp; done) | (simp; omega)))
  have hf_w1_2 : ∀ o, w1.frozen? ⟨w.heap.size + 2, o, none⟩ = _ := fun o => hx.frozen (p := ⟨w.heap.size + 2, o, none⟩) (show w.heap.size + 2 < _ from (by first | omega | (simp; done) | (simp; omega)))
  clear hx
  go_upto_region 2 with (fail)
  refine wp_world (fun W => Ext w W ∧ (W.cell? ⟨w.heap.size, 0, none⟩ = some (.int .i64 k) ∧ W.cell? ⟨w.heap.size, 1, none⟩ = some (.int .i64 ax) ∧ W.cell? ⟨w.heap.size, 2, none⟩ = some (.int .i64 ay) ∧ W.cell? ⟨w.heap.size, 3, none⟩ = some (.int .i64 bx) ∧ W.cell? ⟨w.heap.size, 4, none⟩ = some (.int .i64 by') ∧ W.cell? ⟨w.heap.size, 5, none⟩ = some (.int .i64 cx) ∧ W.cell? ⟨w.heap.size, 6, none⟩ = some (.int .i64 cy) ∧ W.cell? ⟨w.heap.size + 1, 0, none⟩ = some (.int .i64 x) ∧ W.cell? ⟨w.heap.size + 1, 1, none⟩ = some (.int .i64 y) ∧ W.cell? ⟨w.heap.size + 1, 2, none⟩ = some (.int .i64 t) ∧ W.cell? ⟨w.heap.size + 1, 3, none⟩ = some (.bool m) ∧ W.cell? ⟨w.heap.size + 1 + 1, 0, none⟩ = some (.int .i64 0) ∧ W.cell? ⟨w.heap.size + 1 + 1, 1, none⟩ = some (.int .i64 0) ∧ W.cell? ⟨w.heap.size + 1 + 1, 2, none⟩ = some (.int .i64 0) ∧ W.cell? ⟨w.heap.size + 1 + 1, 3, none⟩ = some (.int .i64 0) ∧ W.cell? ⟨w.heap.size + 1 + 1, 4, none⟩ = some (.int .i64 0) ∧ W.cell? ⟨w.heap.size + 1 + 1, 5, none⟩ = some (.int .i64 0) ∧ W.cell? ⟨w.heap.size + 1 + 1, 6, none⟩ = some (.int .i64 0) ∧ W.cell? ⟨w1.heap.size, 3, none⟩ = some (.int .i64 ko) ∧ (∀ o, W.frozen? ⟨w.heap.size, o, none⟩ = false) ∧ (∀ o, W.frozen? ⟨w.heap.size + 1 + 1, o, none⟩ = false) ) ∧ w1.heap.size < W.heap.size) ?_ ?_
  · refine ⟨by (repeat (first | exact Below.refl _ _ | assumption | refine Below.drewN ?_ _ | refine Below.drew ?_ | refine Below.setCell ?_ (by first | exact Nat.le_refl _ | (simp; done) | (simp; omega) | omega) _ | refine Below.alloc ?_ (by first | exact Nat.le_refl _ | (simp; done) | (simp; omega) | omega) _)), ⟨by go_simp, by go_simp, by go_simp, by go_simp, by go_simp, by go_simp, by go_simp, by go_simp, by go_simp, by go_simp, by go_simp, by go_simp, by go_simp, by go_simp, by go_simp, by go_simp, by go_simp, by go_simp, by go_simp, by intro o; go_simp, by intro o; go_simp⟩, by simp⟩
  rintro V2 ⟨hx2, ⟨u0, u1, u2, u3, u4, u5, u6, q0, q1, q2, q3, r0, r1, r2, r3, r4, r5, r6, fk, uf, rf⟩, hl2⟩
  obtain ⟨G, hG⟩ : ∃ G, Hid (w1.heap.size = G) := ⟨_, rfl⟩
  have l0 : w.heap.size < V2.heap.size := by omega
  have l1 : w.heap.size + 1 < V2.heap.size := by omega
  have l2 : w.heap.size + 2 < V2.heap.size := by omega
  have gE : w.heap.size ≠ w1.heap.size := by omega
  have gE' : w1.heap.size ≠ w.heap.size := by omega
  rw [hG.out] at fk hl2 gE gE' ⊢
  clear hk_w1_0 hk_w1_1 hk_w1_2 hf_w1_0 hf_w1_1 hf_w1_2 hl_w1_0 hl_w1_1 hl_w1_2 hz_w1 hs0 hx0
  have e01 : w.heap.size ≠ w.heap.size + 1 := by omega
  have e02 : w.heap.size ≠ w.heap.size + 2 := by omega
  have e10 : w.heap.size + 1 ≠ w.heap.size := by omega
  have e20 : w.heap.size + 2 ≠ w.heap.size := by omega
  obtain ⟨mm, hmm⟩ : ∃ b, Hid (m = b) := ⟨_, rfl⟩
  rw [hmm.out] at AA AB AC
  cases m
  all_goals
    simp only [Bool.false_eq_true, if_false, if_true] at h2
    have H2 := Lib.hid h2
    clear h2
    go_upto_region 4 with (fail)
    refine wp_world (fun W => Ext w W ∧ V2.heap.size ≤ W.heap.size ∧ (W.cell? ⟨w.heap.size, 0, none⟩ = some (.int .i64 k2) ∧ W.cell? ⟨w.heap.size, 1, none⟩ = some (.int .i64 ax) ∧ W.cell? ⟨w.heap.size, 2, none⟩ = some (.int .i64 ay) ∧ W.cell? ⟨w.heap.size, 3, none⟩ = some (.int .i64 bx) ∧ W.cell? ⟨w.heap.size, 4, none⟩ = some (.int .i64 by') ∧ W.cell? ⟨w.heap.size, 5, none⟩ = some (.int .i64 cx) ∧ W.cell? ⟨w.heap.size, 6, none⟩ = some (.int .i64 cy) ∧ W.cell? ⟨w.heap.size + 1, 0, none⟩ = some (.int .i64 x) ∧ W.cell? ⟨w.heap.size + 1, 1, none⟩ = some (.int .i64 y) ∧ W.cell? ⟨w.heap.size + 1, 2, none⟩ = some (.int .i64 t) ∧ W.cell? ⟨w.heap.size + 1, 3, none⟩ = some (.bool mm) ∧ W.cell? ⟨w.heap.size + 1 + 1, 0, none⟩ = some (.int .i64 0) ∧ W.cell? ⟨w.heap.size + 1 + 1, 1, none⟩ = some (.int .i64 0) ∧ W.cell? ⟨w.heap.size + 1 + 1, 2, none⟩ = some (.int .i64 0) ∧ W.cell? ⟨w.heap.size + 1 + 1, 3, none⟩ = some (.int .i64 0) ∧ W.cell? ⟨w.heap.size + 1 + 1, 4, none⟩ = some (.int .i64 0) ∧ W.cell? ⟨w.heap.size + 1 + 1, 5, none⟩ = some (.int .i64 0) ∧ W.cell? ⟨w.heap.size + 1 + 1, 6, none⟩ = some (.int .i64 0) ∧ (∀ o, W.frozen? ⟨w.heap.size, o, none⟩ = false) ∧ (∀ o, W.frozen? ⟨w.heap.size + 1 + 1, o, none⟩ = false) )) ?_ ?_
    · have h2 := H2.out
      have hmm := hmm.out
      subst h2 hmm
      refine ⟨?_, ?_, ?_⟩
      · repeat refine Below.setCell ?_ (by first | exact Nat.le_refl _ | omega) _
        exact hx2
      · first | exact Nat.le_refl _ | (simp; done) | (simp [World.setCell])
      · refine ⟨by go_simp, by go_simp, by go_simp, by go_simp, by go_simp, by go_simp, by go_simp, by go_simp, by go_simp, by go_simp, by go_simp, by go_simp, by go_simp, by go_simp, by go_simp, by go_simp, by go_simp, by go_simp, by intro o; go_simp, by intro o; go_simp⟩
    rintro V4 ⟨hx4, hz4, v0, v1, v2, v3, v4, v5, v6, p0, p1, p2, p3, s0, s1, s2, s3, s4, s5, s6, vf, sf⟩
    clear u0 u1 u2 u3 u4 u5 u6 q0 q1 q2 q3 r0 r1 r2 r3 r4 r5 r6 fk uf rf gE gE'
    have m0 : w.heap.size < V4.heap.size := by omega
    have m1 : w.heap.size + 1 < V4.heap.size := by omega
    have m2 : w.heap.size + 2 < V4.heap.size := by omega
    by_cases hk : k2 = 1
    · have n1 : (k2 != 1) = false := by simp [hk]
      obtain ⟨hc1, hc2⟩ := HC.out hk
      rw [← hc1] at v5
      rw [← hc2] at v6
      clear hk AC HC H2 hc1 hc2
      go_upto_region 6 with (fail)
      refine wp_world (fun W => Ext w W ∧ V4.heap.size ≤ W.heap.size ∧ (W.cell? ⟨w.heap.size, 0, none⟩ = some (.int .i64 k2) ∧ W.cell? ⟨w.heap.size, 1, none⟩ = some (.int .i64 ax) ∧ W.cell? ⟨w.heap.size, 2, none⟩ = some (.int .i64 ay) ∧ W.cell? ⟨w.heap.size, 3, none⟩ = some (.int .i64 bx) ∧ W.cell? ⟨w.heap.size, 4, none⟩ = some (.int .i64 by') ∧ W.cell? ⟨w.heap.size, 5, none⟩ = some (.int .i64 c1) ∧ W.cell? ⟨w.heap.size, 6, none⟩ = some (.int .i64 c2) ∧ W.cell? ⟨w.heap.size + 1, 0, none⟩ = some (.int .i64 x) ∧ W.cell? ⟨w.heap.size + 1, 1, none⟩ = some (.int .i64 y) ∧ W.cell? ⟨w.heap.size + 1, 2, none⟩ = some (.int .i64 t) ∧ W.cell? ⟨w.heap.size + 1, 3, none⟩ = some (.bool mm) ∧ W.cell? ⟨w.heap.size + 1 + 1, 0, none⟩ = some (.int .i64 0) ∧ W.cell? ⟨w.heap.size + 1 + 1, 1, none⟩ = some (.int .i64 0) ∧ W.cell? ⟨w.heap.size + 1 + 1, 2, none⟩ = some (.int .i64 0) ∧ W.cell? ⟨w.heap.size + 1 + 1, 3, none⟩ = some (.int .i64 0) ∧ W.cell? ⟨w.heap.size + 1 + 1, 4, none⟩ = some (.int .i64 0) ∧ W.cell? ⟨w.heap.size + 1 + 1, 5, none⟩ = some (.int .i64 0) ∧ W.cell? ⟨w.heap.size + 1 + 1, 6, none⟩ = some (.int .i64 0) ∧ (∀ o, W.frozen? ⟨w.heap.size, o, none⟩ = false) ∧ (∀ o, W.frozen? ⟨w.heap.size + 1 + 1, o, none⟩ = false) )) ?_ ?_
      · exact ⟨hx4, Nat.le_refl _, v0, v1, v2, v3, v4, v5, v6, p0, p1, p2, p3, s0, s1, s2, s3, s4, s5, s6, vf, sf⟩
      clear v0 v1 v2 v3 v4 v5 v6 p0 p1 p2 p3 s0 s1 s2 s3 s4 s5 s6 vf sf
      rintro V6 ⟨hx6, hz6, u0, u1, u2, u3, u4, u5, u6, p0, p1, p2, p3, s0, s1, s2, s3, s4, s5, s6, vf, sf⟩
      have j0 : w.heap.size < V6.heap.size := by omega
      have j1 : w.heap.size + 1 < V6.heap.size := by omega
      have j2 : w.heap.size + 2 < V6.heap.size := by omega
      refine wp_region_Q 11 (fun o => match o.dst with | some d => [27].contains d | none => false) (fun W => Ext w W ∧ V6.heap.size ≤ W.heap.size ∧ W.cell? ⟨w.heap.size, 0, none⟩ = some (.int .i64 k2) ∧ W.cell? ⟨w.heap.size, 3, none⟩ = some (.int .i64 bx) ∧ W.cell? ⟨w.heap.size, 4, none⟩ = some (.int .i64 by') ∧ W.cell? ⟨w.heap.size, 5, none⟩ = some (.int .i64 c1) ∧ W.cell? ⟨w.heap.size, 6, none⟩ = some (.int .i64 c2) ∧ W.cell? ⟨w.heap.size + 1, 0, none⟩ = some (.int .i64 x) ∧ W.cell? ⟨w.heap.size + 1, 1, none⟩ = some (.int .i64 y) ∧ W.cell? ⟨w.heap.size + 1, 2, none⟩ = some (.int .i64 t) ∧ W.cell? ⟨w.heap.size + 1, 3, none⟩ = some (.bool mm) ∧ W.cell? ⟨w.heap.size + 1 + 1, 0, none⟩ = some (.int .i64 0) ∧ W.cell? ⟨w.heap.size + 1 + 1, 1, none⟩ = some (.int .i64 0) ∧ W.cell? ⟨w.heap.size + 1 + 1, 2, none⟩ = some (.int .i64 0) ∧ W.cell? ⟨w.heap.size + 1 + 1, 3, none⟩ = some (.int .i64 0) ∧ W.cell? ⟨w.heap.size + 1 + 1, 4, none⟩ = some (.int .i64 0) ∧ W.cell? ⟨w.heap.size + 1 + 1, 5, none⟩ = some (.int .i64 0) ∧ W.cell? ⟨w.heap.size + 1 + 1, 6, none⟩ = some (.int .i64 0) ∧ (∀ o, W.frozen? ⟨w.heap.size, o, none⟩ = false) ∧ (∀ o, W.frozen? ⟨w.heap.size + 1 + 1, o, none⟩ = false)) (fun W => (Ext w W ∧ V6.heap.size ≤ W.heap.size ∧ W.cell? ⟨w.heap.size, 0, none⟩ = some (.int .i64 k2) ∧ W.cell? ⟨w.heap.size, 3, none⟩ = some (.int .i64 bx) ∧ W.cell? ⟨w.heap.size, 4, none⟩ = some (.int .i64 by') ∧ W.cell? ⟨w.heap.size, 5, none⟩ = some (.int .i64 c1) ∧ W.cell? ⟨w.heap.size, 6, none⟩ = some (.int .i64 c2) ∧ W.cell? ⟨w.heap.size + 1, 0, none⟩ = some (.int .i64 x) ∧ W.cell? ⟨w.heap.size + 1, 1, none⟩ = some (.int .i64 y) ∧ W.cell? ⟨w.heap.size + 1, 2, none⟩ = some (.int .i64 t) ∧ W.cell? ⟨w.heap.size + 1, 3, none⟩ = some (.bool mm) ∧ W.cell? ⟨w.heap.size + 1 + 1, 0, none⟩ = some (.int .i64 0) ∧ W.cell? ⟨w.heap.size + 1 + 1, 1, none⟩ = some (.int .i64 0) ∧ W.cell? ⟨w.heap.size + 1 + 1, 2, none⟩ = some (.int .i64 0) ∧ W.cell? ⟨w.heap.size + 1 + 1, 3, none⟩ = some (.int .i64 0) ∧ W.cell? ⟨w.heap.size + 1 + 1, 4, none⟩ = some (.int .i64 0) ∧ W.cell? ⟨w.heap.size + 1 + 1, 5, none⟩ = some (.int .i64 0) ∧ W.cell? ⟨w.heap.size + 1 + 1, 6, none⟩ = some (.int .i64 0) ∧ (∀ o, W.frozen? ⟨w.heap.size, o, none⟩ = false) ∧ (∀ o, W.frozen? ⟨w.heap.size + 1 + 1, o, none⟩ = false)) ∧ W.cell? ⟨w.heap.size, 1, none⟩ = some (.int .i64 ax) ∧ W.cell? ⟨w.heap.size, 2, none⟩ = some (.int .i64 ay)) (by kernel_rfl) (by kernel_rfl) (by kernel_rfl) (by kernel_rfl) ?_ ?_ (fun _ h => h.1) ?_ ?_
      · refine ⟨⟨by (repeat (first | exact Below.refl _ _ | assumption | refine Below.drewN ?_ _ | refine Below.drew ?_ | refine Below.setCell ?_ (by first | exact Nat.le_refl _ | (simp; done) | (simp; omega) | omega) _ | refine Below.alloc ?_ (by first | exact Nat.le_refl _ | (simp; done) | (simp; omega) | omega) _)), by first | omega | (simp; done) | (simp; omega), ?_⟩, ?_⟩ <;> (try go_simp)
      · (intro W W' h hb; obtain ⟨⟨hx, hz, hc⟩, hr⟩ := h; have hbc : ∀ b o, b < W.heap.size → W'.cell? ⟨b, o, none⟩ = W.cell? ⟨b, o, none⟩ := fun b o h => hb.cell (p := ⟨b, o, none⟩) h; have hbf : ∀ b o, b < W.heap.size → W'.frozen? ⟨b, o, none⟩ = W.frozen? ⟨b, o, none⟩ := fun b o h => hb.frozen (p := ⟨b, o, none⟩) h; refine ⟨⟨hx.step hb, Nat.le_trans hz hb.size, ?_⟩, ?_⟩ <;> (simp (disch := omega) only [hbc, hbf]; assumption))
      · (intro W h; have h2 := h.1.2.1; first | omega | (simp; omega))
      simp only [List.take_succ_cons, List.take_zero, List.drop_succ_cons, List.drop_zero]
      repeat (first | (refine Q_skip (by rfl) (by rfl) ?_; simp only [Act.put, List.setIfInBounds_toArray, List.set_cons_zero, List.set_cons_succ]) | (refine Q_run (v := ?_) (by rfl) (by rfl) ?_ ?_; rotate_left; (· (intro W hW; (try dsimp only at hW); go_simp; try with_reducible rfl)); simp only [Act.put, List.setIfInBounds_toArray, List.set_cons_zero, List.set_cons_succ]) | (refine Q_read (v := ?_) (by rfl) (by rfl) ?_ ?_; rotate_left; (· (intro W hW; (try dsimp only at hW); go_simp; try with_reducible rfl)); simp only [Act.put, List.setIfInBounds_toArray, List.set_cons_zero, List.set_cons_succ]))
      (refine Q_call (v := .agg #[.int .i64 a1, .int .i64 a2]) (by rfl) (by rfl) (by rfl) ?_ ?_; (· (intro W hW; (try dsimp only at hW); go_simp; refine (AA.out _).mono ?_; rintro e w' ⟨rfl, hx⟩; exact ⟨_, rfl, rfl, hx⟩))); simp only [Act.put, List.setIfInBounds_toArray, List.set_cons_zero, List.set_cons_succ]
      repeat (first | (refine Q_skip (by rfl) (by rfl) ?_; simp only [Act.put, List.setIfInBounds_toArray, List.set_cons_zero, List.set_cons_succ]) | (refine Q_run (v := ?_) (by rfl) (by rfl) ?_ ?_; rotate_left; (· (intro W hW; (try dsimp only at hW); go_simp; try with_reducible rfl)); simp only [Act.put, List.setIfInBounds_toArray, List.set_cons_zero, List.set_cons_succ]) | (refine Q_read (v := ?_) (by rfl) (by rfl) ?_ ?_; rotate_left; (· (intro W hW; (try dsimp only at hW); go_simp; try with_reducible rfl)); simp only [Act.put, List.setIfInBounds_toArray, List.set_cons_zero, List.set_cons_succ]))
      (refine Q_call (v := .agg #[.int .i64 b1, .int .i64 b2]) (by rfl) (by rfl) (by rfl) ?_ ?_; (· (intro W hW; (try dsimp only at hW); go_simp; refine (AB.out _).mono ?_; rintro e w' ⟨rfl, hx⟩; exact ⟨_, rfl, rfl, hx⟩))); simp only [Act.put, List.setIfInBounds_toArray, List.set_cons_zero, List.set_cons_succ]
      repeat (first | (refine Q_skip (by rfl) (by rfl) ?_; simp only [Act.put, List.setIfInBounds_toArray, List.set_cons_zero, List.set_cons_succ]) | (refine Q_run (v := ?_) (by rfl) (by rfl) ?_ ?_; rotate_left; (· (intro W hW; (try dsimp only at hW); go_simp; try with_reducible rfl)); simp only [Act.put, List.setIfInBounds_toArray, List.set_cons_zero, List.set_cons_succ]) | (refine Q_read (v := ?_) (by rfl) (by rfl) ?_ ?_; rotate_left; (· (intro W hW; (try dsimp only at hW); go_simp; try with_reducible rfl)); simp only [Act.put, List.setIfInBounds_toArray, List.set_cons_zero, List.set_cons_succ]))
      refine Q_store (fun W => (Ext w W ∧ V6.heap.size ≤ W.heap.size ∧ W.cell? ⟨w.heap.size, 0, none⟩ = some (.int .i64 k2) ∧ W.cell? ⟨w.heap.size, 3, none⟩ = some (.int .i64 bx) ∧ W.cell? ⟨w.heap.size, 4, none⟩ = some (.int .i64 by') ∧ W.cell? ⟨w.heap.size, 5, none⟩ = some (.int .i64 c1) ∧ W.cell? ⟨w.heap.size, 6, none⟩ = some (.int .i64 c2) ∧ W.cell? ⟨w.heap.size + 1, 0, none⟩ = some (.int .i64 x) ∧ W.cell? ⟨w.heap.size + 1, 1, none⟩ = some (.int .i64 y) ∧ W.cell? ⟨w.heap.size + 1, 2, none⟩ = some (.int .i64 t) ∧ W.cell? ⟨w.heap.size + 1, 3, none⟩ = some (.bool mm) ∧ W.cell? ⟨w.heap.size + 1 + 1, 0, none⟩ = some (.int .i64 0) ∧ W.cell? ⟨w.heap.size + 1 + 1, 1, none⟩ = some (.int .i64 0) ∧ W.cell? ⟨w.heap.size + 1 + 1, 2, none⟩ = some (.int .i64 0) ∧ W.cell? ⟨w.heap.size + 1 + 1, 3, none⟩ = some (.int .i64 0) ∧ W.cell? ⟨w.heap.size + 1 + 1, 4, none⟩ = some (.int .i64 0) ∧ W.cell? ⟨w.heap.size + 1 + 1, 5, none⟩ = some (.int .i64 0) ∧ W.cell? ⟨w.heap.size + 1 + 1, 6, none⟩ = some (.int .i64 0) ∧ (∀ o, W.frozen? ⟨w.heap.size, o, none⟩ = false) ∧ (∀ o, W.frozen? ⟨w.heap.size + 1 + 1, o, none⟩ = false)) ∧ W.cell? ⟨w.heap.size, 1, none⟩ = some (.int .i64 a1) ∧ W.cell? ⟨w.heap.size, 2, none⟩ = some (.int .i64 a2)) ?_ (fun _ h => h.1) (by rfl) (by rfl) (by rfl) ?_ ?_
      · (intro W W' h hb; obtain ⟨⟨hx, hz, hc⟩, hr⟩ := h; have hbc : ∀ b o, b < W.heap.size → W'.cell? ⟨b, o, none⟩ = W.cell? ⟨b, o, none⟩ := fun b o h => hb.cell (p := ⟨b, o, none⟩) h; have hbf : ∀ b o, b < W.heap.size → W'.frozen? ⟨b, o, none⟩ = W.frozen? ⟨b, o, none⟩ := fun b o h => hb.frozen (p := ⟨b, o, none⟩) h; refine ⟨⟨hx.step hb, Nat.le_trans hz hb.size, ?_⟩, ?_⟩ <;> (simp (disch := omega) only [hbc, hbf]; assumption))
      · (intro W hW; obtain ⟨⟨hx, hz, hc⟩, hr⟩ := hW; go_simp; (try dsimp only); (repeat' apply And.intro) <;> first | with_reducible assumption | (go_simp; done) | ((repeat (refine Below.setCell ?_ (by first | exact Nat.le_refl _ | exact Nat.le_succ _ | (dsimp only; omega) | omega) _)); exact hx) | omega | (simp; done) | (simp; omega))
      simp only [Act.put, List.setIfInBounds_toArray, List.set_cons_zero, List.set_cons_succ]
      repeat (first | (refine Q_skip (by rfl) (by rfl) ?_; simp only [Act.put, List.setIfInBounds_toArray, List.set_cons_zero, List.set_cons_succ]) | (refine Q_run (v := ?_) (by rfl) (by rfl) ?_ ?_; rotate_left; (· (intro W hW; (try dsimp only at hW); go_simp; try with_reducible rfl)); simp only [Act.put, List.setIfInBounds_toArray, List.set_cons_zero, List.set_cons_succ]) | (refine Q_read (v := ?_) (by rfl) (by rfl) ?_ ?_; rotate_left; (· (intro W hW; (try dsimp only at hW); go_simp; try with_reducible rfl)); simp only [Act.put, List.setIfInBounds_toArray, List.set_cons_zero, List.set_cons_succ]))
      refine Q_done ?_
      refine F_store (fun W => Ext w W ∧ V6.heap.size ≤ W.heap.size ∧ W.cell? ⟨w.heap.size, 0, none⟩ = some (.int .i64 k2) ∧ W.cell? ⟨w.heap.size, 1, none⟩ = some (.int .i64 a1) ∧ W.cell? ⟨w.heap.size, 2, none⟩ = some (.int .i64 a2) ∧ W.cell? ⟨w.heap.size, 3, none⟩ = some (.int .i64 b1) ∧ W.cell? ⟨w.heap.size, 4, none⟩ = some (.int .i64 b2) ∧ W.cell? ⟨w.heap.size, 5, none⟩ = some (.int .i64 c1) ∧ W.cell? ⟨w.heap.size, 6, none⟩ = some (.int .i64 c2) ∧ W.cell? ⟨w.heap.size + 1 + 1, 0, none⟩ = some (.int .i64 0) ∧ W.cell? ⟨w.heap.size + 1 + 1, 1, none⟩ = some (.int .i64 0) ∧ W.cell? ⟨w.heap.size + 1 + 1, 2, none⟩ = some (.int .i64 0) ∧ W.cell? ⟨w.heap.size + 1 + 1, 3, none⟩ = some (.int .i64 0) ∧ W.cell? ⟨w.heap.size + 1 + 1, 4, none⟩ = some (.int .i64 0) ∧ W.cell? ⟨w.heap.size + 1 + 1, 5, none⟩ = some (.int .i64 0) ∧ W.cell? ⟨w.heap.size + 1 + 1, 6, none⟩ = some (.int .i64 0) ∧ (∀ o, W.frozen? ⟨w.heap.size + 1 + 1, o, none⟩ = false)) ?_ (fun _ _ => trivial) (by rfl) (by rfl) ?_ ?_
      · (intro W W' h hb; obtain ⟨hx, hz, hc⟩ := h; have hbc : ∀ b o, b < W.heap.size → W'.cell? ⟨b, o, none⟩ = W.cell? ⟨b, o, none⟩ := fun b o h => hb.cell (p := ⟨b, o, none⟩) h; have hbf : ∀ b o, b < W.heap.size → W'.frozen? ⟨b, o, none⟩ = W.frozen? ⟨b, o, none⟩ := fun b o h => hb.frozen (p := ⟨b, o, none⟩) h; refine ⟨hx.step hb, Nat.le_trans hz hb.size, ?_⟩; simp (disch := omega) only [hbc, hbf]; exact hc)
      · (intro W hW; obtain ⟨⟨⟨hx, hz, hc⟩, hr⟩, _⟩ := hW; go_simp; (try dsimp only); (repeat' apply And.intro) <;> first | with_reducible assumption | (go_simp; done) | ((repeat (refine Below.setCell ?_ (by first | exact Nat.le_refl _ | exact Nat.le_succ _ | (dsimp only; omega) | omega) _)); exact hx) | omega | (simp; done) | (simp; omega))
      simp only [Act.put, List.setIfInBounds_toArray, List.set_cons_zero, List.set_cons_succ]
      clear u0 u1 u2 u3 u4 u5 u6 p0 p1 p2 p3 s0 s1 s2 s3 s4 s5 s6 vf sf
      rintro V7 ⟨⟨hx7, hz7, u0, u1, u2, u3, u4, u5, u6, s0, s1, s2, s3, s4, s5, s6, sf⟩, _⟩
      go_wp2
      refine bodyPost_ret (v := .agg #[.int .i64 k2, .int .i64 a1, .int .i64 a2, .int .i64 b1, .int .i64 b2, .int .i64 c1, .int .i64 c2]) (by simp only [results, Try.results16]; go_simp) rfl ⟨rfl, ?_⟩
      repeat refine Below.setCell ?_ (by first | exact Nat.le_refl _ | (dsimp only; omega)) _
      exact hx7
    · have n1 : (k2 != 1) = true := by simpa using hk
      have AD := Lib.hid (Hid.out AC hk)
      clear hk AC HC H2
      go_wp2_with fail
      refine (AD.out _).mono ?_
      rintro e w5 ⟨rfl, hx⟩
      have hq5 : ∀ b o, b < V4.heap.size → w5.cell? ⟨b, o, none⟩ = V4.cell? ⟨b, o, none⟩ := fun b o h => hx.cell (p := ⟨b, o, none⟩) h
      have hf5 : ∀ b o, b < V4.heap.size → w5.frozen? ⟨b, o, none⟩ = V4.frozen? ⟨b, o, none⟩ := fun b o h => hx.frozen (p := ⟨b, o, none⟩) h
      replace v0 := (hq5 (w.heap.size) 0 m0).trans v0
      replace v1 := (hq5 (w.heap.size) 1 m0).trans v1
      replace v2 := (hq5 (w.heap.size) 2 m0).trans v2
      replace v3 := (hq5 (w.heap.size) 3 m0).trans v3
      replace v4 := (hq5 (w.heap.size) 4 m0).trans v4
      replace v5 := (hq5 (w.heap.size) 5 m0).trans v5
      replace v6 := (hq5 (w.heap.size) 6 m0).trans v6
      replace p0 := (hq5 (w.heap.size + 1) 0 m1).trans p0
      replace p1 := (hq5 (w.heap.size + 1) 1 m1).trans p1
      replace p2 := (hq5 (w.heap.size + 1) 2 m1).trans p2
      replace p3 := (hq5 (w.heap.size + 1) 3 m1).trans p3
      replace s0 := (hq5 (w.heap.size + 1 + 1) 0 m2).trans s0
      replace s1 := (hq5 (w.heap.size + 1 + 1) 1 m2).trans s1
      replace s2 := (hq5 (w.heap.size + 1 + 1) 2 m2).trans s2
      replace s3 := (hq5 (w.heap.size + 1 + 1) 3 m2).trans s3
      replace s4 := (hq5 (w.heap.size + 1 + 1) 4 m2).trans s4
      replace s5 := (hq5 (w.heap.size + 1 + 1) 5 m2).trans s5
      replace s6 := (hq5 (w.heap.size + 1 + 1) 6 m2).trans s6
      replace vf : ∀ o, w5.frozen? ⟨w.heap.size, o, none⟩ = false := fun o => (hf5 _ o m0).trans (vf o)
      replace sf : ∀ o, w5.frozen? ⟨w.heap.size + 1 + 1, o, none⟩ = false := fun o => (hf5 _ o m2).trans (sf o)
      have hx5 : Ext w w5 := hx4.trans (hx.mono (by omega))
      have hz5 := hx.size
      clear hq5 hf5 hx AD
      have n0 : w.heap.size < w5.heap.size := by omega
      have n2 : w.heap.size + 2 < w5.heap.size := by omega
      go_upto_region 6 with (fail)
      refine wp_world (fun W => Ext w W ∧ V4.heap.size ≤ W.heap.size ∧ (W.cell? ⟨w.heap.size, 0, none⟩ = some (.int .i64 k2) ∧ W.cell? ⟨w.heap.size, 1, none⟩ = some (.int .i64 ax) ∧ W.cell? ⟨w.heap.size, 2, none⟩ = some (.int .i64 ay) ∧ W.cell? ⟨w.heap.size, 3, none⟩ = some (.int .i64 bx) ∧ W.cell? ⟨w.heap.size, 4, none⟩ = some (.int .i64 by') ∧ W.cell? ⟨w.heap.size, 5, none⟩ = some (.int .i64 c1) ∧ W.cell? ⟨w.heap.size, 6, none⟩ = some (.int .i64 c2) ∧ W.cell? ⟨w.heap.size + 1, 0, none⟩ = some (.int .i64 x) ∧ W.cell? ⟨w.heap.size + 1, 1, none⟩ = some (.int .i64 y) ∧ W.cell? ⟨w.heap.size + 1, 2, none⟩ = some (.int .i64 t) ∧ W.cell? ⟨w.heap.size + 1, 3, none⟩ = some (.bool mm) ∧ W.cell? ⟨w.heap.size + 1 + 1, 0, none⟩ = some (.int .i64 0) ∧ W.cell? ⟨w.heap.size + 1 + 1, 1, none⟩ = some (.int .i64 0) ∧ W.cell? ⟨w.heap.size + 1 + 1, 2, none⟩ = some (.int .i64 0) ∧ W.cell? ⟨w.heap.size + 1 + 1, 3, none⟩ = some (.int .i64 0) ∧ W.cell? ⟨w.heap.size + 1 + 1, 4, none⟩ = some (.int .i64 0) ∧ W.cell? ⟨w.heap.size + 1 + 1, 5, none⟩ = some (.int .i64 0) ∧ W.cell? ⟨w.heap.size + 1 + 1, 6, none⟩ = some (.int .i64 0) ∧ (∀ o, W.frozen? ⟨w.heap.size, o, none⟩ = false) ∧ (∀ o, W.frozen? ⟨w.heap.size + 1 + 1, o, none⟩ = false) )) ?_ ?_
      · refine ⟨?_, ?_, by go_simp, by go_simp, by go_simp, by go_simp, by go_simp, by go_simp, by go_simp, by go_simp, by go_simp, by go_simp, by go_simp, by go_simp, by go_simp, by go_simp, by go_simp, by go_simp, by go_simp, by go_simp, by intro o; go_simp, by intro o; go_simp⟩
        · repeat refine Below.setCell ?_ (by first | exact Nat.le_refl _ | (dsimp only; omega)) _
          exact hx5
        · simp [World.setCell]
          omega
      clear v0 v1 v2 v3 v4 v5 v6 p0 p1 p2 p3 s0 s1 s2 s3 s4 s5 s6 vf sf
      rintro V6 ⟨hx6, hz6, u0, u1, u2, u3, u4, u5, u6, p0, p1, p2, p3, s0, s1, s2, s3, s4, s5, s6, vf, sf⟩
      have j0 : w.heap.size < V6.heap.size := by omega
      have j1 : w.heap.size + 1 < V6.heap.size := by omega
      have j2 : w.heap.size + 2 < V6.heap.size := by omega
      refine wp_region_Q 11 (fun o => match o.dst with | some d => [27].contains d | none => false) (fun W => Ext w W ∧ V6.heap.size ≤ W.heap.size ∧ W.cell? ⟨w.heap.size, 0, none⟩ = some (.int .i64 k2) ∧ W.cell? ⟨w.heap.size, 3, none⟩ = some (.int .i64 bx) ∧ W.cell? ⟨w.heap.size, 4, none⟩ = some (.int .i64 by') ∧ W.cell? ⟨w.heap.size, 5, none⟩ = some (.int .i64 c1) ∧ W.cell? ⟨w.heap.size, 6, none⟩ = some (.int .i64 c2) ∧ W.cell? ⟨w.heap.size + 1, 0, none⟩ = some (.int .i64 x) ∧ W.cell? ⟨w.heap.size + 1, 1, none⟩ = some (.int .i64 y) ∧ W.cell? ⟨w.heap.size + 1, 2, none⟩ = some (.int .i64 t) ∧ W.cell? ⟨w.heap.size + 1, 3, none⟩ = some (.bool mm) ∧ W.cell? ⟨w.heap.size + 1 + 1, 0, none⟩ = some (.int .i64 0) ∧ W.cell? ⟨w.heap.size + 1 + 1, 1, none⟩ = some (.int .i64 0) ∧ W.cell? ⟨w.heap.size + 1 + 1, 2, none⟩ = some (.int .i64 0) ∧ W.cell? ⟨w.heap.size + 1 + 1, 3, none⟩ = some (.int .i64 0) ∧ W.cell? ⟨w.heap.size + 1 + 1, 4, none⟩ = some (.int .i64 0) ∧ W.cell? ⟨w.heap.size + 1 + 1, 5, none⟩ = some (.int .i64 0) ∧ W.cell? ⟨w.heap.size + 1 + 1, 6, none⟩ = some (.int .i64 0) ∧ (∀ o, W.frozen? ⟨w.heap.size, o, none⟩ = false) ∧ (∀ o, W.frozen? ⟨w.heap.size + 1 + 1, o, none⟩ = false)) (fun W => (Ext w W ∧ V6.heap.size ≤ W.heap.size ∧ W.cell? ⟨w.heap.size, 0, none⟩ = some (.int .i64 k2) ∧ W.cell? ⟨w.heap.size, 3, none⟩ = some (.int .i64 bx) ∧ W.cell? ⟨w.heap.size, 4, none⟩ = some (.int .i64 by') ∧ W.cell? ⟨w.heap.size, 5, none⟩ = some (.int .i64 c1) ∧ W.cell? ⟨w.heap.size, 6, none⟩ = some (.int .i64 c2) ∧ W.cell? ⟨w.heap.size + 1, 0, none⟩ = some (.int .i64 x) ∧ W.cell? ⟨w.heap.size + 1, 1, none⟩ = some (.int .i64 y) ∧ W.cell? ⟨w.heap.size + 1, 2, none⟩ = some (.int .i64 t) ∧ W.cell? ⟨w.heap.size + 1, 3, none⟩ = some (.bool mm) ∧ W.cell? ⟨w.heap.size + 1 + 1, 0, none⟩ = some (.int .i64 0) ∧ W.cell? ⟨w.heap.size + 1 + 1, 1, none⟩ = some (.int .i64 0) ∧ W.cell? ⟨w.heap.size + 1 + 1, 2, none⟩ = some (.int .i64 0) ∧ W.cell? ⟨w.heap.size + 1 + 1, 3, none⟩ = some (.int .i64 0) ∧ W.cell? ⟨w.heap.size + 1 + 1, 4, none⟩ = some (.int .i64 0) ∧ W.cell? ⟨w.heap.size + 1 + 1, 5, none⟩ = some (.int .i64 0) ∧ W.cell? ⟨w.heap.size + 1 + 1, 6, none⟩ = some (.int .i64 0) ∧ (∀ o, W.frozen? ⟨w.heap.size, o, none⟩ = false) ∧ (∀ o, W.frozen? ⟨w.heap.size + 1 + 1, o, none⟩ = false)) ∧ W.cell? ⟨w.heap.size, 1, none⟩ = some (.int .i64 ax) ∧ W.cell? ⟨w.heap.size, 2, none⟩ = some (.int .i64 ay)) (by kernel_rfl) (by kernel_rfl) (by kernel_rfl) (by kernel_rfl) ?_ ?_ (fun _ h => h.1) ?_ ?_
      · refine ⟨⟨by (repeat (first | exact Below.refl _ _ | assumption | refine Below.drewN ?_ _ | refine Below.drew ?_ | refine Below.setCell ?_ (by first | exact Nat.le_refl _ | (simp; done) | (simp; omega) | omega) _ | refine Below.alloc ?_ (by first | exact Nat.le_refl _ | (simp; done) | (simp; omega) | omega) _)), by first | omega | (simp; done) | (simp; omega), ?_⟩, ?_⟩ <;> (try go_simp)
      · (intro W W' h hb; obtain ⟨⟨hx, hz, hc⟩, hr⟩ := h; have hbc : ∀ b o, b < W.heap.size → W'.cell? ⟨b, o, none⟩ = W.cell? ⟨b, o, none⟩ := fun b o h => hb.cell (p := ⟨b, o, none⟩) h; have hbf : ∀ b o, b < W.heap.size → W'.frozen? ⟨b, o, none⟩ = W.frozen? ⟨b, o, none⟩ := fun b o h => hb.frozen (p := ⟨b, o, none⟩) h; refine ⟨⟨hx.step hb, Nat.le_trans hz hb.size, ?_⟩, ?_⟩ <;> (simp (disch := omega) only [hbc, hbf]; assumption))
      · (intro W h; have h2 := h.1.2.1; first | omega | (simp; omega))
      simp only [List.take_succ_cons, List.take_zero, List.drop_succ_cons, List.drop_zero]
      repeat (first | (refine Q_skip (by rfl) (by rfl) ?_; simp only [Act.put, List.setIfInBounds_toArray, List.set_cons_zero, List.set_cons_succ]) | (refine Q_run (v := ?_) (by rfl) (by rfl) ?_ ?_; rotate_left; (· (intro W hW; (try dsimp only at hW); go_simp; try with_reducible rfl)); simp only [Act.put, List.setIfInBounds_toArray, List.set_cons_zero, List.set_cons_succ]) | (refine Q_read (v := ?_) (by rfl) (by rfl) ?_ ?_; rotate_left; (· (intro W hW; (try dsimp only at hW); go_simp; try with_reducible rfl)); simp only [Act.put, List.setIfInBounds_toArray, List.set_cons_zero, List.set_cons_succ]))
      (refine Q_call (v := .agg #[.int .i64 a1, .int .i64 a2]) (by rfl) (by rfl) (by rfl) ?_ ?_; (· (intro W hW; (try dsimp only at hW); go_simp; refine (AA.out _).mono ?_; rintro e w' ⟨rfl, hx⟩; exact ⟨_, rfl, rfl, hx⟩))); simp only [Act.put, List.setIfInBounds_toArray, List.set_cons_zero, List.set_cons_succ]
      repeat (first | (refine Q_skip (by rfl) (by rfl) ?_; simp only [Act.put, List.setIfInBounds_toArray, List.set_cons_zero, List.set_cons_succ]) | (refine Q_run (v := ?_) (by rfl) (by rfl) ?_ ?_; rotate_left; (· (intro W hW; (try dsimp only at hW); go_simp; try with_reducible rfl)); simp only [Act.put, List.setIfInBounds_toArray, List.set_cons_zero, List.set_cons_succ]) | (refine Q_read (v := ?_) (by rfl) (by rfl) ?_ ?_; rotate_left; (· (intro W hW; (try dsimp only at hW); go_simp; try with_reducible rfl)); simp only [Act.put, List.setIfInBounds_toArray, List.set_cons_zero, List.set_cons_succ]))
      (refine Q_call (v := .agg #[.int .i64 b1, .int .i64 b2]) (by rfl) (by rfl) (by rfl) ?_ ?_; (· (intro W hW; (try dsimp only at hW); go_simp; refine (AB.out _).mono ?_; rintro e w' ⟨rfl, hx⟩; exact ⟨_, rfl, rfl, hx⟩))); simp only [Act.put, List.setIfInBounds_toArray, List.set_cons_zero, List.set_cons_succ]
      repeat (first | (refine Q_skip (by rfl) (by rfl) ?_; simp only [Act.put, List.setIfInBounds_toArray, List.set_cons_zero, List.set_cons_succ]) | (refine Q_run (v := ?_) (by rfl) (by rfl) ?_ ?_; rotate_left; (· (intro W hW; (try dsimp only at hW); go_simp; try with_reducible rfl)); simp only [Act.put, List.setIfInBounds_toArray, List.set_cons_zero, List.set_cons_succ]) | (refine Q_read (v := ?_) (by rfl) (by rfl) ?_ ?_; rotate_left; (· (intro W hW; (try dsimp only at hW); go_simp; try with_reducible rfl)); simp only [Act.put, List.setIfInBounds_toArray, List.set_cons_zero, List.set_cons_succ]))
      refine Q_store (fun W => (Ext w W ∧ V6.heap.size ≤ W.heap.size ∧ W.cell? ⟨w.heap.size, 0, none⟩ = some (.int .i64 k2) ∧ W.cell? ⟨w.heap.size, 3, none⟩ = some (.int .i64 bx) ∧ W.cell? ⟨w.heap.size, 4, none⟩ = some (.int .i64 by') ∧ W.cell? ⟨w.heap.size, 5, none⟩ = some (.int .i64 c1) ∧ W.cell? ⟨w.heap.size, 6, none⟩ = some (.int .i64 c2) ∧ W.cell? ⟨w.heap.size + 1, 0, none⟩ = some (.int .i64 x) ∧ W.cell? ⟨w.heap.size + 1, 1, none⟩ = some (.int .i64 y) ∧ W.cell? ⟨w.heap.size + 1, 2, none⟩ = some (.int .i64 t) ∧ W.cell? ⟨w.heap.size + 1, 3, none⟩ = some (.bool mm) ∧ W.cell? ⟨w.heap.size + 1 + 1, 0, none⟩ = some (.int .i64 0) ∧ W.cell? ⟨w.heap.size + 1 + 1, 1, none⟩ = some (.int .i64 0) ∧ W.cell? ⟨w.heap.size + 1 + 1, 2, none⟩ = some (.int .i64 0) ∧ W.cell? ⟨w.heap.size + 1 + 1, 3, none⟩ = some (.int .i64 0) ∧ W.cell? ⟨w.heap.size + 1 + 1, 4, none⟩ = some (.int .i64 0) ∧ W.cell? ⟨w.heap.size + 1 + 1, 5, none⟩ = some (.int .i64 0) ∧ W.cell? ⟨w.heap.size + 1 + 1, 6, none⟩ = some (.int .i64 0) ∧ (∀ o, W.frozen? ⟨w.heap.size, o, none⟩ = false) ∧ (∀ o, W.frozen? ⟨w.heap.size + 1 + 1, o, none⟩ = false)) ∧ W.cell? ⟨w.heap.size, 1, none⟩ = some (.int .i64 a1) ∧ W.cell? ⟨w.heap.size, 2, none⟩ = some (.int .i64 a2)) ?_ (fun _ h => h.1) (by rfl) (by rfl) (by rfl) ?_ ?_
      · (intro W W' h hb; obtain ⟨⟨hx, hz, hc⟩, hr⟩ := h; have hbc : ∀ b o, b < W.heap.size → W'.cell? ⟨b, o, none⟩ = W.cell? ⟨b, o, none⟩ := fun b o h => hb.cell (p := ⟨b, o, none⟩) h; have hbf : ∀ b o, b < W.heap.size → W'.frozen? ⟨b, o, none⟩ = W.frozen? ⟨b, o, none⟩ := fun b o h => hb.frozen (p := ⟨b, o, none⟩) h; refine ⟨⟨hx.step hb, Nat.le_trans hz hb.size, ?_⟩, ?_⟩ <;> (simp (disch := omega) only [hbc, hbf]; assumption))
      · (intro W hW; obtain ⟨⟨hx, hz, hc⟩, hr⟩ := hW; go_simp; (try dsimp only); (repeat' apply And.intro) <;> first | with_reducible assumption | (go_simp; done) | ((repeat (refine Below.setCell ?_ (by first | exact Nat.le_refl _ | exact Nat.le_succ _ | (dsimp only; omega) | omega) _)); exact hx) | omega | (simp; done) | (simp; omega))
      simp only [Act.put, List.setIfInBounds_toArray, List.set_cons_zero, List.set_cons_succ]
      repeat (first | (refine Q_skip (by rfl) (by rfl) ?_; simp only [Act.put, List.setIfInBounds_toArray, List.set_cons_zero, List.set_cons_succ]) | (refine Q_run (v := ?_) (by rfl) (by rfl) ?_ ?_; rotate_left; (· (intro W hW; (try dsimp only at hW); go_simp; try with_reducible rfl)); simp only [Act.put, List.setIfInBounds_toArray, List.set_cons_zero, List.set_cons_succ]) | (refine Q_read (v := ?_) (by rfl) (by rfl) ?_ ?_; rotate_left; (· (intro W hW; (try dsimp only at hW); go_simp; try with_reducible rfl)); simp only [Act.put, List.setIfInBounds_toArray, List.set_cons_zero, List.set_cons_succ]))
      refine Q_done ?_
      refine F_store (fun W => Ext w W ∧ V6.heap.size ≤ W.heap.size ∧ W.cell? ⟨w.heap.size, 0, none⟩ = some (.int .i64 k2) ∧ W.cell? ⟨w.heap.size, 1, none⟩ = some (.int .i64 a1) ∧ W.cell? ⟨w.heap.size, 2, none⟩ = some (.int .i64 a2) ∧ W.cell? ⟨w.heap.size, 3, none⟩ = some (.int .i64 b1) ∧ W.cell? ⟨w.heap.size, 4, none⟩ = some (.int .i64 b2) ∧ W.cell? ⟨w.heap.size, 5, none⟩ = some (.int .i64 c1) ∧ W.cell? ⟨w.heap.size, 6, none⟩ = some (.int .i64 c2) ∧ W.cell? ⟨w.heap.size + 1 + 1, 0, none⟩ = some (.int .i64 0) ∧ W.cell? ⟨w.heap.size + 1 + 1, 1, none⟩ = some (.int .i64 0) ∧ W.cell? ⟨w.heap.size + 1 + 1, 2, none⟩ = some (.int .i64 0) ∧ W.cell? ⟨w.heap.size + 1 + 1, 3, none⟩ = some (.int .i64 0) ∧ W.cell? ⟨w.heap.size + 1 + 1, 4, none⟩ = some (.int .i64 0) ∧ W.cell? ⟨w.heap.size + 1 + 1, 5, none⟩ = some (.int .i64 0) ∧ W.cell? ⟨w.heap.size + 1 + 1, 6, none⟩ = some (.int .i64 0) ∧ (∀ o, W.frozen? ⟨w.heap.size + 1 + 1, o, none⟩ = false)) ?_ (fun _ _ => trivial) (by rfl) (by rfl) ?_ ?_
      · (intro W W' h hb; obtain ⟨hx, hz, hc⟩ := h; have hbc : ∀ b o, b < W.heap.size → W'.cell? ⟨b, o, none⟩ = W.cell? ⟨b, o, none⟩ := fun b o h => hb.cell (p := ⟨b, o, none⟩) h; have hbf : ∀ b o, b < W.heap.size → W'.frozen? ⟨b, o, none⟩ = W.frozen? ⟨b, o, none⟩ := fun b o h => hb.frozen (p := ⟨b, o, none⟩) h; refine ⟨hx.step hb, Nat.le_trans hz hb.size, ?_⟩; simp (disch := omega) only [hbc, hbf]; exact hc)
      · (intro W hW; obtain ⟨⟨⟨hx, hz, hc⟩, hr⟩, _⟩ := hW; go_simp; (try dsimp only); (repeat' apply And.intro) <;> first | with_reducible assumption | (go_simp; done) | ((repeat (refine Below.setCell ?_ (by first | exact Nat.le_refl _ | exact Nat.le_succ _ | (dsimp only; omega) | omega) _)); exact hx) | omega | (simp; done) | (simp; omega))
      simp only [Act.put, List.setIfInBounds_toArray, List.set_cons_zero, List.set_cons_succ]
      clear u0 u1 u2 u3 u4 u5 u6 p0 p1 p2 p3 s0 s1 s2 s3 s4 s5 s6 vf sf
      rintro V7 ⟨⟨hx7, hz7, u0, u1, u2, u3, u4, u5, u6, s0, s1, s2, s3, s4, s5, s6, sf⟩, _⟩
      go_wp2
      refine bodyPost_ret (v := .agg #[.int .i64 k2, .int .i64 a1, .int .i64 a2, .int .i64 b1, .int .i64 b2, .int .i64 c1, .int .i64 c2]) (by simp only [results, Try.results16]; go_simp) rfl ⟨rfl, ?_⟩
      repeat refine Below.setCell ?_ (by first | exact Nat.le_refl _ | (dsimp only; omega)) _
      exact hx7
end Go.Proofs.Ytmmhiiiaccldmaa

namespace Go.Proofs.Ytmmhiiiaccldmaa
open Go.RowKit

theorem Co.lo {x : Int} (h : Co x) : Lo x := by unfold Co Lo at *; omega
theorem edge_Move (k ax ay bx by' cx cy x y t : Int) (m : Bool) (w : World) (h : (Ed.mk k ax ay bx by' cx cy).ok = true) (ht : 0 ≤ t ∧ t ≤ 3) (hx : Lo x) (hy : Lo y) :
    Calls Try.prog 16 #[.agg #[.int .i64 k, .int .i64 ax, .int .i64 ay, .int .i64 bx, .int .i64 by', .int .i64 cx, .int .i64 cy], .agg #[.int .i64 x, .int .i64 y, .int .i64 t, .bool m]] w
      fun e w' => e = .returned (.agg #[.int .i64 (moveE (Ed.mk k ax ay bx by' cx cy) x y t m).k, .int .i64 (moveE (Ed.mk k ax ay bx by' cx cy) x y t m).ax, .int .i64 (moveE (Ed.mk k ax ay bx by' cx cy) x y t m).ay, .int .i64 (moveE (Ed.mk k ax ay bx by' cx cy) x y t m).bx, .int .i64 (moveE (Ed.mk k ax ay bx by' cx cy) x y t m).by', .int .i64 (moveE (Ed.mk k ax ay bx by' cx cy) x y t m).cx, .int .i64 (moveE (Ed.mk k ax ay bx by' cx cy) x y t m).cy]) ∧ Ext w w' := by
  obtain ⟨⟨h1, h2⟩, ⟨h3, h4⟩, h5, h6⟩ := ok_right h
  simp only at h1 h2 h3 h4 h5 h6
  have OF := fun w => edge_of k ax ay bx by' cx cy w
  rw [h] at OF
  have AA := fun w => vec_Apply x y t ax ay m w ht hx hy h1.lo h2.lo
  have AB := fun w => vec_Apply x y t bx by' m w ht hx hy h3.lo h4.lo
  have AC := fun w => vec_Apply x y t cx cy m w ht hx hy h5.lo h6.lo
  have hk3 : k = 1 ∨ k = 2 ∨ k = 3 := by
    simp only [Ed.ok, Bool.and_eq_true] at h
    have h2 := h.2
    by_cases k1 : k = 1
    · exact .inl k1
    · by_cases k2 : k = 2
      · exact .inr (.inl k2)
      · by_cases k3 : k = 3
        · exact .inr (.inr k3)
        · rw [if_neg k1, if_neg k2, if_neg k3] at h2; cases h2
  unfold moveE
  obtain rfl | rfl | rfl := hk3
  · refine Move_core 1 ax ay bx by' cx cy x y t 1 _ _ _ _ _ _ _ m _ _ _ w OF AA AB ?_ (by cases m <;> rfl) ?_
    · intro hn; exact absurd (by cases m <;> rfl) hn
    · intro _; exact ⟨rfl, rfl⟩
  · refine Move_core 2 ax ay bx by' cx cy x y t 3 _ _ _ _ _ _ _ m _ _ _ w OF AA AB (fun _ => AC) (by cases m <;> rfl) ?_
    intro hn; exact absurd (show (if m then (3 : Int) else 2) = 1 from hn) (by cases m <;> decide)
  · refine Move_core 3 ax ay bx by' cx cy x y t 2 _ _ _ _ _ _ _ m _ _ _ w OF AA AB (fun _ => AC) (by cases m <;> rfl) ?_
    intro hn; exact absurd (show (if m then (2 : Int) else 3) = 1 from hn) (by cases m <;> decide)
end Go.Proofs.Ytmmhiiiaccldmaa
