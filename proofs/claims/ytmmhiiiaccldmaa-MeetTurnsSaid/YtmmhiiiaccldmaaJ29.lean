/- Contract: etchantref07.Made; the edge that it makes is valid. | The law MeetBounds: its walk (printed by gen_bounds.py). -/
import Derived.Test.YtmmhiiiaccldmaaJ28
import Derived.Test.YtmmhiiiaccldmaaJ26
set_option linter.unusedVariables false
set_option linter.unusedSimpArgs false

namespace Go.Proofs.Ytmmhiiiaccldmaa
open Go.RowKit

theorem madeE_cases (L : List Int) : nextV L 0 3 = 0 ∨ nextV L 0 3 = 1 ∨ nextV L 0 3 = 2 := by
  have := nextV_bd L 0 (n := 3) (by omega)
  omega
theorem r07_Made (L : List Int) (a : Option Addr) (len cp : Nat) (f : Int) (w : World) (hL : Ints w a len L) (hcp : len ≤ cp ∧ cp ≤ 9223372036854775807) (hf : 1 ≤ f ∧ f ≤ 1048576) :
    Calls Try.prog 9 #[.slice a len cp, .int .i64 f] w fun e w' => e = .returned (.agg #[.int .i64 (madeE L f).k, .int .i64 (madeE L f).ax, .int .i64 (madeE L f).ay, .int .i64 (madeE L f).bx, .int .i64 (madeE L f).by', .int .i64 (madeE L f).cx, .int .i64 (madeE L f).cy]) ∧ Ext w w' := by
  obtain h | h | h := madeE_cases L
  · have e : madeE L f = ⟨1, f * (nextV L (nextK L 0) 13 + 6), f * (nextV L (nextK L (nextK L 0)) 13 + 6), f * nextV L (nextK L (nextK L (nextK L 0))) 25, f * nextV L (nextK L (nextK L (nextK L (nextK L 0)))) 25, 0, 0⟩ := by
      unfold madeE; simp only [h]; rfl
    rw [e]
    exact r07_Made_line L a len cp f w hL hcp hf (by omega)
  · obtain ⟨r, R⟩ : ∃ r, f * (1 + nextV L (nextK L (nextK L (nextK L 0))) 12) = r := ⟨_, rfl⟩
    obtain ⟨ti, T⟩ : ∃ r, nextV L (nextK L (nextK L (nextK L (nextK L 0)))) 4 = r := ⟨_, rfl⟩
    obtain ⟨⟨u1, u2⟩, U⟩ : ∃ p, p = rot ti.toNat (r, 0) := ⟨_, rfl⟩
    obtain ⟨⟨v1, v2⟩, V⟩ : ∃ p, p = rot ti.toNat (0, r) := ⟨_, rfl⟩
    have e : madeE L f = ⟨2, f * (nextV L (nextK L 0) 13 + 6) + u1, f * (nextV L (nextK L (nextK L 0)) 13 + 6) + u2, f * (nextV L (nextK L 0) 13 + 6) + v1, f * (nextV L (nextK L (nextK L 0)) 13 + 6) + v2, f * (nextV L (nextK L 0) 13 + 6), f * (nextV L (nextK L (nextK L 0)) 13 + 6)⟩ := by
      unfold madeE; simp only [h, R, T, ← U, ← V]; rfl
    rw [e]
    exact r07_Made_2 L a len cp f w hL hcp hf h _ _ r ti u1 u2 v1 v2 rfl rfl R T U V
  · obtain ⟨r, R⟩ : ∃ r, f * (1 + nextV L (nextK L (nextK L (nextK L 0))) 12) = r := ⟨_, rfl⟩
    obtain ⟨ti, T⟩ : ∃ r, nextV L (nextK L (nextK L (nextK L (nextK L 0)))) 4 = r := ⟨_, rfl⟩
    obtain ⟨⟨u1, u2⟩, U⟩ : ∃ p, p = rot ti.toNat (r, 0) := ⟨_, rfl⟩
    obtain ⟨⟨v1, v2⟩, V⟩ : ∃ p, p = rot ti.toNat (0, r) := ⟨_, rfl⟩
    have e : madeE L f = ⟨3, f * (nextV L (nextK L 0) 13 + 6) + v1, f * (nextV L (nextK L (nextK L 0)) 13 + 6) + v2, f * (nextV L (nextK L 0) 13 + 6) + u1, f * (nextV L (nextK L (nextK L 0)) 13 + 6) + u2, f * (nextV L (nextK L 0) 13 + 6), f * (nextV L (nextK L (nextK L 0)) 13 + 6)⟩ := by
      unfold madeE; simp only [h, R, T, ← U, ← V]; rfl
    rw [e]
    exact r07_Made_3 L a len cp f w hL hcp hf h _ _ r ti u1 u2 v1 v2 rfl rfl R T U V

/-- What is known of a made edge: a line, or an arc, within 36 times the factor. -/
theorem madeE_form (L : List Int) (f : Int) (hf : 1 ≤ f ∧ f ≤ 1048576) :
    (∃ x y z v : Int, madeE L f = ⟨1, f * x, f * y, f * z, f * v, 0, 0⟩ ∧ 6 ≤ x ∧ x ≤ 18 ∧ 6 ≤ y ∧ y ≤ 18 ∧ 0 ≤ z ∧ z ≤ 24 ∧ 0 ≤ v ∧ v ≤ 24) ∨
    (∃ x y r : Int, ∃ ux uy vx vy k : Int, madeE L f = ⟨k, f * x + f * r * ux, f * y + f * r * uy, f * x + f * r * vx, f * y + f * r * vy, f * x, f * y⟩ ∧ 6 ≤ x ∧ x ≤ 18 ∧ 6 ≤ y ∧ y ≤ 18 ∧ 1 ≤ r ∧ r ≤ 12 ∧
      ((ux = 1 ∧ uy = 0) ∨ (ux = -1 ∧ uy = 0) ∨ (ux = 0 ∧ uy = 1) ∨ (ux = 0 ∧ uy = -1)) ∧ ((k = 2 ∧ vx = -uy ∧ vy = ux) ∨ (k = 3 ∧ vx = uy ∧ vy = -ux))) := by
  have a1 := nextV_bd L (nextK L 0) (n := 13) (by omega)
  have a2 := nextV_bd L (nextK L (nextK L 0)) (n := 13) (by omega)
  obtain h | h | h := madeE_cases L
  · have a3 := nextV_bd L (nextK L (nextK L (nextK L 0))) (n := 25) (by omega)
    have a4 := nextV_bd L (nextK L (nextK L (nextK L (nextK L 0)))) (n := 25) (by omega)
    refine .inl ⟨nextV L (nextK L 0) 13 + 6, nextV L (nextK L (nextK L 0)) 13 + 6, nextV L (nextK L (nextK L (nextK L 0))) 25, nextV L (nextK L (nextK L (nextK L (nextK L 0)))) 25, ?_, by omega, by omega, by omega, by omega, by omega, by omega, by omega, by omega⟩
    unfold madeE; simp only [h]; rfl
  all_goals
    right
    have a3 := nextV_bd L (nextK L (nextK L (nextK L 0))) (n := 12) (by omega)
    have a4 := nextV_bd L (nextK L (nextK L (nextK L (nextK L 0)))) (n := 4) (by omega)
    refine ⟨nextV L (nextK L 0) 13 + 6, nextV L (nextK L (nextK L 0)) 13 + 6, 1 + nextV L (nextK L (nextK L (nextK L 0))) 12, ?_⟩
    obtain ⟨x, X⟩ : ∃ r, f * (nextV L (nextK L 0) 13 + 6) = r := ⟨_, rfl⟩
    obtain ⟨y, Y⟩ : ∃ r, f * (nextV L (nextK L (nextK L 0)) 13 + 6) = r := ⟨_, rfl⟩
    obtain ⟨r, R⟩ : ∃ r, f * (1 + nextV L (nextK L (nextK L (nextK L 0))) 12) = r := ⟨_, rfl⟩
    obtain ⟨ti, T⟩ : ∃ r, nextV L (nextK L (nextK L (nextK L (nextK L 0)))) 4 = r := ⟨_, rfl⟩
    rw [T] at a4
    unfold madeE
    simp only [h, R, T, X, Y]
    obtain rfl | rfl | rfl | rfl : ti = 0 ∨ ti = 1 ∨ ti = 2 ∨ ti = 3 := by omega
  all_goals
    first
      | (refine ⟨1, 0, 0, 1, 2, ?_, by omega, by omega, by omega, by omega, by omega, by omega, by simp, by simp⟩; simp [rot]; done)
      | (refine ⟨0, 1, -1, 0, 2, ?_, by omega, by omega, by omega, by omega, by omega, by omega, by simp, by simp⟩; simp [rot]; done)
      | (refine ⟨-1, 0, 0, -1, 2, ?_, by omega, by omega, by omega, by omega, by omega, by omega, by simp, by simp⟩; simp [rot]; done)
      | (refine ⟨0, -1, 1, 0, 2, ?_, by omega, by omega, by omega, by omega, by omega, by omega, by simp, by simp⟩; simp [rot]; done)
      | (refine ⟨0, 1, 1, 0, 3, ?_, by omega, by omega, by omega, by omega, by omega, by omega, by simp, by simp⟩; simp [rot]; done)
      | (refine ⟨-1, 0, 0, 1, 3, ?_, by omega, by omega, by omega, by omega, by omega, by omega, by simp, by simp⟩; simp [rot]; done)
      | (refine ⟨0, -1, -1, 0, 3, ?_, by omega, by omega, by omega, by omega, by omega, by omega, by simp, by simp⟩; simp [rot]; done)
      | (refine ⟨1, 0, 0, -1, 3, ?_, by omega, by omega, by omega, by omega, by omega, by omega, by simp, by simp⟩; simp [rot]; done)
theorem madeE_ok (L : List Int) (f : Int) (hf : 1 ≤ f ∧ f ≤ 1048576) : (madeE L f).ok = true := by
  obtain ⟨x, y, z, v, e, h1, h2, h3, h4, h5, h6, h7, h8⟩ | ⟨x, y, r, ux, uy, vx, vy, k, e, h1, h2, h3, h4, h5, h6, hu, hk⟩ := madeE_form L f hf
  · rw [e]
    have b1 := fac_bd hf (x := x) (m := 18) (by omega) (by omega) (by omega)
    have b2 := fac_bd hf (x := y) (m := 18) (by omega) (by omega) (by omega)
    have b3 := fac_bd hf (x := z) (m := 24) (by omega) (by omega) (by omega)
    have b4 := fac_bd hf (x := v) (m := 24) (by omega) (by omega) (by omega)
    simp only [Ed.ok, Ed.right, Bool.and_eq_true]
    refine ⟨⟨⟨coordB_iff.2 ?_, coordB_iff.2 ?_⟩, coordB_iff.2 ?_⟩, ?_⟩
    · unfold Co; omega
    · unfold Co; omega
    · unfold Co; omega
    · simp [Ed.lone]
  · rw [e]
    have b1 := fac_bd hf (x := x) (m := 18) (by omega) (by omega) (by omega)
    have b2 := fac_bd hf (x := y) (m := 18) (by omega) (by omega) (by omega)
    have b3 := fac_bd hf (x := r) (m := 12) (by omega) (by omega) (by omega)
    have b4 : 0 < f * r := Int.mul_pos (by omega) (by omega)
    obtain ⟨X, eX⟩ : ∃ q, f * x = q := ⟨_, rfl⟩
    obtain ⟨Y, eY⟩ : ∃ q, f * y = q := ⟨_, rfl⟩
    obtain ⟨R, eR⟩ : ∃ q, f * r = q := ⟨_, rfl⟩
    rw [eX] at b1 ⊢
    rw [eY] at b2 ⊢
    rw [eR] at b3 b4 ⊢
    clear e eX eY eR
    have ca : ∀ a b : Int, a + b - a = b := fun a b => by omega
    have cb : ∀ a b : Int, a - b - a = -b := fun a b => by omega
    have cc : ∀ a b : Int, a + -b - a = -b := fun a b => by omega
    have n0 : ¬ R = 0 := by omega
    have n1 : ¬ -R = 0 := by omega
    rcases hu with ⟨rfl, rfl⟩ | ⟨rfl, rfl⟩ | ⟨rfl, rfl⟩ | ⟨rfl, rfl⟩ <;> rcases hk with ⟨rfl, rfl, rfl⟩ | ⟨rfl, rfl, rfl⟩ <;>
      (simp only [Ed.ok, Ed.right, Bool.and_eq_true]
       refine ⟨⟨⟨coordB_iff.2 ?_, coordB_iff.2 ?_⟩, coordB_iff.2 ?_⟩, ?_⟩
       · unfold Co; omega
       · unfold Co; omega
       · unfold Co; omega
       · simp [Ed.quarter, quarterB, rot, ca, cb, cc, n0, n1]
         try omega)
end Go.Proofs.Ytmmhiiiaccldmaa

namespace Go.Proofs.Ytmmhiiiaccldmaa
open Go.RowKit
attribute [local go_sem] Gives givesU

/-- What the law asks of the number of common points. -/
theorem bounds_ok {e f : Ed} (he : e.ok = true) (hf : f.ok = true) : -1 ≤ countE e f ∧ countE e f ≤ 2 ∧ (e.k = 1 ∧ f.k = 1 → countE e f ≤ 1) ∧
    (¬ (e.k = 1 ∧ f.k = 1) → ¬ (¬ e.k = 1 ∧ ¬ f.k = 1 ∧ e.cx = f.cx ∧ e.cy = f.cy ∧ radZ e = radZ f) → 0 ≤ countE e f) ∧ (¬ e.k = 1 ∧ ¬ f.k = 1 ∧ e.cx = f.cx ∧ e.cy = f.cy ∧ radZ e = radZ f → countE e f ≤ 1) := by
  have o1 := onZ_bd f e.ax e.ay
  have o2 := onZ_bd e f.ax f.ay
  have l1 := linesZ_bd e.ax e.ay e.bx e.by' f.ax f.ay f.bx f.by'
  have c1 := countZ_bd (laE e f).delta (laE e f).list
  have c2 := countZ_bd (laE f e).delta (laE f e).list
  unfold countE crossZ
  rw [he, hf]
  simp only [Bool.and_self, Bool.not_true, Bool.false_eq_true, if_false]
  by_cases k1 : e.k = 1
  · rw [if_pos k1]
    by_cases k2 : f.k = 1
    · rw [if_pos k2]
      split
      · exact ⟨by omega, by omega, fun _ => by omega, fun h => absurd ⟨k1, k2⟩ h, fun h => absurd k1 h.1⟩
      · split
        · exact ⟨by omega, by omega, fun _ => by omega, fun h => absurd ⟨k1, k2⟩ h, fun h => absurd k1 h.1⟩
        · exact ⟨by omega, by omega, fun _ => by omega, fun h => absurd ⟨k1, k2⟩ h, fun h => absurd k1 h.1⟩
    · rw [if_neg k2]
      split
      · exact ⟨by omega, by omega, fun h => absurd h.2 k2, fun _ _ => by omega, fun h => absurd k1 h.1⟩
      · exact ⟨by omega, by omega, fun h => absurd h.2 k2, fun _ _ => by omega, fun h => absurd k1 h.1⟩
  · rw [if_neg k1]
    by_cases k2 : f.k = 1
    · rw [if_pos k2]
      split
      · exact ⟨by omega, by omega, fun h => absurd h.1 k1, fun _ _ => by omega, fun h => absurd k2 h.2.1⟩
      · exact ⟨by omega, by omega, fun h => absurd h.1 k1, fun _ _ => by omega, fun h => absurd k2 h.2.1⟩
    · rw [if_neg k2]
      obtain ⟨a1, a2, a3, a4⟩ := arcsZ_bd he hf k1 k2
      exact ⟨a1, a2, fun h => absurd h.1 k1, fun _ h => a3 (fun g => h ⟨k1, k2, g.1, g.2.1, g.2.2⟩), fun h => a4 ⟨h.2.2.1, h.2.2.2.1⟩⟩

set_option maxRecDepth 100000 in
set_option maxHeartbeats 16000000 in
theorem Bounds_core (k ax ay bx by' cx cy k' dx dy ex ey fx fy n s ra rb : Int) (a0 a1 : Option Addr) (n0 p0 n1 p1 : Nat) (w : World)
    (M1 : ∀ W, Ext w W → Calls Try.prog 9 #[.slice a0 n0 p0, .int .i64 1] W fun e w' => e = .returned (.agg #[.int .i64 k, .int .i64 ax, .int .i64 ay, .int .i64 bx, .int .i64 by', .int .i64 cx, .int .i64 cy]) ∧ Ext W w')
    (M2 : ∀ W, Ext w W → Calls Try.prog 9 #[.slice a1 n1 p1, .int .i64 1] W fun e w' => e = .returned (.agg #[.int .i64 k', .int .i64 dx, .int .i64 dy, .int .i64 ex, .int .i64 ey, .int .i64 fx, .int .i64 fy]) ∧ Ext W w')
    (CN : ∀ W, Calls Try.prog 10 #[.agg #[.int .i64 k, .int .i64 ax, .int .i64 ay, .int .i64 bx, .int .i64 by', .int .i64 cx, .int .i64 cy], .agg #[.int .i64 k', .int .i64 dx, .int .i64 dy, .int .i64 ex, .int .i64 ey, .int .i64 fx, .int .i64 fy]] W fun e w' => e = .returned (.int .i64 n) ∧ Ext W w')
    (CS : ∀ W, Calls Try.prog 10 #[.agg #[.int .i64 k, .int .i64 ax, .int .i64 ay, .int .i64 bx, .int .i64 by', .int .i64 cx, .int .i64 cy], .agg #[.int .i64 k, .int .i64 ax, .int .i64 ay, .int .i64 bx, .int .i64 by', .int .i64 cx, .int .i64 cy]] W fun e w' => e = .returned (.int .i64 s) ∧ Ext W w')
    (RA : ∀ W, Calls Try.prog 11 #[.agg #[.int .i64 k, .int .i64 ax, .int .i64 ay, .int .i64 bx, .int .i64 by', .int .i64 cx, .int .i64 cy]] W fun e w' => e = .returned (.int .i64 ra) ∧ Ext W w')
    (RB : ∀ W, Calls Try.prog 11 #[.agg #[.int .i64 k', .int .i64 dx, .int .i64 dy, .int .i64 ex, .int .i64 ey, .int .i64 fx, .int .i64 fy]] W fun e w' => e = .returned (.int .i64 rb) ∧ Ext W w')
    (h1 : -1 ≤ n) (h2 : n ≤ 2) (h3 : k = 1 ∧ k' = 1 → n ≤ 1) (h4 : ¬ (k = 1 ∧ k' = 1) → ¬ (¬ k = 1 ∧ ¬ k' = 1 ∧ cx = fx ∧ cy = fy ∧ ra = rb) → 0 ≤ n) (h5 : ¬ k = 1 ∧ ¬ k' = 1 ∧ cx = fx ∧ cy = fy ∧ ra = rb → n ≤ 1)
    (h6 : s = if ax = bx ∧ ay = by' then 1 else -1) :
    Calls Try.prog 3 #[.slice a0 n0 p0, .slice a1 n1 p1] w fun e w' => e = .returned (.bool true) ∧ Ext w w' := by
  have SN := Lib.hid law_sanity
  replace M1 := Lib.hid M1
  replace M2 := Lib.hid M2
  replace CN := Lib.hid CN
  replace CS := Lib.hid CS
  replace RA := Lib.hid RA
  replace RB := Lib.hid RB
  have H3 := Lib.hid h3
  have H4 := Lib.hid h4
  have H5 := Lib.hid h5
  have H6 := Lib.hid h6
  clear h3 h4 h5 h6
  go_enter Try.func3, Try.ntmps3
  go_wp2_with fail
  refine (SN.out _).mono ?_
  rintro e w1 ⟨rfl, hx1⟩
  go_wp2_with fail
  refine (M1.out _ hx1).mono ?_
  rintro e w2 ⟨rfl, hx⟩
  have hx2 : Ext w w2 := Ext.step hx1 hx
  clear hx hx1
  go_wp2_with fail
  refine (M2.out _ hx2).mono ?_
  rintro e w3 ⟨rfl, hx⟩
  have hx3 : Ext w w3 := Ext.step hx2 hx
  have hs3 := hx3.size
  clear hx hx2
  go_upto_region 3 with (fail)
  refine wp_world (fun W => Ext w W ∧ (W.cell? ⟨w3.heap.size, 0, none⟩ = some (.int .i64 k) ∧ W.cell? ⟨w3.heap.size, 1, none⟩ = some (.int .i64 ax) ∧ W.cell? ⟨w3.heap.size, 2, none⟩ = some (.int .i64 ay) ∧ W.cell? ⟨w3.heap.size, 3, none⟩ = some (.int .i64 bx) ∧ W.cell? ⟨w3.heap.size, 4, none⟩ = some (.int .i64 by') ∧ W.cell? ⟨w3.heap.size, 5, none⟩ = some (.int .i64 cx) ∧ W.cell? ⟨w3.heap.size, 6, none⟩ = some (.int .i64 cy) ∧ W.cell? ⟨w3.heap.size + 1, 0, none⟩ = some (.int .i64 k') ∧ W.cell? ⟨w3.heap.size + 1, 1, none⟩ = some (.int .i64 dx) ∧ W.cell? ⟨w3.heap.size + 1, 2, none⟩ = some (.int .i64 dy) ∧ W.cell? ⟨w3.heap.size + 1, 3, none⟩ = some (.int .i64 ex) ∧ W.cell? ⟨w3.heap.size + 1, 4, none⟩ = some (.int .i64 ey) ∧ W.cell? ⟨w3.heap.size + 1, 5, none⟩ = some (.int .i64 fx) ∧ W.cell? ⟨w3.heap.size + 1, 6, none⟩ = some (.int .i64 fy)) ∧ w3.heap.size + 1 < W.heap.size) ?_ ?_
  · refine ⟨by (repeat (first | exact Below.refl _ _ | assumption | refine Below.drewN ?_ _ | refine Below.drew ?_ | refine Below.setCell ?_ (by first | exact Nat.le_refl _ | (simp; done) | (simp; omega) | omega) _ | refine Below.alloc ?_ (by first | exact Nat.le_refl _ | (simp; done) | (simp; omega) | omega) _)), by go_simp, by simp⟩
  rintro W4 ⟨hx4, hc4, hl4⟩
  obtain ⟨A, hA⟩ : ∃ A, Hid (w3.heap.size = A) := ⟨_, rfl⟩
  obtain ⟨B, hB⟩ : ∃ B, Hid (A + 1 = B) := ⟨_, rfl⟩
  rw [hA.out, hB.out] at hc4
  rw [hA.out, hB.out] at hl4
  rw [hA.out, hB.out]
  have hlA : A < W4.heap.size := by have := hB.out; omega
  clear hx3 hs3
  obtain ⟨z0, z1, z2, z3, z4, z5, z6, z7, z8, z9, z10, z11, z12, z13⟩ := hc4
  go_wp2_with fail
  refine (CN.out _).mono ?_
  rintro e w5 ⟨rfl, hx⟩
  have hq5 : ∀ b o, b < W4.heap.size → w5.cell? ⟨b, o, none⟩ = W4.cell? ⟨b, o, none⟩ := fun b o h => hx.cell (p := ⟨b, o, none⟩) h
  replace z0 := (hq5 A 0 hlA).trans z0
  replace z1 := (hq5 A 1 hlA).trans z1
  replace z2 := (hq5 A 2 hlA).trans z2
  replace z3 := (hq5 A 3 hlA).trans z3
  replace z4 := (hq5 A 4 hlA).trans z4
  replace z5 := (hq5 A 5 hlA).trans z5
  replace z6 := (hq5 A 6 hlA).trans z6
  replace z7 := (hq5 B 0 hl4).trans z7
  replace z8 := (hq5 B 1 hl4).trans z8
  replace z9 := (hq5 B 2 hl4).trans z9
  replace z10 := (hq5 B 3 hl4).trans z10
  replace z11 := (hq5 B 4 hl4).trans z11
  replace z12 := (hq5 B 5 hl4).trans z12
  replace z13 := (hq5 B 6 hl4).trans z13
  have hx5 : Ext w w5 := Ext.step hx4 hx
  have hA5 : A < w5.heap.size := Nat.lt_of_lt_of_le hlA hx.size
  have hB5 : B < w5.heap.size := Nat.lt_of_lt_of_le hl4 hx.size
  clear hq5 hx hx4 hlA hl4
  have t1 : decide (n < -1) = false := by rw [decide_eq_false_iff_not]; omega
  have t2 : decide (2 < n) = false := by rw [decide_eq_false_iff_not]; omega
  by_cases ka : k = 1
  · by_cases kb : k' = 1
    · skip
      have g1 : (k == 1) = true := by simpa using ka
      have g1' : (k != 1) = false := by simp [ka]
      have g2 : (k' == 1) = true := by simpa using kb
      have g2' : (k' != 1) = false := by simp [kb]
      have t3 : decide (1 < n) = false := by rw [decide_eq_false_iff_not]; have := H3.out ⟨ka, kb⟩; omega
      clear ka kb H3 H4 H5
      go_wp2_with fail
      first | refine wp_region_FC (fun W => W.cell? ⟨A, 0, none⟩ = some (.int .i64 k) ∧ W.cell? ⟨A, 1, none⟩ = some (.int .i64 ax) ∧ W.cell? ⟨A, 2, none⟩ = some (.int .i64 ay) ∧ W.cell? ⟨A, 3, none⟩ = some (.int .i64 bx) ∧ W.cell? ⟨A, 4, none⟩ = some (.int .i64 by') ∧ W.cell? ⟨A, 5, none⟩ = some (.int .i64 cx) ∧ W.cell? ⟨A, 6, none⟩ = some (.int .i64 cy) ∧ W.cell? ⟨B, 0, none⟩ = some (.int .i64 k') ∧ W.cell? ⟨B, 1, none⟩ = some (.int .i64 dx) ∧ W.cell? ⟨B, 2, none⟩ = some (.int .i64 dy) ∧ W.cell? ⟨B, 3, none⟩ = some (.int .i64 ex) ∧ W.cell? ⟨B, 4, none⟩ = some (.int .i64 ey) ∧ W.cell? ⟨B, 5, none⟩ = some (.int .i64 fx) ∧ W.cell? ⟨B, 6, none⟩ = some (.int .i64 fy)) (by kernel_rfl) (by kernel_rfl) ?_ ?_ ?_ | refine wp_region_FCs (fun W => W.cell? ⟨A, 0, none⟩ = some (.int .i64 k) ∧ W.cell? ⟨A, 1, none⟩ = some (.int .i64 ax) ∧ W.cell? ⟨A, 2, none⟩ = some (.int .i64 ay) ∧ W.cell? ⟨A, 3, none⟩ = some (.int .i64 bx) ∧ W.cell? ⟨A, 4, none⟩ = some (.int .i64 by') ∧ W.cell? ⟨A, 5, none⟩ = some (.int .i64 cx) ∧ W.cell? ⟨A, 6, none⟩ = some (.int .i64 cy) ∧ W.cell? ⟨B, 0, none⟩ = some (.int .i64 k') ∧ W.cell? ⟨B, 1, none⟩ = some (.int .i64 dx) ∧ W.cell? ⟨B, 2, none⟩ = some (.int .i64 dy) ∧ W.cell? ⟨B, 3, none⟩ = some (.int .i64 ex) ∧ W.cell? ⟨B, 4, none⟩ = some (.int .i64 ey) ∧ W.cell? ⟨B, 5, none⟩ = some (.int .i64 fx) ∧ W.cell? ⟨B, 6, none⟩ = some (.int .i64 fy)) ?_ ?_ ?_
      · go_simp
      · (intro W W' h hx hb; have hs := hx.size; (try simp at hs); have hbc : ∀ b o, b < W.heap.size → W'.cell? ⟨b, o, none⟩ = W.cell? ⟨b, o, none⟩ := fun b o h => hb.cell (p := ⟨b, o, none⟩) h; (try dsimp only at h ⊢); simp (disch := omega) only [hbc]; exact h)
      repeat (first | (refine F_skip (by rfl) ?_; simp only [Act.put, List.setIfInBounds_toArray, List.set_cons_zero, List.set_cons_succ]) | (refine F_run (v := ?_) (by rfl) ?_ ?_; rotate_left; (· (intro W hW; (try dsimp only at hW); go_simp; try with_reducible rfl)); simp only [Act.put, List.setIfInBounds_toArray, List.set_cons_zero, List.set_cons_succ]))
      rintro W6 ⟨hx6, z0, z1, z2, z3, z4, z5, z6, z7, z8, z9, z10, z11, z12, z13⟩
      replace hx5 : Ext w W6 := Ext.step hx5 hx6
      have hs6 := hx5.size
      clear hx6
      obtain ⟨sf, hsf⟩ : ∃ b, (ax == bx && ay == by') = b := ⟨_, rfl⟩
      have heqS : ∀ w : World, (binOp .eql 25 (.agg #[.int .i64 ax, .int .i64 ay]) (.agg #[.int .i64 bx, .int .i64 by'])).run Try.prog w = .ok (.bool sf) w := fun w => by rw [eql_pt, hsf]
      have hss : s = if sf then 1 else -1 := by
        rw [H6.out]
        cases sf with
        | true => rw [if_pos (by simpa using hsf)]; rfl
        | false => rw [if_neg (by intro h; rw [h.1, h.2] at hsf; simp at hsf)]; rfl
      clear hsf
      cases sf
      all_goals
        simp only [Bool.false_eq_true, if_false, if_true] at hss
        subst hss
        go_wp2_with fail
        refine (CS.out _).mono ?_
        rintro e w8 ⟨rfl, hx⟩
        have hx8 : Ext w w8 := Ext.step (by (repeat (first | exact Below.refl _ _ | assumption | refine Below.drewN ?_ _ | refine Below.drew ?_ | refine Below.setCell ?_ (by first | exact Nat.le_refl _ | (simp; done) | (simp; omega) | omega) _ | refine Below.alloc ?_ (by first | exact Nat.le_refl _ | (simp; done) | (simp; omega) | omega) _))) hx
        go_wp2
        go_ret
        exact ⟨rfl, hx8⟩

    · skip
      have g1 : (k == 1) = true := by simpa using ka
      have g1' : (k != 1) = false := by simp [ka]
      have g2 : (k' == 1) = false := by simpa using kb
      have g2' : (k' != 1) = true := by simpa using kb
      have t4 : decide (n < 0) = false := by rw [decide_eq_false_iff_not]; have := H4.out (fun h => kb h.2) (fun h => h.1 ka); omega
      clear ka kb H3 H4 H5
      go_wp2_with fail
      first | refine wp_region_FC (fun W => W.cell? ⟨A, 0, none⟩ = some (.int .i64 k) ∧ W.cell? ⟨A, 1, none⟩ = some (.int .i64 ax) ∧ W.cell? ⟨A, 2, none⟩ = some (.int .i64 ay) ∧ W.cell? ⟨A, 3, none⟩ = some (.int .i64 bx) ∧ W.cell? ⟨A, 4, none⟩ = some (.int .i64 by') ∧ W.cell? ⟨A, 5, none⟩ = some (.int .i64 cx) ∧ W.cell? ⟨A, 6, none⟩ = some (.int .i64 cy) ∧ W.cell? ⟨B, 0, none⟩ = some (.int .i64 k') ∧ W.cell? ⟨B, 1, none⟩ = some (.int .i64 dx) ∧ W.cell? ⟨B, 2, none⟩ = some (.int .i64 dy) ∧ W.cell? ⟨B, 3, none⟩ = some (.int .i64 ex) ∧ W.cell? ⟨B, 4, none⟩ = some (.int .i64 ey) ∧ W.cell? ⟨B, 5, none⟩ = some (.int .i64 fx) ∧ W.cell? ⟨B, 6, none⟩ = some (.int .i64 fy)) (by kernel_rfl) (by kernel_rfl) ?_ ?_ ?_ | refine wp_region_FCs (fun W => W.cell? ⟨A, 0, none⟩ = some (.int .i64 k) ∧ W.cell? ⟨A, 1, none⟩ = some (.int .i64 ax) ∧ W.cell? ⟨A, 2, none⟩ = some (.int .i64 ay) ∧ W.cell? ⟨A, 3, none⟩ = some (.int .i64 bx) ∧ W.cell? ⟨A, 4, none⟩ = some (.int .i64 by') ∧ W.cell? ⟨A, 5, none⟩ = some (.int .i64 cx) ∧ W.cell? ⟨A, 6, none⟩ = some (.int .i64 cy) ∧ W.cell? ⟨B, 0, none⟩ = some (.int .i64 k') ∧ W.cell? ⟨B, 1, none⟩ = some (.int .i64 dx) ∧ W.cell? ⟨B, 2, none⟩ = some (.int .i64 dy) ∧ W.cell? ⟨B, 3, none⟩ = some (.int .i64 ex) ∧ W.cell? ⟨B, 4, none⟩ = some (.int .i64 ey) ∧ W.cell? ⟨B, 5, none⟩ = some (.int .i64 fx) ∧ W.cell? ⟨B, 6, none⟩ = some (.int .i64 fy)) ?_ ?_ ?_
      · go_simp
      · (intro W W' h hx hb; have hs := hx.size; (try simp at hs); have hbc : ∀ b o, b < W.heap.size → W'.cell? ⟨b, o, none⟩ = W.cell? ⟨b, o, none⟩ := fun b o h => hb.cell (p := ⟨b, o, none⟩) h; (try dsimp only at h ⊢); simp (disch := omega) only [hbc]; exact h)
      repeat (first | (refine F_skip (by rfl) ?_; simp only [Act.put, List.setIfInBounds_toArray, List.set_cons_zero, List.set_cons_succ]) | (refine F_run (v := ?_) (by rfl) ?_ ?_; rotate_left; (· (intro W hW; (try dsimp only at hW); go_simp; try with_reducible rfl)); simp only [Act.put, List.setIfInBounds_toArray, List.set_cons_zero, List.set_cons_succ]))
      rintro W6 ⟨hx6, z0, z1, z2, z3, z4, z5, z6, z7, z8, z9, z10, z11, z12, z13⟩
      replace hx5 : Ext w W6 := Ext.step hx5 hx6
      have hs6 := hx5.size
      clear hx6
      obtain ⟨sf, hsf⟩ : ∃ b, (ax == bx && ay == by') = b := ⟨_, rfl⟩
      have heqS : ∀ w : World, (binOp .eql 25 (.agg #[.int .i64 ax, .int .i64 ay]) (.agg #[.int .i64 bx, .int .i64 by'])).run Try.prog w = .ok (.bool sf) w := fun w => by rw [eql_pt, hsf]
      have hss : s = if sf then 1 else -1 := by
        rw [H6.out]
        cases sf with
        | true => rw [if_pos (by simpa using hsf)]; rfl
        | false => rw [if_neg (by intro h; rw [h.1, h.2] at hsf; simp at hsf)]; rfl
      clear hsf
      cases sf
      all_goals
        simp only [Bool.false_eq_true, if_false, if_true] at hss
        subst hss
        go_wp2_with fail
        refine (CS.out _).mono ?_
        rintro e w8 ⟨rfl, hx⟩
        have hx8 : Ext w w8 := Ext.step (by (repeat (first | exact Below.refl _ _ | assumption | refine Below.drewN ?_ _ | refine Below.drew ?_ | refine Below.setCell ?_ (by first | exact Nat.le_refl _ | (simp; done) | (simp; omega) | omega) _ | refine Below.alloc ?_ (by first | exact Nat.le_refl _ | (simp; done) | (simp; omega) | omega) _))) hx
        go_wp2
        go_ret
        exact ⟨rfl, hx8⟩

  · by_cases kb : k' = 1
    · skip
      have g1 : (k == 1) = false := by simpa using ka
      have g1' : (k != 1) = true := by simpa using ka
      have g2 : (k' == 1) = true := by simpa using kb
      have g2' : (k' != 1) = false := by simp [kb]
      have t4 : decide (n < 0) = false := by rw [decide_eq_false_iff_not]; have := H4.out (fun h => ka h.1) (fun h => h.2.1 kb); omega
      clear ka kb H3 H4 H5
      go_wp2_with fail
      first | refine wp_region_FC (fun W => W.cell? ⟨A, 0, none⟩ = some (.int .i64 k) ∧ W.cell? ⟨A, 1, none⟩ = some (.int .i64 ax) ∧ W.cell? ⟨A, 2, none⟩ = some (.int .i64 ay) ∧ W.cell? ⟨A, 3, none⟩ = some (.int .i64 bx) ∧ W.cell? ⟨A, 4, none⟩ = some (.int .i64 by') ∧ W.cell? ⟨A, 5, none⟩ = some (.int .i64 cx) ∧ W.cell? ⟨A, 6, none⟩ = some (.int .i64 cy) ∧ W.cell? ⟨B, 0, none⟩ = some (.int .i64 k') ∧ W.cell? ⟨B, 1, none⟩ = some (.int .i64 dx) ∧ W.cell? ⟨B, 2, none⟩ = some (.int .i64 dy) ∧ W.cell? ⟨B, 3, none⟩ = some (.int .i64 ex) ∧ W.cell? ⟨B, 4, none⟩ = some (.int .i64 ey) ∧ W.cell? ⟨B, 5, none⟩ = some (.int .i64 fx) ∧ W.cell? ⟨B, 6, none⟩ = some (.int .i64 fy)) (by kernel_rfl) (by kernel_rfl) ?_ ?_ ?_ | refine wp_region_FCs (fun W => W.cell? ⟨A, 0, none⟩ = some (.int .i64 k) ∧ W.cell? ⟨A, 1, none⟩ = some (.int .i64 ax) ∧ W.cell? ⟨A, 2, none⟩ = some (.int .i64 ay) ∧ W.cell? ⟨A, 3, none⟩ = some (.int .i64 bx) ∧ W.cell? ⟨A, 4, none⟩ = some (.int .i64 by') ∧ W.cell? ⟨A, 5, none⟩ = some (.int .i64 cx) ∧ W.cell? ⟨A, 6, none⟩ = some (.int .i64 cy) ∧ W.cell? ⟨B, 0, none⟩ = some (.int .i64 k') ∧ W.cell? ⟨B, 1, none⟩ = some (.int .i64 dx) ∧ W.cell? ⟨B, 2, none⟩ = some (.int .i64 dy) ∧ W.cell? ⟨B, 3, none⟩ = some (.int .i64 ex) ∧ W.cell? ⟨B, 4, none⟩ = some (.int .i64 ey) ∧ W.cell? ⟨B, 5, none⟩ = some (.int .i64 fx) ∧ W.cell? ⟨B, 6, none⟩ = some (.int .i64 fy)) ?_ ?_ ?_
      · go_simp
      · (intro W W' h hx hb; have hs := hx.size; (try simp at hs); have hbc : ∀ b o, b < W.heap.size → W'.cell? ⟨b, o, none⟩ = W.cell? ⟨b, o, none⟩ := fun b o h => hb.cell (p := ⟨b, o, none⟩) h; (try dsimp only at h ⊢); simp (disch := omega) only [hbc]; exact h)
      repeat (first | (refine F_skip (by rfl) ?_; simp only [Act.put, List.setIfInBounds_toArray, List.set_cons_zero, List.set_cons_succ]) | (refine F_run (v := ?_) (by rfl) ?_ ?_; rotate_left; (· (intro W hW; (try dsimp only at hW); go_simp; try with_reducible rfl)); simp only [Act.put, List.setIfInBounds_toArray, List.set_cons_zero, List.set_cons_succ]))
      rintro W6 ⟨hx6, z0, z1, z2, z3, z4, z5, z6, z7, z8, z9, z10, z11, z12, z13⟩
      replace hx5 : Ext w W6 := Ext.step hx5 hx6
      have hs6 := hx5.size
      clear hx6
      obtain ⟨sf, hsf⟩ : ∃ b, (ax == bx && ay == by') = b := ⟨_, rfl⟩
      have heqS : ∀ w : World, (binOp .eql 25 (.agg #[.int .i64 ax, .int .i64 ay]) (.agg #[.int .i64 bx, .int .i64 by'])).run Try.prog w = .ok (.bool sf) w := fun w => by rw [eql_pt, hsf]
      have hss : s = if sf then 1 else -1 := by
        rw [H6.out]
        cases sf with
        | true => rw [if_pos (by simpa using hsf)]; rfl
        | false => rw [if_neg (by intro h; rw [h.1, h.2] at hsf; simp at hsf)]; rfl
      clear hsf
      cases sf
      all_goals
        simp only [Bool.false_eq_true, if_false, if_true] at hss
        subst hss
        go_wp2_with fail
        refine (CS.out _).mono ?_
        rintro e w8 ⟨rfl, hx⟩
        have hx8 : Ext w w8 := Ext.step (by (repeat (first | exact Below.refl _ _ | assumption | refine Below.drewN ?_ _ | refine Below.drew ?_ | refine Below.setCell ?_ (by first | exact Nat.le_refl _ | (simp; done) | (simp; omega) | omega) _ | refine Below.alloc ?_ (by first | exact Nat.le_refl _ | (simp; done) | (simp; omega) | omega) _))) hx
        go_wp2
        go_ret
        exact ⟨rfl, hx8⟩

    · by_cases hcc : cx = fx ∧ cy = fy
      · have heqC : ∀ w : World, (binOp .eql 25 (.agg #[.int .i64 cx, .int .i64 cy]) (.agg #[.int .i64 fx, .int .i64 fy])).run Try.prog w = .ok (.bool true) w := fun w => by rw [eql_pt, hcc.1, hcc.2]; simp
        by_cases hr : ra = rb
        · skip
          have g1 : (k == 1) = false := by simpa using ka
          have g1' : (k != 1) = true := by simpa using ka
          have g2 : (k' == 1) = false := by simpa using kb
          have g2' : (k' != 1) = true := by simpa using kb
          have t3 : decide (1 < n) = false := by rw [decide_eq_false_iff_not]; have := H5.out ⟨ka, kb, hcc.1, hcc.2, hr⟩; omega
          have g3 : (ra == rb) = true := by simpa using hr
          clear ka kb H3 H4 H5 hcc hr
          go_wp2_with fail
          first | refine wp_region_FC (fun W => W.cell? ⟨A, 0, none⟩ = some (.int .i64 k) ∧ W.cell? ⟨A, 1, none⟩ = some (.int .i64 ax) ∧ W.cell? ⟨A, 2, none⟩ = some (.int .i64 ay) ∧ W.cell? ⟨A, 3, none⟩ = some (.int .i64 bx) ∧ W.cell? ⟨A, 4, none⟩ = some (.int .i64 by') ∧ W.cell? ⟨A, 5, none⟩ = some (.int .i64 cx) ∧ W.cell? ⟨A, 6, none⟩ = some (.int .i64 cy) ∧ W.cell? ⟨B, 0, none⟩ = some (.int .i64 k') ∧ W.cell? ⟨B, 1, none⟩ = some (.int .i64 dx) ∧ W.cell? ⟨B, 2, none⟩ = some (.int .i64 dy) ∧ W.cell? ⟨B, 3, none⟩ = some (.int .i64 ex) ∧ W.cell? ⟨B, 4, none⟩ = some (.int .i64 ey) ∧ W.cell? ⟨B, 5, none⟩ = some (.int .i64 fx) ∧ W.cell? ⟨B, 6, none⟩ = some (.int .i64 fy)) (by kernel_rfl) (by kernel_rfl) ?_ ?_ ?_ | refine wp_region_FCs (fun W => W.cell? ⟨A, 0, none⟩ = some (.int .i64 k) ∧ W.cell? ⟨A, 1, none⟩ = some (.int .i64 ax) ∧ W.cell? ⟨A, 2, none⟩ = some (.int .i64 ay) ∧ W.cell? ⟨A, 3, none⟩ = some (.int .i64 bx) ∧ W.cell? ⟨A, 4, none⟩ = some (.int .i64 by') ∧ W.cell? ⟨A, 5, none⟩ = some (.int .i64 cx) ∧ W.cell? ⟨A, 6, none⟩ = some (.int .i64 cy) ∧ W.cell? ⟨B, 0, none⟩ = some (.int .i64 k') ∧ W.cell? ⟨B, 1, none⟩ = some (.int .i64 dx) ∧ W.cell? ⟨B, 2, none⟩ = some (.int .i64 dy) ∧ W.cell? ⟨B, 3, none⟩ = some (.int .i64 ex) ∧ W.cell? ⟨B, 4, none⟩ = some (.int .i64 ey) ∧ W.cell? ⟨B, 5, none⟩ = some (.int .i64 fx) ∧ W.cell? ⟨B, 6, none⟩ = some (.int .i64 fy)) ?_ ?_ ?_
          · go_simp
          · (intro W W' h hx hb; have hs := hx.size; (try simp at hs); have hbc : ∀ b o, b < W.heap.size → W'.cell? ⟨b, o, none⟩ = W.cell? ⟨b, o, none⟩ := fun b o h => hb.cell (p := ⟨b, o, none⟩) h; (try dsimp only at h ⊢); simp (disch := omega) only [hbc]; exact h)
          repeat (first | (refine F_skip (by rfl) ?_; simp only [Act.put, List.setIfInBounds_toArray, List.set_cons_zero, List.set_cons_succ]) | (refine F_run (v := ?_) (by rfl) ?_ ?_; rotate_left; (· (intro W hW; (try dsimp only at hW); go_simp; try with_reducible rfl)); simp only [Act.put, List.setIfInBounds_toArray, List.set_cons_zero, List.set_cons_succ]))
          (refine F_call (v := .int .i64 ra) (by rfl) (by rfl) ?_ ?_; (· (intro W hW; (try dsimp only at hW); go_simp; refine (RA.out _).mono ?_; rintro e w' ⟨rfl, hx⟩; exact ⟨_, rfl, rfl, hx⟩))); simp only [Act.put, List.setIfInBounds_toArray, List.set_cons_zero, List.set_cons_succ]
          repeat (first | (refine F_skip (by rfl) ?_; simp only [Act.put, List.setIfInBounds_toArray, List.set_cons_zero, List.set_cons_succ]) | (refine F_run (v := ?_) (by rfl) ?_ ?_; rotate_left; (· (intro W hW; (try dsimp only at hW); go_simp; try with_reducible rfl)); simp only [Act.put, List.setIfInBounds_toArray, List.set_cons_zero, List.set_cons_succ]))
          (refine F_call (v := .int .i64 rb) (by rfl) (by rfl) ?_ ?_; (· (intro W hW; (try dsimp only at hW); go_simp; refine (RB.out _).mono ?_; rintro e w' ⟨rfl, hx⟩; exact ⟨_, rfl, rfl, hx⟩))); simp only [Act.put, List.setIfInBounds_toArray, List.set_cons_zero, List.set_cons_succ]
          repeat (first | (refine F_skip (by rfl) ?_; simp only [Act.put, List.setIfInBounds_toArray, List.set_cons_zero, List.set_cons_succ]) | (refine F_run (v := ?_) (by rfl) ?_ ?_; rotate_left; (· (intro W hW; (try dsimp only at hW); go_simp; try with_reducible rfl)); simp only [Act.put, List.setIfInBounds_toArray, List.set_cons_zero, List.set_cons_succ]))
          rintro W6 ⟨hx6, z0, z1, z2, z3, z4, z5, z6, z7, z8, z9, z10, z11, z12, z13⟩
          replace hx5 : Ext w W6 := Ext.step hx5 hx6
          have hs6 := hx5.size
          clear hx6
          obtain ⟨sf, hsf⟩ : ∃ b, (ax == bx && ay == by') = b := ⟨_, rfl⟩
          have heqS : ∀ w : World, (binOp .eql 25 (.agg #[.int .i64 ax, .int .i64 ay]) (.agg #[.int .i64 bx, .int .i64 by'])).run Try.prog w = .ok (.bool sf) w := fun w => by rw [eql_pt, hsf]
          have hss : s = if sf then 1 else -1 := by
            rw [H6.out]
            cases sf with
            | true => rw [if_pos (by simpa using hsf)]; rfl
            | false => rw [if_neg (by intro h; rw [h.1, h.2] at hsf; simp at hsf)]; rfl
          clear hsf
          cases sf
          all_goals
            simp only [Bool.false_eq_true, if_false, if_true] at hss
            subst hss
            go_wp2_with fail
            refine (CS.out _).mono ?_
            rintro e w8 ⟨rfl, hx⟩
            have hx8 : Ext w w8 := Ext.step (by (repeat (first | exact Below.refl _ _ | assumption | refine Below.drewN ?_ _ | refine Below.drew ?_ | refine Below.setCell ?_ (by first | exact Nat.le_refl _ | (simp; done) | (simp; omega) | omega) _ | refine Below.alloc ?_ (by first | exact Nat.le_refl _ | (simp; done) | (simp; omega) | omega) _))) hx
            go_wp2
            go_ret
            exact ⟨rfl, hx8⟩

        · skip
          have g1 : (k == 1) = false := by simpa using ka
          have g1' : (k != 1) = true := by simpa using ka
          have g2 : (k' == 1) = false := by simpa using kb
          have g2' : (k' != 1) = true := by simpa using kb
          have t4 : decide (n < 0) = false := by rw [decide_eq_false_iff_not]; have := H4.out (fun h => ka h.1) (fun h => hr h.2.2.2.2); omega
          have g3 : (ra == rb) = false := by simpa using hr
          clear ka kb H3 H4 H5 hcc hr
          go_wp2_with fail
          first | refine wp_region_FC (fun W => W.cell? ⟨A, 0, none⟩ = some (.int .i64 k) ∧ W.cell? ⟨A, 1, none⟩ = some (.int .i64 ax) ∧ W.cell? ⟨A, 2, none⟩ = some (.int .i64 ay) ∧ W.cell? ⟨A, 3, none⟩ = some (.int .i64 bx) ∧ W.cell? ⟨A, 4, none⟩ = some (.int .i64 by') ∧ W.cell? ⟨A, 5, none⟩ = some (.int .i64 cx) ∧ W.cell? ⟨A, 6, none⟩ = some (.int .i64 cy) ∧ W.cell? ⟨B, 0, none⟩ = some (.int .i64 k') ∧ W.cell? ⟨B, 1, none⟩ = some (.int .i64 dx) ∧ W.cell? ⟨B, 2, none⟩ = some (.int .i64 dy) ∧ W.cell? ⟨B, 3, none⟩ = some (.int .i64 ex) ∧ W.cell? ⟨B, 4, none⟩ = some (.int .i64 ey) ∧ W.cell? ⟨B, 5, none⟩ = some (.int .i64 fx) ∧ W.cell? ⟨B, 6, none⟩ = some (.int .i64 fy)) (by kernel_rfl) (by kernel_rfl) ?_ ?_ ?_ | refine wp_region_FCs (fun W => W.cell? ⟨A, 0, none⟩ = some (.int .i64 k) ∧ W.cell? ⟨A, 1, none⟩ = some (.int .i64 ax) ∧ W.cell? ⟨A, 2, none⟩ = some (.int .i64 ay) ∧ W.cell? ⟨A, 3, none⟩ = some (.int .i64 bx) ∧ W.cell? ⟨A, 4, none⟩ = some (.int .i64 by') ∧ W.cell? ⟨A, 5, none⟩ = some (.int .i64 cx) ∧ W.cell? ⟨A, 6, none⟩ = some (.int .i64 cy) ∧ W.cell? ⟨B, 0, none⟩ = some (.int .i64 k') ∧ W.cell? ⟨B, 1, none⟩ = some (.int .i64 dx) ∧ W.cell? ⟨B, 2, none⟩ = some (.int .i64 dy) ∧ W.cell? ⟨B, 3, none⟩ = some (.int .i64 ex) ∧ W.cell? ⟨B, 4, none⟩ = some (.int .i64 ey) ∧ W.cell? ⟨B, 5, none⟩ = some (.int .i64 fx) ∧ W.cell? ⟨B, 6, none⟩ = some (.int .i64 fy)) ?_ ?_ ?_
          · go_simp
          · (intro W W' h hx hb; have hs := hx.size; (try simp at hs); have hbc : ∀ b o, b < W.heap.size → W'.cell? ⟨b, o, none⟩ = W.cell? ⟨b, o, none⟩ := fun b o h => hb.cell (p := ⟨b, o, none⟩) h; (try dsimp only at h ⊢); simp (disch := omega) only [hbc]; exact h)
          repeat (first | (refine F_skip (by rfl) ?_; simp only [Act.put, List.setIfInBounds_toArray, List.set_cons_zero, List.set_cons_succ]) | (refine F_run (v := ?_) (by rfl) ?_ ?_; rotate_left; (· (intro W hW; (try dsimp only at hW); go_simp; try with_reducible rfl)); simp only [Act.put, List.setIfInBounds_toArray, List.set_cons_zero, List.set_cons_succ]))
          (refine F_call (v := .int .i64 ra) (by rfl) (by rfl) ?_ ?_; (· (intro W hW; (try dsimp only at hW); go_simp; refine (RA.out _).mono ?_; rintro e w' ⟨rfl, hx⟩; exact ⟨_, rfl, rfl, hx⟩))); simp only [Act.put, List.setIfInBounds_toArray, List.set_cons_zero, List.set_cons_succ]
          repeat (first | (refine F_skip (by rfl) ?_; simp only [Act.put, List.setIfInBounds_toArray, List.set_cons_zero, List.set_cons_succ]) | (refine F_run (v := ?_) (by rfl) ?_ ?_; rotate_left; (· (intro W hW; (try dsimp only at hW); go_simp; try with_reducible rfl)); simp only [Act.put, List.setIfInBounds_toArray, List.set_cons_zero, List.set_cons_succ]))
          (refine F_call (v := .int .i64 rb) (by rfl) (by rfl) ?_ ?_; (· (intro W hW; (try dsimp only at hW); go_simp; refine (RB.out _).mono ?_; rintro e w' ⟨rfl, hx⟩; exact ⟨_, rfl, rfl, hx⟩))); simp only [Act.put, List.setIfInBounds_toArray, List.set_cons_zero, List.set_cons_succ]
          repeat (first | (refine F_skip (by rfl) ?_; simp only [Act.put, List.setIfInBounds_toArray, List.set_cons_zero, List.set_cons_succ]) | (refine F_run (v := ?_) (by rfl) ?_ ?_; rotate_left; (· (intro W hW; (try dsimp only at hW); go_simp; try with_reducible rfl)); simp only [Act.put, List.setIfInBounds_toArray, List.set_cons_zero, List.set_cons_succ]))
          rintro W6 ⟨hx6, z0, z1, z2, z3, z4, z5, z6, z7, z8, z9, z10, z11, z12, z13⟩
          replace hx5 : Ext w W6 := Ext.step hx5 hx6
          have hs6 := hx5.size
          clear hx6
          obtain ⟨sf, hsf⟩ : ∃ b, (ax == bx && ay == by') = b := ⟨_, rfl⟩
          have heqS : ∀ w : World, (binOp .eql 25 (.agg #[.int .i64 ax, .int .i64 ay]) (.agg #[.int .i64 bx, .int .i64 by'])).run Try.prog w = .ok (.bool sf) w := fun w => by rw [eql_pt, hsf]
          have hss : s = if sf then 1 else -1 := by
            rw [H6.out]
            cases sf with
            | true => rw [if_pos (by simpa using hsf)]; rfl
            | false => rw [if_neg (by intro h; rw [h.1, h.2] at hsf; simp at hsf)]; rfl
          clear hsf
          cases sf
          all_goals
            simp only [Bool.false_eq_true, if_false, if_true] at hss
            subst hss
            go_wp2_with fail
            refine (CS.out _).mono ?_
            rintro e w8 ⟨rfl, hx⟩
            have hx8 : Ext w w8 := Ext.step (by (repeat (first | exact Below.refl _ _ | assumption | refine Below.drewN ?_ _ | refine Below.drew ?_ | refine Below.setCell ?_ (by first | exact Nat.le_refl _ | (simp; done) | (simp; omega) | omega) _ | refine Below.alloc ?_ (by first | exact Nat.le_refl _ | (simp; done) | (simp; omega) | omega) _))) hx
            go_wp2
            go_ret
            exact ⟨rfl, hx8⟩

      · have hcb : (cx == fx && cy == fy) = false := by rw [Bool.eq_false_iff]; intro h; simp at h; exact hcc h
        have heqC : ∀ w : World, (binOp .eql 25 (.agg #[.int .i64 cx, .int .i64 cy]) (.agg #[.int .i64 fx, .int .i64 fy])).run Try.prog w = .ok (.bool false) w := fun w => by rw [eql_pt, hcb]
        have g1 : (k == 1) = false := by simpa using ka
        have g1' : (k != 1) = true := by simpa using ka
        have g2 : (k' == 1) = false := by simpa using kb
        have g2' : (k' != 1) = true := by simpa using kb
        have t4 : decide (n < 0) = false := by rw [decide_eq_false_iff_not]; have := H4.out (fun h => ka h.1) (fun h => hcc ⟨h.2.2.1, h.2.2.2.1⟩); omega
        clear ka kb H3 H4 H5 hcc hcb
        go_wp2_with fail
        first | refine wp_region_FC (fun W => W.cell? ⟨A, 0, none⟩ = some (.int .i64 k) ∧ W.cell? ⟨A, 1, none⟩ = some (.int .i64 ax) ∧ W.cell? ⟨A, 2, none⟩ = some (.int .i64 ay) ∧ W.cell? ⟨A, 3, none⟩ = some (.int .i64 bx) ∧ W.cell? ⟨A, 4, none⟩ = some (.int .i64 by') ∧ W.cell? ⟨A, 5, none⟩ = some (.int .i64 cx) ∧ W.cell? ⟨A, 6, none⟩ = some (.int .i64 cy) ∧ W.cell? ⟨B, 0, none⟩ = some (.int .i64 k') ∧ W.cell? ⟨B, 1, none⟩ = some (.int .i64 dx) ∧ W.cell? ⟨B, 2, none⟩ = some (.int .i64 dy) ∧ W.cell? ⟨B, 3, none⟩ = some (.int .i64 ex) ∧ W.cell? ⟨B, 4, none⟩ = some (.int .i64 ey) ∧ W.cell? ⟨B, 5, none⟩ = some (.int .i64 fx) ∧ W.cell? ⟨B, 6, none⟩ = some (.int .i64 fy)) (by kernel_rfl) (by kernel_rfl) ?_ ?_ ?_ | refine wp_region_FCs (fun W => W.cell? ⟨A, 0, none⟩ = some (.int .i64 k) ∧ W.cell? ⟨A, 1, none⟩ = some (.int .i64 ax) ∧ W.cell? ⟨A, 2, none⟩ = some (.int .i64 ay) ∧ W.cell? ⟨A, 3, none⟩ = some (.int .i64 bx) ∧ W.cell? ⟨A, 4, none⟩ = some (.int .i64 by') ∧ W.cell? ⟨A, 5, none⟩ = some (.int .i64 cx) ∧ W.cell? ⟨A, 6, none⟩ = some (.int .i64 cy) ∧ W.cell? ⟨B, 0, none⟩ = some (.int .i64 k') ∧ W.cell? ⟨B, 1, none⟩ = some (.int .i64 dx) ∧ W.cell? ⟨B, 2, none⟩ = some (.int .i64 dy) ∧ W.cell? ⟨B, 3, none⟩ = some (.int .i64 ex) ∧ W.cell? ⟨B, 4, none⟩ = some (.int .i64 ey) ∧ W.cell? ⟨B, 5, none⟩ = some (.int .i64 fx) ∧ W.cell? ⟨B, 6, none⟩ = some (.int .i64 fy)) ?_ ?_ ?_
        · go_simp
        · (intro W W' h hx hb; have hs := hx.size; (try simp at hs); have hbc : ∀ b o, b < W.heap.size → W'.cell? ⟨b, o, none⟩ = W.cell? ⟨b, o, none⟩ := fun b o h => hb.cell (p := ⟨b, o, none⟩) h; (try dsimp only at h ⊢); simp (disch := omega) only [hbc]; exact h)
        repeat (first | (refine F_skip (by rfl) ?_; simp only [Act.put, List.setIfInBounds_toArray, List.set_cons_zero, List.set_cons_succ]) | (refine F_run (v := ?_) (by rfl) ?_ ?_; rotate_left; (· (intro W hW; (try dsimp only at hW); go_simp; try with_reducible rfl)); simp only [Act.put, List.setIfInBounds_toArray, List.set_cons_zero, List.set_cons_succ]))
        rintro W6 ⟨hx6, z0, z1, z2, z3, z4, z5, z6, z7, z8, z9, z10, z11, z12, z13⟩
        replace hx5 : Ext w W6 := Ext.step hx5 hx6
        have hs6 := hx5.size
        clear hx6
        obtain ⟨sf, hsf⟩ : ∃ b, (ax == bx && ay == by') = b := ⟨_, rfl⟩
        have heqS : ∀ w : World, (binOp .eql 25 (.agg #[.int .i64 ax, .int .i64 ay]) (.agg #[.int .i64 bx, .int .i64 by'])).run Try.prog w = .ok (.bool sf) w := fun w => by rw [eql_pt, hsf]
        have hss : s = if sf then 1 else -1 := by
          rw [H6.out]
          cases sf with
          | true => rw [if_pos (by simpa using hsf)]; rfl
          | false => rw [if_neg (by intro h; rw [h.1, h.2] at hsf; simp at hsf)]; rfl
        clear hsf
        cases sf
        all_goals
          simp only [Bool.false_eq_true, if_false, if_true] at hss
          subst hss
          go_wp2_with fail
          refine (CS.out _).mono ?_
          rintro e w8 ⟨rfl, hx⟩
          have hx8 : Ext w w8 := Ext.step (by (repeat (first | exact Below.refl _ _ | assumption | refine Below.drewN ?_ _ | refine Below.drew ?_ | refine Below.setCell ?_ (by first | exact Nat.le_refl _ | (simp; done) | (simp; omega) | omega) _ | refine Below.alloc ?_ (by first | exact Nat.le_refl _ | (simp; done) | (simp; omega) | omega) _))) hx
          go_wp2
          go_ret
          exact ⟨rfl, hx8⟩

end Go.Proofs.Ytmmhiiiaccldmaa
