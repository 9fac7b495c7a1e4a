/- Contract: etchantref07.Made; the edge that it makes is valid. | Contract: etchantref06.Check. | Contracts: etchantref06.size, Radius, Box, within, On. | More steps: a call that gives a number and a bool. -/
import Derived.Test.YtmmhiiiaccldmaaGreatJ22
import Derived.Test.YtmmhiiiaccldmaaGreatJ19
import Derived.Test.YtmmhiiiaccldmaaGreatJ17
import Derived.Test.YtmmhiiiaccldmaaGreatJ09
set_option linter.unusedVariables false
set_option linter.unusedSimpArgs false

namespace Go.Proofs.YtmmhiiiaccldmaaGreat
open Go.RowKit

theorem madeE_cases (L : List Int) : nextV L 0 3 = 0 ∨ nextV L 0 3 = 1 ∨ nextV L 0 3 = 2 := by
  have := nextV_bd L 0 (n := 3) (by omega)
  omega
theorem r07_Made (L : List Int) (a : Option Addr) (len cp : Nat) (f : Int) (w : World) (hL : Ints w a len L) (hcp : len ≤ cp ∧ cp ≤ 9223372036854775807) (hf : 1 ≤ f ∧ f ≤ 1048576) :
    Calls Tryz.prog 6 #[.slice a len cp, .int .i64 f] w fun e w' => e = .returned (.agg #[.int .i64 (madeE L f).k, .int .i64 (madeE L f).ax, .int .i64 (madeE L f).ay, .int .i64 (madeE L f).bx, .int .i64 (madeE L f).by', .int .i64 (madeE L f).cx, .int .i64 (madeE L f).cy]) ∧ Ext w w' := by
  obtain h | h | h := madeE_cases L
  · have e : madeE L f = ⟨1, f * (nextV L (nextK L 0) 13 + 6), f * (nextV L (nextK L (nextK L 0)) 13 + 6), f * nextV L (nextK L (nextK L (nextK L 0))) 25, f * nextV L (nextK L (nextK L (nextK L (nextK L 0)))) 25, 0, 0⟩ := by
      unfold madeE; simp only [h]; rfl
    rw [e]
    exact r07_Made_line L a len cp f w hL hcp hf (by omega)
  · obtain ⟨r, R⟩ : ∃ r, f * (1 + nextV L (nextK L (nextK L (nextK L 0))) 12) = r := ⟨_, rfl⟩
    obtain ⟨ti, T⟩ : ∃ r, nextV L (nextK L (nextK L (nextK L (nextK L 0)))) 4 = r := ⟨_, rfl⟩
    obtain ⟨⟨u1, u2⟩, U⟩ : ∃ p, p = rot ti.toNat (r, 0) := ⟨_, rfl⟩
    obtain ⟨⟨v1, v2⟩, V⟩ : ∃ p, p = rot ti.toNat (0, r) := ⟨_, rfl⟩
    have e : madeE L f = ⟨2, f * (nextV L (nextK L 0) 13 + 6) + u1, f * (nextV L (nextK L (nextK L 0)) 13 + 6) + u2, f * (nextV L (nextK L 0) 13 + 6) + v1, f * (nextV L (nextK L (nextK L 0)) 13 + 6) + v2, f * (nextV L (nextK L 0) 13 + 6), f * (nextV L (nextK L (nextK L 0)) 13 + 6)⟩ := by
      unfold madeE; simp only [h, R, T, ← U, ← V]; rfl
    rw [e]
    exact r07_Made_2 L a len cp f w hL hcp hf h _ _ r ti u1 u2 v1 v2 rfl rfl R T U V
  · obtain ⟨r, R⟩ : ∃ r, f * (1 + nextV L (nextK L (nextK L (nextK L 0))) 12) = r := ⟨_, rfl⟩
    obtain ⟨ti, T⟩ : ∃ r, nextV L (nextK L (nextK L (nextK L (nextK L 0)))) 4 = r := ⟨_, rfl⟩
    obtain ⟨⟨u1, u2⟩, U⟩ : ∃ p, p = rot ti.toNat (r, 0) := ⟨_, rfl⟩
    obtain ⟨⟨v1, v2⟩, V⟩ : ∃ p, p = rot ti.toNat (0, r) := ⟨_, rfl⟩
    have e : madeE L f = ⟨3, f * (nextV L (nextK L 0) 13 + 6) + v1, f * (nextV L (nextK L (nextK L 0)) 13 + 6) + v2, f * (nextV L (nextK L 0) 13 + 6) + u1, f * (nextV L (nextK L (nextK L 0)) 13 + 6) + u2, f * (nextV L (nextK L 0) 13 + 6), f * (nextV L (nextK L (nextK L 0)) 13 + 6)⟩ := by
      unfold madeE; simp only [h, R, T, ← U, ← V]; rfl
    rw [e]
    exact r07_Made_3 L a len cp f w hL hcp hf h _ _ r ti u1 u2 v1 v2 rfl rfl R T U V

/-- What is known of a made edge: a line, or an arc, within 36 times the factor. -/
theorem madeE_form (L : List Int) (f : Int) (hf : 1 ≤ f ∧ f ≤ 1048576) :
    (∃ x y z v : Int, madeE L f = ⟨1, f * x, f * y, f * z, f * v, 0, 0⟩ ∧ 6 ≤ x ∧ x ≤ 18 ∧ 6 ≤ y ∧ y ≤ 18 ∧ 0 ≤ z ∧ z ≤ 24 ∧ 0 ≤ v ∧ v ≤ 24) ∨
    (∃ x y r : Int, ∃ ux uy vx vy k : Int, madeE L f = ⟨k, f * x + f * r * ux, f * y + f * r * uy, f * x + f * r * vx, f * y + f * r * vy, f * x, f * y⟩ ∧ 6 ≤ x ∧ x ≤ 18 ∧ 6 ≤ y ∧ y ≤ 18 ∧ 1 ≤ r ∧ r ≤ 12 ∧
      ((ux = 1 ∧ uy = 0) ∨ (ux = -1 ∧ uy = 0) ∨ (ux = 0 ∧ uy = 1) ∨ (ux = 0 ∧ uy = -1)) ∧ ((k = 2 ∧ vx = -uy ∧ vy = ux) ∨ (k = 3 ∧ vx = uy ∧ vy = -ux))) := by
  have a1 := nextV_bd L (nextK L 0) (n := 13) (by omega)
  have a2 := nextV_bd L (nextK L (nextK L 0)) (n := 13) (by omega)
  obtain h | h | h := madeE_cases L
  · have a3 := nextV_bd L (nextK L (nextK L (nextK L 0))) (n := 25) (by omega)
    have a4 := nextV_bd L (nextK L (nextK L (nextK L (nextK L 0)))) (n := 25) (by omega)
    refine .inl ⟨nextV L (nextK L 0) 13 + 6, nextV L (nextK L (nextK L 0)) 13 + 6, nextV L (nextK L (nextK L (nextK L 0))) 25, nextV L (nextK L (nextK L (nextK L (nextK L 0)))) 25, ?_, by omega, by omega, by omega, by omega, by omega, by omega, by omega, by omega⟩
    unfold madeE; simp only [h]; rfl
  all_goals
    right
    have a3 := nextV_bd L (nextK L (nextK L (nextK L 0))) (n := 12) (by omega)
    have a4 := nextV_bd L (nextK L (nextK L (nextK L (nextK L 0)))) (n := 4) (by omega)
    refine ⟨nextV L (nextK L 0) 13 + 6, nextV L (nextK L (nextK L 0)) 13 + 6, 1 + nextV L (nextK L (nextK L (nextK L 0))) 12, ?_⟩
    obtain ⟨x, X⟩ : ∃ r, f * (nextV L (nextK L 0) 13 + 6) = r := ⟨_, rfl⟩
    obtain ⟨y, Y⟩ : ∃ r, f * (nextV L (nextK L (nextK L 0)) 13 + 6) = r := ⟨_, rfl⟩
    obtain ⟨r, R⟩ : ∃ r, f * (1 + nextV L (nextK L (nextK L (nextK L 0))) 12) = r := ⟨_, rfl⟩
    obtain ⟨ti, T⟩ : ∃ r, nextV L (nextK L (nextK L (nextK L (nextK L 0)))) 4 = r := ⟨_, rfl⟩
    rw [T] at a4
    unfold madeE
    simp only [h, R, T, X, Y]
    obtain rfl | rfl | rfl | rfl : ti = 0 ∨ ti = 1 ∨ ti = 2 ∨ ti = 3 := by omega
  all_goals
    first
      | (refine ⟨1, 0, 0, 1, 2, ?_, by omega, by omega, by omega, by omega, by omega, by omega, by simp, by simp⟩; simp [rot]; done)
      | (refine ⟨0, 1, -1, 0, 2, ?_, by omega, by omega, by omega, by omega, by omega, by omega, by simp, by simp⟩; simp [rot]; done)
      | (refine ⟨-1, 0, 0, -1, 2, ?_, by omega, by omega, by omega, by omega, by omega, by omega, by simp, by simp⟩; simp [rot]; done)
      | (refine ⟨0, -1, 1, 0, 2, ?_, by omega, by omega, by omega, by omega, by omega, by omega, by simp, by simp⟩; simp [rot]; done)
      | (refine ⟨0, 1, 1, 0, 3, ?_, by omega, by omega, by omega, by omega, by omega, by omega, by simp, by simp⟩; simp [rot]; done)
      | (refine ⟨-1, 0, 0, 1, 3, ?_, by omega, by omega, by omega, by omega, by omega, by omega, by simp, by simp⟩; simp [rot]; done)
      | (refine ⟨0, -1, -1, 0, 3, ?_, by omega, by omega, by omega, by omega, by omega, by omega, by simp, by simp⟩; simp [rot]; done)
      | (refine ⟨1, 0, 0, -1, 3, ?_, by omega, by omega, by omega, by omega, by omega, by omega, by simp, by simp⟩; simp [rot]; done)
theorem madeE_ok (L : List Int) (f : Int) (hf : 1 ≤ f ∧ f ≤ 1048576) : (madeE L f).ok = true := by
  obtain ⟨x, y, z, v, e, h1, h2, h3, h4, h5, h6, h7, h8⟩ | ⟨x, y, r, ux, uy, vx, vy, k, e, h1, h2, h3, h4, h5, h6, hu, hk⟩ := madeE_form L f hf
  · rw [e]
    have b1 := fac_bd hf (x := x) (m := 18) (by omega) (by omega) (by omega)
    have b2 := fac_bd hf (x := y) (m := 18) (by omega) (by omega) (by omega)
    have b3 := fac_bd hf (x := z) (m := 24) (by omega) (by omega) (by omega)
    have b4 := fac_bd hf (x := v) (m := 24) (by omega) (by omega) (by omega)
    simp only [Ed.ok, Ed.right, Bool.and_eq_true]
    refine ⟨⟨⟨coordB_iff.2 ?_, coordB_iff.2 ?_⟩, coordB_iff.2 ?_⟩, ?_⟩
    · unfold Co; omega
    · unfold Co; omega
    · unfold Co; omega
    · simp [Ed.lone]
  · rw [e]
    have b1 := fac_bd hf (x := x) (m := 18) (by omega) (by omega) (by omega)
    have b2 := fac_bd hf (x := y) (m := 18) (by omega) (by omega) (by omega)
    have b3 := fac_bd hf (x := r) (m := 12) (by omega) (by omega) (by omega)
    have b4 : 0 < f * r := Int.mul_pos (by omega) (by omega)
    obtain ⟨X, eX⟩ : ∃ q, f * x = q := ⟨_, rfl⟩
    obtain ⟨Y, eY⟩ : ∃ q, f * y = q := ⟨_, rfl⟩
    obtain ⟨R, eR⟩ : ∃ q, f * r = q := ⟨_, rfl⟩
    rw [eX] at b1 ⊢
    rw [eY] at b2 ⊢
    rw [eR] at b3 b4 ⊢
    clear e eX eY eR
    have ca : ∀ a b : Int, a + b - a = b := fun a b => by omega
    have cb : ∀ a b : Int, a - b - a = -b := fun a b => by omega
    have cc : ∀ a b : Int, a + -b - a = -b := fun a b => by omega
    have n0 : ¬ R = 0 := by omega
    have n1 : ¬ -R = 0 := by omega
    rcases hu with ⟨rfl, rfl⟩ | ⟨rfl, rfl⟩ | ⟨rfl, rfl⟩ | ⟨rfl, rfl⟩ <;> rcases hk with ⟨rfl, rfl, rfl⟩ | ⟨rfl, rfl, rfl⟩ <;>
      (simp only [Ed.ok, Ed.right, Bool.and_eq_true]
       refine ⟨⟨⟨coordB_iff.2 ?_, coordB_iff.2 ?_⟩, coordB_iff.2 ?_⟩, ?_⟩
       · unfold Co; omega
       · unfold Co; omega
       · unfold Co; omega
       · simp [Ed.quarter, quarterB, rot, ca, cb, cc, n0, n1]
         try omega)
end Go.Proofs.YtmmhiiiaccldmaaGreat

namespace Go.Proofs.YtmmhiiiaccldmaaGreat
open Go.RowKit
attribute [local go_sem] Gives givesU

theorem neq_pt (w : World) (a b c d : Int) : (binOp .neq 25 (.agg #[.int .i64 a, .int .i64 b]) (.agg #[.int .i64 c, .int .i64 d])).run Tryz.prog w = .ok (.bool (!(a == c && b == d))) w := by
  by_cases h : a = c
  · by_cases h2 : b = d
    · subst h h2; go_simp
    · have h3 : (b == d) = false := by simpa using h2
      subst h
      go_simp
  · have h3 : (a == c) = false := by simpa using h
    go_simp
set_option maxRecDepth 100000 in
set_option maxHeartbeats 2000000 in
theorem r06_Check_kind (k ax ay bx by' cx cy : Int) (w : World) (h : ¬ (1 ≤ k ∧ k ≤ 3)) : Calls Tryz.prog 23 #[.agg #[.int .i64 k, .int .i64 ax, .int .i64 ay, .int .i64 bx, .int .i64 by', .int .i64 cx, .int .i64 cy]] w fun e w' => e = .returned (.int .i64 11) ∧ Ext w w' := by
  by_cases h1 : k < 1
  · have d1 : decide (k < 1) = true := by simpa using h1
    go_enter Tryz.func23, Tryz.ntmps23
    go_wp2
    go_ret
    exact ⟨rfl, bxx⟩
  · have d1 : decide (k < 1) = false := by simpa using h1
    have d2 : decide (3 < k) = true := by rw [decide_eq_true_iff]; omega
    go_enter Tryz.func23, Tryz.ntmps23
    go_wp2
    go_ret
    exact ⟨rfl, bxx⟩
set_option maxRecDepth 100000 in
set_option maxHeartbeats 4000000 in
theorem r06_Check_right (k ax ay bx by' cx cy : Int) (w : World) (h : 1 ≤ k ∧ k ≤ 3) (hr : (Ed.mk k ax ay bx by' cx cy).right = false) : Calls Tryz.prog 23 #[.agg #[.int .i64 k, .int .i64 ax, .int .i64 ay, .int .i64 bx, .int .i64 by', .int .i64 cx, .int .i64 cy]] w fun e w' => e = .returned (.int .i64 10) ∧ Ext w w' := by
  have d1 : decide (k < 1) = false := by rw [decide_eq_false_iff_not]; omega
  have d2 : decide (3 < k) = false := by rw [decide_eq_false_iff_not]; omega
  have RA := fun w => r05_Right ax ay w
  have RB := fun w => r05_Right bx by' w
  have RC := fun w => r05_Right cx cy w
  unfold Ed.right at hr
  simp only at hr
  obtain ⟨b1, B1⟩ : ∃ b, coordB ax ay = b := ⟨_, rfl⟩
  obtain ⟨b2, B2⟩ : ∃ b, coordB bx by' = b := ⟨_, rfl⟩
  obtain ⟨b3, B3⟩ : ∃ b, coordB cx cy = b := ⟨_, rfl⟩
  rw [B1] at RA hr
  rw [B2] at RB hr
  rw [B3] at RC hr
  replace RA := Lib.hid RA
  replace RB := Lib.hid RB
  replace RC := Lib.hid RC
  clear B1 B2 B3 h
  go_enter Tryz.func23, Tryz.ntmps23
  go_wp2_with fail
  refine (RA.out _).mono ?_
  rintro e w1 ⟨rfl, hx⟩
  have hx0 : Ext w w1 := Ext.step bxx hx
  have hz_w1 : w.heap.size + 1 ≤ w1.heap.size := Nat.le_trans omm hx.size
  obtain ⟨hl_w1_0, hk_w1_0, hf_w1_0⟩ := extK hx (w.heap.size)
  clear hx
  go_wp2_with fail
  refine (RB.out _).mono ?_
  rintro e w2 ⟨rfl, hx⟩
  have hx2 : Ext w w2 := Ext.step hx0 hx
  have hz_w2 : w.heap.size + 1 ≤ w2.heap.size := Nat.le_trans omm hx.size
  obtain ⟨hl_w2_0, hk_w2_0, hf_w2_0⟩ := extK hx (w.heap.size)
  clear hx
  go_wp2_with fail
  refine (RC.out _).mono ?_
  rintro e w3 ⟨rfl, hx⟩
  have hx3 : Ext w w3 := Ext.step hx2 hx
  clear hx
  cases b1 <;> cases b2 <;> cases b3 <;> first
    | exact absurd hr (by decide)
    | (go_wp2; go_ret; exact ⟨rfl, hx3⟩)
set_option maxRecDepth 100000 in
set_option maxHeartbeats 4000000 in
theorem r06_Check_line (ax ay bx by' cx cy : Int) (w : World) (hr : (Ed.mk 1 ax ay bx by' cx cy).right = true) : Calls Tryz.prog 23 #[.agg #[.int .i64 1, .int .i64 ax, .int .i64 ay, .int .i64 bx, .int .i64 by', .int .i64 cx, .int .i64 cy]] w fun e w' => e = .returned (.int .i64 (if cx == 0 && cy == 0 then 0 else 11)) ∧ Ext w w' := by
  have RA := fun w => r05_Right ax ay w
  have RB := fun w => r05_Right bx by' w
  have RC := fun w => r05_Right cx cy w
  simp only [Ed.right, Bool.and_eq_true] at hr
  rw [hr.1.1] at RA
  rw [hr.1.2] at RB
  rw [hr.2] at RC
  replace RA := Lib.hid RA
  replace RB := Lib.hid RB
  replace RC := Lib.hid RC
  have NP : ∀ w : World, (binOp .neq 25 (.agg #[.int .i64 cx, .int .i64 cy]) (.agg #[.int .i64 0, .int .i64 0])).run Tryz.prog w = .ok (.bool (!(cx == 0 && cy == 0))) w := fun w => neq_pt w cx cy 0 0
  obtain ⟨b, hb⟩ : ∃ b, (cx == 0 && cy == 0) = b := ⟨_, rfl⟩
  rw [hb] at NP ⊢
  clear hr hb
  cases b
  all_goals
    go_enter Tryz.func23, Tryz.ntmps23
    go_wp2_with fail
    refine (RA.out _).mono ?_
    rintro e w1 ⟨rfl, hx⟩
    have hx0 : Ext w w1 := Ext.step bxx hx
    have hz_w1 : w.heap.size + 1 ≤ w1.heap.size := Nat.le_trans omm hx.size
    obtain ⟨hl_w1_0, hk_w1_0, hf_w1_0⟩ := extK hx (w.heap.size)
    clear hx
    go_wp2_with fail
    refine (RB.out _).mono ?_
    rintro e w2 ⟨rfl, hx⟩
    have hx2 : Ext w w2 := Ext.step hx0 hx
    have hz_w2 : w.heap.size + 1 ≤ w2.heap.size := Nat.le_trans omm hx.size
    obtain ⟨hl_w2_0, hk_w2_0, hf_w2_0⟩ := extK hx (w.heap.size)
    clear hx
    go_wp2_with fail
    refine (RC.out _).mono ?_
    rintro e w3 ⟨rfl, hx⟩
    have hx3 : Ext w w3 := Ext.step hx2 hx
    have hz_w3 : w.heap.size + 1 ≤ w3.heap.size := Nat.le_trans omm hx.size
    obtain ⟨hl_w3_0, hk_w3_0, hf_w3_0⟩ := extK hx (w.heap.size)
    clear hx
    go_wp2
    go_ret
    exact ⟨rfl, hx3⟩
set_option maxRecDepth 100000 in
set_option maxHeartbeats 8000000 in
theorem r06_Check_arc2 (ax ay bx by' cx cy : Int) (w : World) (hr : (Ed.mk 2 ax ay bx by' cx cy).right = true) : Calls Tryz.prog 23 #[.agg #[.int .i64 2, .int .i64 ax, .int .i64 ay, .int .i64 bx, .int .i64 by', .int .i64 cx, .int .i64 cy]] w fun e w' => e = .returned (.int .i64 (if (Ed.mk 2 ax ay bx by' cx cy).ok then 0 else 11)) ∧ Ext w w' := by
  have RA := fun w => r05_Right ax ay w
  have RB := fun w => r05_Right bx by' w
  have RC := fun w => r05_Right cx cy w
  have hr' := hr
  simp only [Ed.right, Bool.and_eq_true] at hr
  rw [hr.1.1] at RA
  rw [hr.1.2] at RB
  rw [hr.2] at RC
  replace RA := Lib.hid RA
  replace RB := Lib.hid RB
  replace RC := Lib.hid RC
  obtain ⟨c1, c2⟩ := coordB_iff.1 hr.1.1
  obtain ⟨c3, c4⟩ := coordB_iff.1 hr.1.2
  obtain ⟨c5, c6⟩ := coordB_iff.1 hr.2
  have SA := fun w => r05_Sub ax ay cx cy w (c1.sub c5).i64 (c2.sub c6).i64
  have SB := fun w => r05_Sub bx by' cx cy w (c3.sub c5).i64 (c4.sub c6).i64
  have i1 := c1.sub c5
  have i2 := c2.sub c6
  obtain ⟨dx, DX⟩ : ∃ z, ax - cx = z := ⟨_, rfl⟩
  obtain ⟨dy, DY⟩ : ∃ z, ay - cy = z := ⟨_, rfl⟩
  obtain ⟨ex, EX⟩ : ∃ z, bx - cx = z := ⟨_, rfl⟩
  obtain ⟨ey, EY⟩ : ∃ z, by' - cy = z := ⟨_, rfl⟩
  have hok : (Ed.mk 2 ax ay bx by' cx cy).ok = (((dx == 0) != (dy == 0)) && (ex == (rot (if 2 = 2 then 1 else 3) (dx, dy)).1 && ey == (rot (if 2 = 2 then 1 else 3) (dx, dy)).2)) := by
    unfold Ed.ok
    rw [hr']
    simp [Ed.quarter, quarterB, DX, DY, EX, EY]
  rw [hok]
  rw [DX] at SA i1
  rw [DY] at SA i2
  rw [EX, EY] at SB
  replace SA := Lib.hid SA
  replace SB := Lib.hid SB
  clear hok hr' hr c1 c2 c3 c4 c5 c6 DX DY EX EY
  unfold Di at i1 i2
  obtain ⟨qx, QX⟩ : ∃ z, (rot (if 2 = 2 then 1 else 3) (dx, dy)).1 = z := ⟨_, rfl⟩
  obtain ⟨qy, QY⟩ : ∃ z, (rot (if 2 = 2 then 1 else 3) (dx, dy)).2 = z := ⟨_, rfl⟩
  rw [QX, QY]
  have hqx : -dy = qx ∨ dy = qx := by simp [rot] at QX; omega
  have nw1 : IntKind.i64.wrap (-dy) = -dy := wrap_in (by unfold I64; omega)
  have nw2 : IntKind.i64.wrap (-dx) = -dx := wrap_in (by unfold I64; omega)
  have NP : ∀ w : World, (binOp .neq 25 (.agg #[.int .i64 ex, .int .i64 ey]) (.agg #[.int .i64 qx, .int .i64 qy])).run Tryz.prog w = .ok (.bool (!(ex == qx && ey == qy))) w := fun w => neq_pt w ex ey qx qy
  obtain ⟨b, hb⟩ : ∃ b, (ex == qx && ey == qy) = b := ⟨_, rfl⟩
  rw [hb] at NP ⊢
  have e1 : (if 2 = 2 then -dy else dy) = qx := by simp [rot] at QX ⊢; omega
  have e2 : (if 2 = 2 then dx else -dx) = qy := by simp [rot] at QY ⊢; omega
  simp at e1 e2
  subst e1 e2
  clear hb
  obtain ⟨b0, hb0⟩ : ∃ b, ((dx == 0) == (dy == 0)) = b := ⟨_, rfl⟩
  have hb1 : ((dx == 0) != (dy == 0)) = !b0 := by rw [← hb0]; rfl
  rw [hb1]
  clear hb1 QX QY hqx
  cases b0 <;> cases b
  all_goals
    go_enter Tryz.func23, Tryz.ntmps23
    go_wp2_with fail
    refine (RA.out _).mono ?_
    rintro e w1 ⟨rfl, hx⟩
    have hx0 : Ext w w1 := Ext.step bxx hx
    have hz_w1 : w.heap.size + 1 ≤ w1.heap.size := Nat.le_trans omm hx.size
    obtain ⟨hl_w1_0, hk_w1_0, hf_w1_0⟩ := extK hx (w.heap.size)
    clear hx
    go_wp2_with fail
    refine (RB.out _).mono ?_
    rintro e w2 ⟨rfl, hx⟩
    have hx2 : Ext w w2 := Ext.step hx0 hx
    have hz_w2 : w.heap.size + 1 ≤ w2.heap.size := Nat.le_trans omm hx.size
    obtain ⟨hl_w2_0, hk_w2_0, hf_w2_0⟩ := extK hx (w.heap.size)
    clear hx
    go_wp2_with fail
    refine (RC.out _).mono ?_
    rintro e w3 ⟨rfl, hx⟩
    have hx3 : Ext w w3 := Ext.step hx2 hx
    have hs3 := hx3.size
    have hz_w3 : w.heap.size + 1 ≤ w3.heap.size := Nat.le_trans omm hx.size
    obtain ⟨hl_w3_0, hk_w3_0, hf_w3_0⟩ := extK hx (w.heap.size)
    clear hx
    go_wp2_with fail
    refine (SA.out _).mono ?_
    rintro e w4 ⟨rfl, hx⟩
    have hx4 : Ext w w4 := Ext.step hx3 hx
    have hs4 := hx4.size
    have hz_w4 : w.heap.size + 1 ≤ w4.heap.size := Nat.le_trans omm hx.size
    obtain ⟨hl_w4_0, hk_w4_0, hf_w4_0⟩ := extK hx (w.heap.size)
    clear hx
    go_wp2_with fail
    refine (SB.out _).mono ?_
    rintro e w5 ⟨rfl, hx⟩
    have hx5 : Ext w w5 := Ext.step bxx hx
    have hs5 := hx5.size
    have hw4 : w4.heap.size < w5.heap.size := Nat.lt_of_lt_of_le (by simp) hx.size
    have k4 : ∀ o, w5.cell? ⟨w4.heap.size, o, none⟩ = _ := fun o => hx.cell (p := ⟨w4.heap.size, o, none⟩) (show w4.heap.size < _ by simp)
    have hz_w5 : w.heap.size + 1 ≤ w5.heap.size := Nat.le_trans omm hx.size
    obtain ⟨hl_w5_0, hk_w5_0, hf_w5_0⟩ := extK hx (w.heap.size)
    clear hx
    go_wp2
    go_ret
    exact ⟨rfl, bxx⟩
set_option maxRecDepth 100000 in
set_option maxHeartbeats 8000000 in
theorem r06_Check_arc3 (ax ay bx by' cx cy : Int) (w : World) (hr : (Ed.mk 3 ax ay bx by' cx cy).right = true) : Calls Tryz.prog 23 #[.agg #[.int .i64 3, .int .i64 ax, .int .i64 ay, .int .i64 bx, .int .i64 by', .int .i64 cx, .int .i64 cy]] w fun e w' => e = .returned (.int .i64 (if (Ed.mk 3 ax ay bx by' cx cy).ok then 0 else 11)) ∧ Ext w w' := by
  have RA := fun w => r05_Right ax ay w
  have RB := fun w => r05_Right bx by' w
  have RC := fun w => r05_Right cx cy w
  have hr' := hr
  simp only [Ed.right, Bool.and_eq_true] at hr
  rw [hr.1.1] at RA
  rw [hr.1.2] at RB
  rw [hr.2] at RC
  replace RA := Lib.hid RA
  replace RB := Lib.hid RB
  replace RC := Lib.hid RC
  obtain ⟨c1, c2⟩ := coordB_iff.1 hr.1.1
  obtain ⟨c3, c4⟩ := coordB_iff.1 hr.1.2
  obtain ⟨c5, c6⟩ := coordB_iff.1 hr.2
  have SA := fun w => r05_Sub ax ay cx cy w (c1.sub c5).i64 (c2.sub c6).i64
  have SB := fun w => r05_Sub bx by' cx cy w (c3.sub c5).i64 (c4.sub c6).i64
  have i1 := c1.sub c5
  have i2 := c2.sub c6
  obtain ⟨dx, DX⟩ : ∃ z, ax - cx = z := ⟨_, rfl⟩
  obtain ⟨dy, DY⟩ : ∃ z, ay - cy = z := ⟨_, rfl⟩
  obtain ⟨ex, EX⟩ : ∃ z, bx - cx = z := ⟨_, rfl⟩
  obtain ⟨ey, EY⟩ : ∃ z, by' - cy = z := ⟨_, rfl⟩
  have hok : (Ed.mk 3 ax ay bx by' cx cy).ok = (((dx == 0) != (dy == 0)) && (ex == (rot (if 3 = 2 then 1 else 3) (dx, dy)).1 && ey == (rot (if 3 = 2 then 1 else 3) (dx, dy)).2)) := by
    unfold Ed.ok
    rw [hr']
    simp [Ed.quarter, quarterB, DX, DY, EX, EY]
  rw [hok]
  rw [DX] at SA i1
  rw [DY] at SA i2
  rw [EX, EY] at SB
  replace SA := Lib.hid SA
  replace SB := Lib.hid SB
  clear hok hr' hr c1 c2 c3 c4 c5 c6 DX DY EX EY
  unfold Di at i1 i2
  obtain ⟨qx, QX⟩ : ∃ z, (rot (if 3 = 2 then 1 else 3) (dx, dy)).1 = z := ⟨_, rfl⟩
  obtain ⟨qy, QY⟩ : ∃ z, (rot (if 3 = 2 then 1 else 3) (dx, dy)).2 = z := ⟨_, rfl⟩
  rw [QX, QY]
  have hqx : -dy = qx ∨ dy = qx := by simp [rot] at QX; omega
  have nw1 : IntKind.i64.wrap (-dy) = -dy := wrap_in (by unfold I64; omega)
  have nw2 : IntKind.i64.wrap (-dx) = -dx := wrap_in (by unfold I64; omega)
  have NP : ∀ w : World, (binOp .neq 25 (.agg #[.int .i64 ex, .int .i64 ey]) (.agg #[.int .i64 qx, .int .i64 qy])).run Tryz.prog w = .ok (.bool (!(ex == qx && ey == qy))) w := fun w => neq_pt w ex ey qx qy
  obtain ⟨b, hb⟩ : ∃ b, (ex == qx && ey == qy) = b := ⟨_, rfl⟩
  rw [hb] at NP ⊢
  have e1 : (if 3 = 2 then -dy else dy) = qx := by simp [rot] at QX ⊢; omega
  have e2 : (if 3 = 2 then dx else -dx) = qy := by simp [rot] at QY ⊢; omega
  simp at e1 e2
  subst e1 e2
  clear hb
  obtain ⟨b0, hb0⟩ : ∃ b, ((dx == 0) == (dy == 0)) = b := ⟨_, rfl⟩
  have hb1 : ((dx == 0) != (dy == 0)) = !b0 := by rw [← hb0]; rfl
  rw [hb1]
  clear hb1 QX QY hqx
  cases b0 <;> cases b
  all_goals
    go_enter Tryz.func23, Tryz.ntmps23
    go_wp2_with fail
    refine (RA.out _).mono ?_
    rintro e w1 ⟨rfl, hx⟩
    have hx0 : Ext w w1 := Ext.step bxx hx
    have hz_w1 : w.heap.size + 1 ≤ w1.heap.size := Nat.le_trans omm hx.size
    obtain ⟨hl_w1_0, hk_w1_0, hf_w1_0⟩ := extK hx (w.heap.size)
    clear hx
    go_wp2_with fail
    refine (RB.out _).mono ?_
    rintro e w2 ⟨rfl, hx⟩
    have hx2 : Ext w w2 := Ext.step hx0 hx
    have hz_w2 : w.heap.size + 1 ≤ w2.heap.size := Nat.le_trans omm hx.size
    obtain ⟨hl_w2_0, hk_w2_0, hf_w2_0⟩ := extK hx (w.heap.size)
    clear hx
    go_wp2_with fail
    refine (RC.out _).mono ?_
    rintro e w3 ⟨rfl, hx⟩
    have hx3 : Ext w w3 := Ext.step hx2 hx
    have hs3 := hx3.size
    have hz_w3 : w.heap.size + 1 ≤ w3.heap.size := Nat.le_trans omm hx.size
    obtain ⟨hl_w3_0, hk_w3_0, hf_w3_0⟩ := extK hx (w.heap.size)
    clear hx
    go_wp2_with fail
    refine (SA.out _).mono ?_
    rintro e w4 ⟨rfl, hx⟩
    have hx4 : Ext w w4 := Ext.step hx3 hx
    have hs4 := hx4.size
    have hz_w4 : w.heap.size + 1 ≤ w4.heap.size := Nat.le_trans omm hx.size
    obtain ⟨hl_w4_0, hk_w4_0, hf_w4_0⟩ := extK hx (w.heap.size)
    clear hx
    go_wp2_with fail
    refine (SB.out _).mono ?_
    rintro e w5 ⟨rfl, hx⟩
    have hx5 : Ext w w5 := Ext.step bxx hx
    have hs5 := hx5.size
    have hw4 : w4.heap.size < w5.heap.size := Nat.lt_of_lt_of_le (by simp) hx.size
    have k4 : ∀ o, w5.cell? ⟨w4.heap.size, o, none⟩ = _ := fun o => hx.cell (p := ⟨w4.heap.size, o, none⟩) (show w4.heap.size < _ by simp)
    have hz_w5 : w.heap.size + 1 ≤ w5.heap.size := Nat.le_trans omm hx.size
    obtain ⟨hl_w5_0, hk_w5_0, hf_w5_0⟩ := extK hx (w.heap.size)
    clear hx
    go_wp2
    go_ret
    exact ⟨rfl, bxx⟩
theorem r06_Check (k ax ay bx by' cx cy : Int) (w : World) : Calls Tryz.prog 23 #[.agg #[.int .i64 k, .int .i64 ax, .int .i64 ay, .int .i64 bx, .int .i64 by', .int .i64 cx, .int .i64 cy]] w fun e w' => e = .returned (.int .i64 (checkZ (Ed.mk k ax ay bx by' cx cy))) ∧ Ext w w' := by
  have hkb : kindB k = decide (1 ≤ k ∧ k ≤ 3) := by
    unfold kindB
    rw [Bool.eq_iff_iff]
    simp
    omega
  by_cases hk : 1 ≤ k ∧ k ≤ 3
  · cases hr : (Ed.mk k ax ay bx by' cx cy).right with
    | false =>
      have : checkZ (Ed.mk k ax ay bx by' cx cy) = 10 := by
        have ho : (Ed.mk k ax ay bx by' cx cy).ok = false := by simp [Ed.ok, hr]
        unfold checkZ
        rw [ho, hr, hkb]
        simp [hk]
      rw [this]
      exact r06_Check_right k ax ay bx by' cx cy w hk hr
    | true =>
      have : checkZ (Ed.mk k ax ay bx by' cx cy) = if (Ed.mk k ax ay bx by' cx cy).ok then 0 else 11 := by
        unfold checkZ
        rw [hr]
        simp
      rw [this]
      obtain rfl | rfl | rfl : k = 1 ∨ k = 2 ∨ k = 3 := by omega
      · have := r06_Check_line ax ay bx by' cx cy w hr
        have ho : (Ed.mk 1 ax ay bx by' cx cy).ok = (cx == 0 && cy == 0) := by simp [Ed.ok, hr, Ed.lone]
        rw [ho]
        exact this
      · exact r06_Check_arc2 ax ay bx by' cx cy w hr
      · exact r06_Check_arc3 ax ay bx by' cx cy w hr
  · have : checkZ (Ed.mk k ax ay bx by' cx cy) = 11 := by
      have ho : (Ed.mk k ax ay bx by' cx cy).ok = false := by
        simp only [Ed.ok, Bool.and_eq_false_iff]
        right
        rw [if_neg (show ¬ k = 1 by omega), if_neg (show ¬ k = 2 by omega), if_neg (show ¬ k = 3 by omega)]
      unfold checkZ
      rw [ho, hkb]
      simp [hk]
    rw [this]
    exact r06_Check_kind k ax ay bx by' cx cy w hk
end Go.Proofs.YtmmhiiiaccldmaaGreat

namespace Go.Proofs.YtmmhiiiaccldmaaGreat
open Go.RowKit
attribute [local go_sem] Gives givesU

/-- One of the two ways from the centre of an arc to its begin is 0. -/
theorem ok_xor {e : Ed} (h : e.ok = true) (hk : ¬ e.k = 1) : e.ax - e.cx = 0 ∨ e.ay - e.cy = 0 := by
  have hq : ((e.ax - e.cx == 0) != (e.ay - e.cy == 0)) = true := by
    simp only [Ed.ok, Bool.and_eq_true, if_neg hk] at h
    have h2 := h.2
    split at h2
    · simp only [Ed.quarter, quarterB, Bool.and_eq_true] at h2
      exact h2.1
    · split at h2
      · simp only [Ed.quarter, quarterB, Bool.and_eq_true] at h2
        exact h2.1
      · cases h2
  by_cases h1 : e.ax - e.cx = 0
  · exact .inl h1
  · by_cases h2 : e.ay - e.cy = 0
    · exact .inr h2
    · have e1 : (e.ax - e.cx == 0) = false := by simpa using h1
      have e2 : (e.ay - e.cy == 0) = false := by simpa using h2
      rw [e1, e2] at hq
      cases hq
theorem radZ_sum {e : Ed} (h : e.ok = true) (hk : ¬ e.k = 1) : max (e.ax - e.cx) (-(e.ax - e.cx)) + max (e.ay - e.cy) (-(e.ay - e.cy)) = radZ e := by
  have hkb : (e.k == 1) = false := by simpa using hk
  unfold radZ
  rw [h, hkb]
  simp only [Bool.not_false, Bool.and_self, if_true]
  have := ok_xor h hk
  omega
theorem radZ_sq {e : Ed} (h : e.ok = true) (hk : ¬ e.k = 1) : (e.ax - e.cx) * (e.ax - e.cx) + (e.ay - e.cy) * (e.ay - e.cy) = radZ e * radZ e := by
  rw [← radZ_sum h hk]
  have mm : ∀ x : Int, max x (-x) * max x (-x) = x * x := by
    intro x
    rcases Int.le_total 0 x with h | h
    · rw [show max x (-x) = x by omega]
    · rw [show max x (-x) = -x by omega, Int.neg_mul_neg]
  rcases ok_xor h hk with h0 | h0 <;> rw [h0]
  · rw [show max (0 : Int) (-0) = 0 by decide]
    simp only [Int.zero_add, Int.zero_mul]
    exact (mm _).symm
  · rw [show max (0 : Int) (-0) = 0 by decide]
    simp only [Int.add_zero, Int.zero_mul]
    exact (mm _).symm
theorem sideI_zero (x : Int) : (sideI x == 0) = (x == 0) := by
  rw [Bool.eq_iff_iff]
  simp only [beq_iff_eq]
  unfold sideI
  (repeat' split) <;> omega
theorem powerI_rad {e : Ed} (h : e.ok = true) (hk : ¬ e.k = 1) (dx dy : Int) : (powerI dx dy (e.ax - e.cx) (e.ay - e.cy) == 0) = (dx * dx + dy * dy == radZ e * radZ e) := by
  have := radZ_sq h hk
  rw [Bool.eq_iff_iff]
  simp only [beq_iff_eq]
  unfold powerI
  omega

set_option maxRecDepth 100000 in
set_option maxHeartbeats 1000000 in
theorem r06_size (n : Int) (w : World) (h : Di n) : Calls Tryz.prog 65 #[.int .i64 n] w fun e w' => e = .returned (.int .i64 (max n (-n))) ∧ Ext w w' := by
  have hmax := @run_max2 Tryz.prog
  have hw : IntKind.i64.wrap (-n) = -n := wrap_in (by unfold Di at h; unfold I64; omega)
  go_enter Tryz.func65, Tryz.ntmps65
  go_wp2
  go_ret
  exact ⟨rfl, bxx⟩
set_option maxRecDepth 100000 in
set_option maxHeartbeats 4000000 in
theorem r06_Radius (k ax ay bx by' cx cy : Int) (w : World) : Calls Tryz.prog 51 #[.agg #[.int .i64 k, .int .i64 ax, .int .i64 ay, .int .i64 bx, .int .i64 by', .int .i64 cx, .int .i64 cy]] w fun e w' => e = .returned (.int .i64 (radZ (Ed.mk k ax ay bx by' cx cy))) ∧ Ext w w' := by
  obtain ⟨q, RES⟩ : ∃ q, Hid (radZ (Ed.mk k ax ay bx by' cx cy) = q) := ⟨_, rfl⟩
  rw [RES.out]
  by_cases hk : k = 1
  · have q0 : q = 0 := RES.out.symm.trans (radZ_line hk)
    subst hk q0
    go_enter Tryz.func51, Tryz.ntmps51
    go_wp2
    go_ret
    exact ⟨rfl, bxx⟩
  · have hkb : (k == 1) = false := by simpa using hk
    have CK := fun w => r06_Check k ax ay bx by' cx cy w
    cases hok : (Ed.mk k ax ay bx by' cx cy).ok
    · have q0 : q = 0 := RES.out.symm.trans (radZ_bad hok)
      have hc : (checkZ (Ed.mk k ax ay bx by' cx cy) == 0) = false := by unfold checkZ; rw [hok]; cases (kindB k && !(Ed.mk k ax ay bx by' cx cy).right) <;> rfl
      obtain ⟨c, C⟩ : ∃ c, Hid (checkZ (Ed.mk k ax ay bx by' cx cy) = c) := ⟨_, rfl⟩
      rw [C.out] at CK hc
      have CK := Lib.hid CK
      subst q0
      clear hok hk
      go_enter Tryz.func51, Tryz.ntmps51
      go_wp2_with fail
      refine (CK.out _).mono ?_
      rintro e w1 ⟨rfl, hx⟩
      have hx0 : Ext w w1 := Ext.step bxx hx
      clear hx
      go_wp2
      go_ret
      exact ⟨rfl, hx0⟩
    · have hc : checkZ (Ed.mk k ax ay bx by' cx cy) = 0 := by unfold checkZ; rw [hok]; rfl
      rw [hc] at CK
      have CK := Lib.hid CK
      obtain ⟨⟨hax, hay⟩, ⟨hbx, hby⟩, hcx, hcy⟩ := ok_right hok
      simp only at hax hay hbx hby hcx hcy
      have d1 := hax.sub hcx
      have d2 := hay.sub hcy
      have hsum := radZ_sum hok hk
      simp only at hsum
      rw [RES.out] at hsum
      have SB := Lib.hid (fun w => r05_Sub ax ay cx cy w d1.i64 d2.i64)
      have Z1 := Lib.hid (fun w => r06_size (ax - cx) w d1)
      have Z2 := Lib.hid (fun w => r06_size (ay - cy) w d2)
      have fin : IntKind.i64.wrap (max (ax - cx) (-(ax - cx)) + max (ay - cy) (-(ay - cy))) = q := by rw [hsum]; exact wrap_in (by unfold Di at d1 d2; unfold I64; omega)
      have FIN := Lib.hid fin
      clear hok hk fin hsum d1 d2 hax hay hbx hby hcx hcy hc RES
      go_enter Tryz.func51, Tryz.ntmps51
      go_wp2_with fail
      refine (CK.out _).mono ?_
      rintro e w1 ⟨rfl, hx⟩
      have hx0 : Ext w w1 := Ext.step bxx hx
      have hz_w1 : w.heap.size + 1 ≤ w1.heap.size := Nat.le_trans omm hx.size
      obtain ⟨hl_w1_0, hk_w1_0, hf_w1_0⟩ := extK hx (w.heap.size)
      clear hx
      go_wp2_with fail
      refine (SB.out _).mono ?_
      rintro e w2 ⟨rfl, hx⟩
      have hx2 : Ext w w2 := Ext.step bxx hx
      have hs2 := hx2.size
      clear hx
      go_upto_region 4 with (fail)
      refine wp_FS (fun W => W.cell? ⟨w2.heap.size, 0, none⟩ = some (.int .i64 (ax-cx)) ∧ W.cell? ⟨w2.heap.size, 1, none⟩ = some (.int .i64 (ay-cy))) ?_
      repeat (first | refine F_s ?_ | refine F_r ?_)
      (refine F_call (v := .int .i64 (max (ax-cx) (-(ax-cx)))) (by rfl) (by rfl) ?_ ?_; (· (intro W hW; (try dsimp only at hW); go_simp; refine (Z1.out _).mono ?_; rintro e w' ⟨rfl, hx⟩; exact ⟨_, rfl, rfl, hx⟩))); refine F_put ?_
      repeat (first | refine F_s ?_ | refine F_r ?_)
      (refine F_call (v := .int .i64 (max (ay-cy) (-(ay-cy)))) (by rfl) (by rfl) ?_ ?_; (· (intro W hW; (try dsimp only at hW); go_simp; refine (Z2.out _).mono ?_; rintro e w' ⟨rfl, hx⟩; exact ⟨_, rfl, rfl, hx⟩))); refine F_put ?_
      repeat (first | refine F_s ?_ | refine F_r ?_)
      rintro W ⟨hx, hc⟩
      have hx3 : Ext w W := Ext.step bxx hx
      clear hx hc
      go_wp2
      go_ret
      exact ⟨ret_int FIN.out, hx3⟩
set_option maxRecDepth 100000 in
set_option maxHeartbeats 1000000 in
theorem r06_Box (k ax ay bx by' cx cy : Int) (w : World) :
    Calls Tryz.prog 71 #[.agg #[.int .i64 k, .int .i64 ax, .int .i64 ay, .int .i64 bx, .int .i64 by', .int .i64 cx, .int .i64 cy]] w fun e w' => e = .returned (.agg #[.int .i64 (min ax bx), .int .i64 (min ay by'), .int .i64 (max ax bx), .int .i64 (max ay by')]) ∧ Ext w w' := by
  have hmax := @run_max2 Tryz.prog
  have hmin := @run_min2 Tryz.prog
  go_enter Tryz.func71, Tryz.ntmps71
  go_wp2
  exact bodyPost_ret (v := .agg #[.int .i64 (min ax bx), .int .i64 (min ay by'), .int .i64 (max ax bx), .int .i64 (max ay by')]) (by simp [results, Tryz.results71, go_sem]) rfl ⟨rfl, bxx⟩
set_option maxRecDepth 100000 in
set_option maxHeartbeats 2000000 in
theorem r06_within (x0 y0 x1 y1 px py : Int) (w : World) :
    Calls Tryz.prog 70 #[.agg #[.int .i64 x0, .int .i64 y0, .int .i64 x1, .int .i64 y1], .agg #[.int .i64 px, .int .i64 py]] w fun e w' => e = .returned (.bool (inB x0 y0 x1 y1 px py)) ∧ Ext w w' := by
  go_enter Tryz.func70, Tryz.ntmps70
  go_wp2
  all_goals
    go_ret
    exact ⟨ret_bool (Bool.eq_iff_iff.2 (by simp [inB]; omega)), bxx⟩

set_option maxRecDepth 100000 in
set_option maxHeartbeats 4000000 in
theorem r06_On (k ax ay bx by' cx cy : Int) (px py : Int) (w : World) :
    Calls Tryz.prog 57 #[.agg #[.int .i64 k, .int .i64 ax, .int .i64 ay, .int .i64 bx, .int .i64 by', .int .i64 cx, .int .i64 cy], .agg #[.int .i64 px, .int .i64 py]] w fun e w' => e = .returned (.bool (onE (Ed.mk k ax ay bx by' cx cy) px py)) ∧ Ext w w' := by
  obtain ⟨res, RES⟩ : ∃ q, Hid (onE (Ed.mk k ax ay bx by' cx cy) px py = q) := ⟨_, rfl⟩
  rw [RES.out]
  have CK := fun w => r06_Check k ax ay bx by' cx cy w
  obtain ⟨c, C⟩ : ∃ c, Hid (checkZ (Ed.mk k ax ay bx by' cx cy) = c) := ⟨_, rfl⟩
  rw [C.out] at CK
  have CK := Lib.hid CK
  have BX := fun w => r06_Box k ax ay bx by' cx cy w
  obtain ⟨b0, B0⟩ : ∃ b, Hid (min ax bx = b) := ⟨_, rfl⟩
  obtain ⟨b1, B1⟩ : ∃ b, Hid (min ay by' = b) := ⟨_, rfl⟩
  obtain ⟨b2, B2⟩ : ∃ b, Hid (max ax bx = b) := ⟨_, rfl⟩
  obtain ⟨b3, B3⟩ : ∃ b, Hid (max ay by' = b) := ⟨_, rfl⟩
  rw [B0.out, B1.out, B2.out, B3.out] at BX
  have BX := Lib.hid BX
  have WI := fun w => r06_within b0 b1 b2 b3 px py w
  obtain ⟨i, I⟩ : ∃ i, Hid (inB b0 b1 b2 b3 px py = i) := ⟨_, rfl⟩
  rw [I.out] at WI
  have WI := Lib.hid WI
  go_enter Tryz.func57, Tryz.ntmps57
  go_upto_region 1 with (fail)
  refine wp_FS (fun W => W.cell? ⟨w.heap.size, 0, none⟩ = some (.int .i64 k) ∧ W.cell? ⟨w.heap.size, 1, none⟩ = some (.int .i64 ax) ∧ W.cell? ⟨w.heap.size, 2, none⟩ = some (.int .i64 ay) ∧ W.cell? ⟨w.heap.size, 3, none⟩ = some (.int .i64 bx) ∧ W.cell? ⟨w.heap.size, 4, none⟩ = some (.int .i64 by') ∧ W.cell? ⟨w.heap.size, 5, none⟩ = some (.int .i64 cx) ∧ W.cell? ⟨w.heap.size, 6, none⟩ = some (.int .i64 cy) ∧ W.cell? ⟨w.heap.size + 1, 0, none⟩ = some (.int .i64 px) ∧ W.cell? ⟨w.heap.size + 1, 1, none⟩ = some (.int .i64 py)) ?_
  repeat (first | refine F_s ?_ | refine F_r ?_)
  (refine F_call (v := .agg #[.int .i64 b0, .int .i64 b1, .int .i64 b2, .int .i64 b3]) (by rfl) (by rfl) ?_ ?_; (· (intro W hW; (try dsimp only at hW); go_simp; refine (BX.out _).mono ?_; rintro e w' ⟨rfl, hx⟩; exact ⟨_, rfl, rfl, hx⟩))); refine F_put ?_
  repeat (first | refine F_s ?_ | refine F_r ?_)
  (refine F_call (v := .bool i) (by rfl) (by rfl) ?_ ?_; (· (intro W hW; (try dsimp only at hW); go_simp; refine (WI.out _).mono ?_; rintro e w' ⟨rfl, hx⟩; exact ⟨_, rfl, rfl, hx⟩))); refine F_put ?_
  repeat (first | refine F_s ?_ | refine F_r ?_)
  rintro W ⟨hx, hcc⟩
  have ex : Ext w W := Ext.step bxx hx
  have hsz := hx.size
  simp at hsz
  clear hx
  go_wp2_with fail
  refine (CK.out _).mono ?_
  rintro e w1 ⟨rfl, hx⟩
  replace ex := Ext.step ex hx
  have hz_w1 : w.heap.size + 2 ≤ w1.heap.size := Nat.le_trans omm hx.size
  obtain ⟨hl_w1_0, hk_w1_0, hf_w1_0⟩ := extK hx (w.heap.size)
  obtain ⟨hl_w1_1, hk_w1_1, hf_w1_1⟩ := extK hx (w.heap.size + 1)
  clear hx
  cases hok : (Ed.mk k ax ay bx by' cx cy).ok
  · have c0 : (c == 0) = false := by rw [← C.out]; unfold checkZ; rw [hok]; cases (kindB k && !(Ed.mk k ax ay bx by' cx cy).right) <;> rfl
    have c1 : (c != 0) = true := by simpa using c0
    have r0 : res = false := RES.out.symm.trans (onE_bad hok)
    subst r0
    clear hok
    go_wp2
    go_ret
    exact ⟨rfl, ex⟩
  · obtain rfl : c = 0 := by rw [← C.out]; unfold checkZ; rw [hok]; rfl
    cases i
    · have r0 : res = false := by rw [← RES.out]; unfold onE; rw [hok, B0.out, B1.out, B2.out, B3.out, I.out]; rfl
      subst r0
      clear hok
      go_wp2
      go_ret
      exact ⟨rfl, ex⟩
    · obtain ⟨⟨hax, hay⟩, ⟨hbx, hby⟩, hcx, hcy⟩ := ok_right hok
      simp only at hax hay hbx hby hcx hcy
      have IN := in_co hax hay hbx hby (by rw [B0.out, B1.out, B2.out, B3.out]; exact I.out)
      by_cases hk : k = 1
      · have r0 : Hid (res = ((bx - ax) * (py - ay) - (by' - ay) * (px - ax) == 0)) := Lib.hid (by rw [← RES.out]; unfold onE; rw [hok, B0.out, B1.out, B2.out, B3.out, I.out, if_pos hk]; exact sideI_zero _)
        have S1 := Lib.hid (fun w => r05_Sub bx by' ax ay w (hbx.sub hax).i64 (hby.sub hay).i64)
        have S2 := Lib.hid (fun w => r05_Sub px py ax ay w (IN.1.sub hax).i64 (IN.2.sub hay).i64)
        have CR := Lib.hid (fun w => r05_Cross (bx - ax) (by' - ay) (px - ax) (py - ay) w ((hbx.sub hax).mul64 (IN.2.sub hay)) ((hby.sub hay).mul64 (IN.1.sub hax)) ((hbx.sub hax).cross (IN.2.sub hay) (hby.sub hay) (IN.1.sub hax)))
        subst hk
        clear hok hax hay hbx hby hcx hcy IN
        go_upto_region 5 with (fail)
        refine wp_FS (fun W => W.cell? ⟨w.heap.size, 0, none⟩ = some (.int .i64 1) ∧ W.cell? ⟨w.heap.size, 1, none⟩ = some (.int .i64 ax) ∧ W.cell? ⟨w.heap.size, 2, none⟩ = some (.int .i64 ay) ∧ W.cell? ⟨w.heap.size, 3, none⟩ = some (.int .i64 bx) ∧ W.cell? ⟨w.heap.size, 4, none⟩ = some (.int .i64 by') ∧ W.cell? ⟨w.heap.size, 5, none⟩ = some (.int .i64 cx) ∧ W.cell? ⟨w.heap.size, 6, none⟩ = some (.int .i64 cy) ∧ W.cell? ⟨w.heap.size + 1, 0, none⟩ = some (.int .i64 px) ∧ W.cell? ⟨w.heap.size + 1, 1, none⟩ = some (.int .i64 py)) ?_
        repeat (first | refine F_s ?_ | refine F_r ?_)
        (refine F_call (v := .agg #[.int .i64 (bx-ax), .int .i64 (by'-ay)]) (by rfl) (by rfl) ?_ ?_; (· (intro W hW; (try dsimp only at hW); go_simp; refine (S1.out _).mono ?_; rintro e w' ⟨rfl, hx⟩; exact ⟨_, rfl, rfl, hx⟩))); refine F_put ?_
        repeat (first | refine F_s ?_ | refine F_r ?_)
        (refine F_call (v := .agg #[.int .i64 (px-ax), .int .i64 (py-ay)]) (by rfl) (by rfl) ?_ ?_; (· (intro W hW; (try dsimp only at hW); go_simp; refine (S2.out _).mono ?_; rintro e w' ⟨rfl, hx⟩; exact ⟨_, rfl, rfl, hx⟩))); refine F_put ?_
        repeat (first | refine F_s ?_ | refine F_r ?_)
        (refine F_call (v := .int .i64 ((bx - ax) * (py - ay) - (by' - ay) * (px - ax))) (by rfl) (by rfl) ?_ ?_; (· (intro W hW; (try dsimp only at hW); go_simp; refine (CR.out _).mono ?_; rintro e w' ⟨rfl, hx⟩; exact ⟨_, rfl, rfl, hx⟩))); refine F_put ?_
        repeat (first | refine F_s ?_ | refine F_r ?_)
        rintro W2 ⟨hx, hc⟩
        replace ex := Ext.step ex hx
        clear hx hc
        go_wp2
        go_ret
        exact ⟨ret_bool (by rw [r0.out]), ex⟩
      · have hkb : (k == 1) = false := by simpa using hk
        have r0 : Hid (res = ((px - cx) * (px - cx) + (py - cy) * (py - cy) == radZ (Ed.mk k ax ay bx by' cx cy) * radZ (Ed.mk k ax ay bx by' cx cy))) := Lib.hid (by rw [← RES.out]; unfold onE; rw [hok, B0.out, B1.out, B2.out, B3.out, I.out, if_neg hk]; exact powerI_rad hok hk _ _)
        have d1 := IN.1.sub hcx
        have d2 := IN.2.sub hcy
        have S1 := Lib.hid (fun w => r05_Sub px py cx cy w d1.i64 d2.i64)
        have DT := Lib.hid (fun w => r05_Dot (px - cx) (py - cy) (px - cx) (py - cy) w (d1.mul64 d1) (d2.mul64 d2) (d1.dot d1 d2 d2))
        have RA := fun w => r06_Radius k ax ay bx by' cx cy w
        have rr : I64 (radZ (Ed.mk k ax ay bx by' cx cy) * radZ (Ed.mk k ax ay bx by' cx cy)) := by rw [← radZ_sq hok hk]; exact (hax.sub hcx).dot (hax.sub hcx) (hay.sub hcy) (hay.sub hcy)
        obtain ⟨q, Q⟩ : ∃ q, Hid (radZ (Ed.mk k ax ay bx by' cx cy) = q) := ⟨_, rfl⟩
        rw [Q.out] at RA rr r0
        have RA := Lib.hid RA
        obtain ⟨qq, QQ⟩ : ∃ q', Hid (q * q = q') := ⟨_, rfl⟩
        have wq : IntKind.i64.wrap (q * q) = qq := by rw [wrap_in rr, QQ.out]
        rw [QQ.out] at r0
        clear hok hk hax hay hbx hby hcx hcy IN d1 d2 rr
        go_wp2_with fail
        refine (S1.out _).mono ?_
        rintro e w2 ⟨rfl, hx⟩
        replace ex := Ext.step ex hx
        have hz_w2 : w.heap.size + 2 ≤ w2.heap.size := Nat.le_trans omm hx.size
        obtain ⟨hl_w2_0, hk_w2_0, hf_w2_0⟩ := extK hx (w.heap.size)
        obtain ⟨hl_w2_1, hk_w2_1, hf_w2_1⟩ := extK hx (w.heap.size + 1)
        clear hx
        go_wp2_with fail
        refine (RA.out _).mono ?_
        rintro e w3 ⟨rfl, hx⟩
        have ex3 : Ext w w3 := Ext.step bxx hx
        obtain ⟨hk1, hk2⟩ := bcell hx
        have hl3 : w2.heap.size < w3.heap.size := Nat.lt_of_lt_of_le (by simp) hx.size
        have g0 := hk1 w2.heap.size 0 (by simp)
        have g1 := hk1 w2.heap.size 1 (by simp)
        clear hx hk1 hk2
        go_wp2_with fail
        refine (DT.out _).mono ?_
        rintro e w4 ⟨rfl, hx⟩
        have ex4 : Ext w w4 := Ext.step ex3 hx
        clear hx
        go_wp2
        go_ret
        exact ⟨ret_bool (by rw [r0.out]), ex4⟩
end Go.Proofs.YtmmhiiiaccldmaaGreat

namespace Go.Proofs.YtmmhiiiaccldmaaGreat
open Go.RowKit

/-- The value is the number x and a bool, in new memory. -/
def IsNb (w0 W : World) (r : Nm × Bool) (v : Value) (w' : World) : Prop := ∃ n p l c, v = .tuple #[.agg #[.bool n, .slice p l c], .bool r.2] ∧ NR w' n p l c r.1 ∧ New w0 p ∧ Ext W w'
theorem RetNum.isNb {w0 W : World} {r : Nm × Bool} {e : Ending} {w' : World} (hz : w0.heap.size ≤ W.heap.size) (h : RetNum W r e w') : ∃ v, e = .returned v ∧ IsNb w0 W r v w' := by
  obtain ⟨n, p, l, c, rfl, h1, h2, h3⟩ := h
  exact ⟨_, rfl, n, p, l, c, rfl, h1, h2.mono hz, h3⟩
section
variable {P : Program} {ops : Array Oper} {S : World → Prop} {Q : Act → World → Prop} {o : Oper} {l : List Oper} {a : Act} {own : List Nat} {F : World → Prop}
/-- A call that gives a number and a bool. -/
theorem F_numB (w0 : World) (r : Nm × Bool) (hk : fkind o = 2) (hw : Region.wanted o (yielded ops a.tmps) = true)
    (hg : ∀ w, F w → Gives P o a w (IsNb w0 w r))
    (h : ∀ n p l' c, New w0 p → WpF P ops S Q l (a.put o.dst (.tuple #[.agg #[.bool n, .slice p l' c], .bool r.2])) own (fun w => F w ∧ NR w n p l' c r.1)) : WpF P ops S Q (o :: l) a own F := by
  refine .eff hk hw (Bool × Option Addr × Nat × Nat) (fun t => .tuple #[.agg #[.bool t.1, .slice t.2.1 t.2.2.1 t.2.2.2], .bool r.2]) (fun t w => New w0 t.2.1 ∧ NR w t.1 t.2.1 t.2.2.1 t.2.2.2 r.1) (fun t w w' h hb => ⟨h.1, h.2.ext hb⟩) (fun w hf => ?_) ?_
  · refine (hg w hf).imp ?_
    rintro v w' ⟨n, p, l, c, rfl, h1, h2, h3⟩
    exact ⟨(n, p, l, c), rfl, h3, h2, h1⟩
  · rintro ⟨n, p, l', c⟩ ⟨w1, hf, hn, hr⟩
    have e : (fun w => F w ∧ New w0 p ∧ NR w n p l' c r.1) = (fun w => F w ∧ NR w n p l' c r.1) := by
      funext w; exact propext ⟨fun ⟨a, _, b⟩ => ⟨a, b⟩, fun ⟨a, b⟩ => ⟨a, hn, b⟩⟩
    have := h n p l' c hn
    rw [← e] at this
    exact this
end
end Go.Proofs.YtmmhiiiaccldmaaGreat
