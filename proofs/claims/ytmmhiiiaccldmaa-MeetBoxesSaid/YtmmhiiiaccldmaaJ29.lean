/- Contract: etchantref07.Made; the edge that it makes is valid. -/
import Derived.Test.YtmmhiiiaccldmaaJ28
set_option linter.unusedVariables false
set_option linter.unusedSimpArgs false

namespace Go.Proofs.Ytmmhiiiaccldmaa
open Go.RowKit

theorem madeE_cases (L : List Int) : nextV L 0 3 = 0 ∨ nextV L 0 3 = 1 ∨ nextV L 0 3 = 2 := by
  have := nextV_bd L 0 (n := 3) (by omega)
  omega
theorem r07_Made (L : List Int) (a : Option Addr) (len cp : Nat) (f : Int) (w : World) (hL : Ints w a len L) (hcp : len ≤ cp ∧ cp ≤ 9223372036854775807) (hf : 1 ≤ f ∧ f ≤ 1048576) :
    Calls Try.prog 9 #[.slice a len cp, .int .i64 f] w fun e w' => e = .returned (.agg #[.int .i64 (madeE L f).k, .int .i64 (madeE L f).ax, .int .i64 (madeE L f).ay, .int .i64 (madeE L f).bx, .int .i64 (madeE L f).by', .int .i64 (madeE L f).cx, .int .i64 (madeE L f).cy]) ∧ Ext w w' := by
  obtain h | h | h := madeE_cases L
  · have e : madeE L f = ⟨1, f * (nextV L (nextK L 0) 13 + 6), f * (nextV L (nextK L (nextK L 0)) 13 + 6), f * nextV L (nextK L (nextK L (nextK L 0))) 25, f * nextV L (nextK L (nextK L (nextK L (nextK L 0)))) 25, 0, 0⟩ := by
      unfold madeE; simp only [h]; rfl
    rw [e]
    exact r07_Made_line L a len cp f w hL hcp hf (by omega)
  · obtain ⟨r, R⟩ : ∃ r, f * (1 + nextV L (nextK L (nextK L (nextK L 0))) 12) = r := ⟨_, rfl⟩
    obtain ⟨ti, T⟩ : ∃ r, nextV L (nextK L (nextK L (nextK L (nextK L 0)))) 4 = r := ⟨_, rfl⟩
    obtain ⟨⟨u1, u2⟩, U⟩ : ∃ p, p = rot ti.toNat (r, 0) := ⟨_, rfl⟩
    obtain ⟨⟨v1, v2⟩, V⟩ : ∃ p, p = rot ti.toNat (0, r) := ⟨_, rfl⟩
    have e : madeE L f = ⟨2, f * (nextV L (nextK L 0) 13 + 6) + u1, f * (nextV L (nextK L (nextK L 0)) 13 + 6) + u2, f * (nextV L (nextK L 0) 13 + 6) + v1, f * (nextV L (nextK L (nextK L 0)) 13 + 6) + v2, f * (nextV L (nextK L 0) 13 + 6), f * (nextV L (nextK L (nextK L 0)) 13 + 6)⟩ := by
      unfold madeE; simp only [h, R, T, ← U, ← V]; rfl
    rw [e]
    exact r07_Made_2 L a len cp f w hL hcp hf h _ _ r ti u1 u2 v1 v2 rfl rfl R T U V
  · obtain ⟨r, R⟩ : ∃ r, f * (1 + nextV L (nextK L (nextK L (nextK L 0))) 12) = r := ⟨_, rfl⟩
    obtain ⟨ti, T⟩ : ∃ r, nextV L (nextK L (nextK L (nextK L (nextK L 0)))) 4 = r := ⟨_, rfl⟩
    obtain ⟨⟨u1, u2⟩, U⟩ : ∃ p, p = rot ti.toNat (r, 0) := ⟨_, rfl⟩
    obtain ⟨⟨v1, v2⟩, V⟩ : ∃ p, p = rot ti.toNat (0, r) := ⟨_, rfl⟩
    have e : madeE L f = ⟨3, f * (nextV L (nextK L 0) 13 + 6) + v1, f * (nextV L (nextK L (nextK L 0)) 13 + 6) + v2, f * (nextV L (nextK L 0) 13 + 6) + u1, f * (nextV L (nextK L (nextK L 0)) 13 + 6) + u2, f * (nextV L (nextK L 0) 13 + 6), f * (nextV L (nextK L (nextK L 0)) 13 + 6)⟩ := by
      unfold madeE; simp only [h, R, T, ← U, ← V]; rfl
    rw [e]
    exact r07_Made_3 L a len cp f w hL hcp hf h _ _ r ti u1 u2 v1 v2 rfl rfl R T U V

/-- What is known of a made edge: a line, or an arc, within 36 times the factor. -/
theorem madeE_form (L : List Int) (f : Int) (hf : 1 ≤ f ∧ f ≤ 1048576) :
    (∃ x y z v : Int, madeE L f = ⟨1, f * x, f * y, f * z, f * v, 0, 0⟩ ∧ 6 ≤ x ∧ x ≤ 18 ∧ 6 ≤ y ∧ y ≤ 18 ∧ 0 ≤ z ∧ z ≤ 24 ∧ 0 ≤ v ∧ v ≤ 24) ∨
    (∃ x y r : Int, ∃ ux uy vx vy k : Int, madeE L f = ⟨k, f * x + f * r * ux, f * y + f * r * uy, f * x + f * r * vx, f * y + f * r * vy, f * x, f * y⟩ ∧ 6 ≤ x ∧ x ≤ 18 ∧ 6 ≤ y ∧ y ≤ 18 ∧ 1 ≤ r ∧ r ≤ 12 ∧
      ((ux = 1 ∧ uy = 0) ∨ (ux = -1 ∧ uy = 0) ∨ (ux = 0 ∧ uy = 1) ∨ (ux = 0 ∧ uy = -1)) ∧ ((k = 2 ∧ vx = -uy ∧ vy = ux) ∨ (k = 3 ∧ vx = uy ∧ vy = -ux))) := by
  have a1 := nextV_bd L (nextK L 0) (n := 13) (by omega)
  have a2 := nextV_bd L (nextK L (nextK L 0)) (n := 13) (by omega)
  obtain h | h | h := madeE_cases L
  · have a3 := nextV_bd L (nextK L (nextK L (nextK L 0))) (n := 25) (by omega)
    have a4 := nextV_bd L (nextK L (nextK L (nextK L (nextK L 0)))) (n := 25) (by omega)
    refine .inl ⟨nextV L (nextK L 0) 13 + 6, nextV L (nextK L (nextK L 0)) 13 + 6, nextV L (nextK L (nextK L (nextK L 0))) 25, nextV L (nextK L (nextK L (nextK L (nextK L 0)))) 25, ?_, by omega, by omega, by omega, by omega, by omega, by omega, by omega, by omega⟩
    unfold madeE; simp only [h]; rfl
  all_goals
    right
    have a3 := nextV_bd L (nextK L (nextK L (nextK L 0))) (n := 12) (by omega)
    have a4 := nextV_bd L (nextK L (nextK L (nextK L (nextK L 0)))) (n := 4) (by omega)
    refine ⟨nextV L (nextK L 0) 13 + 6, nextV L (nextK L (nextK L 0)) 13 + 6, 1 + nextV L (nextK L (nextK L (nextK L 0))) 12, ?_⟩
    obtain ⟨x, X⟩ : ∃ r, f * (nextV L (nextK L 0) 13 + 6) = r := ⟨_, rfl⟩
    obtain ⟨y, Y⟩ : ∃ r, f * (nextV L (nextK L (nextK L 0)) 13 + 6) = r := ⟨_, rfl⟩
    obtain ⟨r, R⟩ : ∃ r, f * (1 + nextV L (nextK L (nextK L (nextK L 0))) 12) = r := ⟨_, rfl⟩
    obtain ⟨ti, T⟩ : ∃ r, nextV L (nextK L (nextK L (nextK L (nextK L 0)))) 4 = r := ⟨_, rfl⟩
    rw [T] at a4
    unfold madeE
    simp only [h, R, T, X, Y]
    obtain rfl | rfl | rfl | rfl : ti = 0 ∨ ti = 1 ∨ ti = 2 ∨ ti = 3 := by omega
  all_goals
    first
      | (refine ⟨1, 0, 0, 1, 2, ?_, by omega, by omega, by omega, by omega, by omega, by omega, by simp, by simp⟩; simp [rot]; done)
      | (refine ⟨0, 1, -1, 0, 2, ?_, by omega, by omega, by omega, by omega, by omega, by omega, by simp, by simp⟩; simp [rot]; done)
      | (refine ⟨-1, 0, 0, -1, 2, ?_, by omega, by omega, by omega, by omega, by omega, by omega, by simp, by simp⟩; simp [rot]; done)
      | (refine ⟨0, -1, 1, 0, 2, ?_, by omega, by omega, by omega, by omega, by omega, by omega, by simp, by simp⟩; simp [rot]; done)
      | (refine ⟨0, 1, 1, 0, 3, ?_, by omega, by omega, by omega, by omega, by omega, by omega, by simp, by simp⟩; simp [rot]; done)
      | (refine ⟨-1, 0, 0, 1, 3, ?_, by omega, by omega, by omega, by omega, by omega, by omega, by simp, by simp⟩; simp [rot]; done)
      | (refine ⟨0, -1, -1, 0, 3, ?_, by omega, by omega, by omega, by omega, by omega, by omega, by simp, by simp⟩; simp [rot]; done)
      | (refine ⟨1, 0, 0, -1, 3, ?_, by omega, by omega, by omega, by omega, by omega, by omega, by simp, by simp⟩; simp [rot]; done)
theorem madeE_ok (L : List Int) (f : Int) (hf : 1 ≤ f ∧ f ≤ 1048576) : (madeE L f).ok = true := by
  obtain ⟨x, y, z, v, e, h1, h2, h3, h4, h5, h6, h7, h8⟩ | ⟨x, y, r, ux, uy, vx, vy, k, e, h1, h2, h3, h4, h5, h6, hu, hk⟩ := madeE_form L f hf
  · rw [e]
    have b1 := fac_bd hf (x := x) (m := 18) (by omega) (by omega) (by omega)
    have b2 := fac_bd hf (x := y) (m := 18) (by omega) (by omega) (by omega)
    have b3 := fac_bd hf (x := z) (m := 24) (by omega) (by omega) (by omega)
    have b4 := fac_bd hf (x := v) (m := 24) (by omega) (by omega) (by omega)
    simp only [Ed.ok, Ed.right, Bool.and_eq_true]
    refine ⟨⟨⟨coordB_iff.2 ?_, coordB_iff.2 ?_⟩, coordB_iff.2 ?_⟩, ?_⟩
    · unfold Co; omega
    · unfold Co; omega
    · unfold Co; omega
    · simp [Ed.lone]
  · rw [e]
    have b1 := fac_bd hf (x := x) (m := 18) (by omega) (by omega) (by omega)
    have b2 := fac_bd hf (x := y) (m := 18) (by omega) (by omega) (by omega)
    have b3 := fac_bd hf (x := r) (m := 12) (by omega) (by omega) (by omega)
    have b4 : 0 < f * r := Int.mul_pos (by omega) (by omega)
    obtain ⟨X, eX⟩ : ∃ q, f * x = q := ⟨_, rfl⟩
    obtain ⟨Y, eY⟩ : ∃ q, f * y = q := ⟨_, rfl⟩
    obtain ⟨R, eR⟩ : ∃ q, f * r = q := ⟨_, rfl⟩
    rw [eX] at b1 ⊢
    rw [eY] at b2 ⊢
    rw [eR] at b3 b4 ⊢
    clear e eX eY eR
    have ca : ∀ a b : Int, a + b - a = b := fun a b => by omega
    have cb : ∀ a b : Int, a - b - a = -b := fun a b => by omega
    have cc : ∀ a b : Int, a + -b - a = -b := fun a b => by omega
    have n0 : ¬ R = 0 := by omega
    have n1 : ¬ -R = 0 := by omega
    rcases hu with ⟨rfl, rfl⟩ | ⟨rfl, rfl⟩ | ⟨rfl, rfl⟩ | ⟨rfl, rfl⟩ <;> rcases hk with ⟨rfl, rfl, rfl⟩ | ⟨rfl, rfl, rfl⟩ <;>
      (simp only [Ed.ok, Ed.right, Bool.and_eq_true]
       refine ⟨⟨⟨coordB_iff.2 ?_, coordB_iff.2 ?_⟩, coordB_iff.2 ?_⟩, ?_⟩
       · unfold Co; omega
       · unfold Co; omega
       · unfold Co; omega
       · simp [Ed.quarter, quarterB, rot, ca, cb, cc, n0, n1]
         try omega)
end Go.Proofs.Ytmmhiiiaccldmaa
