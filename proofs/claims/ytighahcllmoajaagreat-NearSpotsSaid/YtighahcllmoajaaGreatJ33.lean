/- Plain: the edge that etchantref07 makes of numbers. | Contract: r07.Made, by the kernel's walker. -/
import Derived.Test.YtighahcllmoajaaGreatJ06
import Derived.Test.YtighahcllmoajaaGreatJ12
import Derived.Test.YtighahcllmoajaaGreatJ31
set_option linter.unusedVariables false
set_option linter.unusedSimpArgs false

namespace Go.Proofs.YtighahcllmoajaaGreat
open Go.RowKit
def madeE (L : List Int) (f : Int) : Ed :=
  let k1 := nextK L 0
  let k2 := nextK L k1
  let k3 := nextK L k2
  let k4 := nextK L k3
  let px := f * (nextV L k1 13 + 6)
  let py := f * (nextV L k2 13 + 6)
  if 1 + nextV L 0 3 = 1 then ⟨1, px, py, f * nextV L k3 25, f * nextV L k4 25, 0, 0⟩
  else
    let r := f * (1 + nextV L k3 12)
    let t := nextV L k4 4
    let u := rot t.toNat (r, 0)
    let v := rot t.toNat (0, r)
    if 1 + nextV L 0 3 = 3 then ⟨3, px + v.1, py + v.2, px + u.1, py + u.2, px, py⟩
    else ⟨1 + nextV L 0 3, px + u.1, py + u.2, px + v.1, py + v.2, px, py⟩
theorem fac_bd {f x m : Int} (hf : 1 <= f /\ f <= 1048576) (h0 : 0 <= x) (h1 : x <= m) (hm : m <= 100) : 0 <= f * x /\ f * x <= 1048576 * m := by
  refine ⟨Int.mul_nonneg (by omega) h0, ?_⟩
  have a := Int.mul_le_mul_of_nonneg_left h1 (show (0 : Int) <= f by omega)
  have b := Int.mul_le_mul_of_nonneg_right hf.2 (show (0 : Int) <= m by omega)
  omega
theorem madeE_cases (L : List Int) : nextV L 0 3 = 0 \/ nextV L 0 3 = 1 \/ nextV L 0 3 = 2 := by
  have := nextV_bd L 0 (n := 3) (by omega)
  omega
theorem madeE_form (L : List Int) (f : Int) (hf : 1 <= f /\ f <= 1048576) :
    (∃ x y z v : Int, madeE L f = ⟨1, f * x, f * y, f * z, f * v, 0, 0⟩ /\ 6 <= x /\ x <= 18 /\ 6 <= y /\ y <= 18 /\ 0 <= z /\ z <= 24 /\ 0 <= v /\ v <= 24) \/
    (∃ x y r : Int, ∃ ux uy vx vy k : Int, madeE L f = ⟨k, f * x + f * r * ux, f * y + f * r * uy, f * x + f * r * vx, f * y + f * r * vy, f * x, f * y⟩ /\ 6 <= x /\ x <= 18 /\ 6 <= y /\ y <= 18 /\ 1 <= r /\ r <= 12 /\
      ((ux = 1 /\ uy = 0) \/ (ux = -1 /\ uy = 0) \/ (ux = 0 /\ uy = 1) \/ (ux = 0 /\ uy = -1)) /\ ((k = 2 /\ vx = -uy /\ vy = ux) \/ (k = 3 /\ vx = uy /\ vy = -ux))) := by
  have a1 := nextV_bd L (nextK L 0) (n := 13) (by omega)
  have a2 := nextV_bd L (nextK L (nextK L 0)) (n := 13) (by omega)
  obtain h | h | h := madeE_cases L
  · have a3 := nextV_bd L (nextK L (nextK L (nextK L 0))) (n := 25) (by omega)
    have a4 := nextV_bd L (nextK L (nextK L (nextK L (nextK L 0)))) (n := 25) (by omega)
    refine .inl ⟨nextV L (nextK L 0) 13 + 6, nextV L (nextK L (nextK L 0)) 13 + 6, nextV L (nextK L (nextK L (nextK L 0))) 25, nextV L (nextK L (nextK L (nextK L (nextK L 0)))) 25, ?_, by omega, by omega, by omega, by omega, by omega, by omega, by omega, by omega⟩
    unfold madeE; simp only [h]; rfl
  all_goals
    right
    have a3 := nextV_bd L (nextK L (nextK L (nextK L 0))) (n := 12) (by omega)
    have a4 := nextV_bd L (nextK L (nextK L (nextK L (nextK L 0)))) (n := 4) (by omega)
    refine ⟨nextV L (nextK L 0) 13 + 6, nextV L (nextK L (nextK L 0)) 13 + 6, 1 + nextV L (nextK L (nextK L (nextK L 0))) 12, ?_⟩
    obtain ⟨x, X⟩ : ∃ r, f * (nextV L (nextK L 0) 13 + 6) = r := ⟨_, rfl⟩
    obtain ⟨y, Y⟩ : ∃ r, f * (nextV L (nextK L (nextK L 0)) 13 + 6) = r := ⟨_, rfl⟩
    obtain ⟨r, R⟩ : ∃ r, f * (1 + nextV L (nextK L (nextK L (nextK L 0))) 12) = r := ⟨_, rfl⟩
    obtain ⟨ti, T⟩ : ∃ r, nextV L (nextK L (nextK L (nextK L (nextK L 0)))) 4 = r := ⟨_, rfl⟩
    rw [T] at a4
    unfold madeE
    simp only [h, R, T, X, Y]
    obtain rfl | rfl | rfl | rfl : ti = 0 \/ ti = 1 \/ ti = 2 \/ ti = 3 := by omega
  all_goals
    first
      | (refine ⟨1, 0, 0, 1, 2, ?_, by omega, by omega, by omega, by omega, by omega, by omega, by simp, by simp⟩; simp [rot]; done)
      | (refine ⟨0, 1, -1, 0, 2, ?_, by omega, by omega, by omega, by omega, by omega, by omega, by simp, by simp⟩; simp [rot]; done)
      | (refine ⟨-1, 0, 0, -1, 2, ?_, by omega, by omega, by omega, by omega, by omega, by omega, by simp, by simp⟩; simp [rot]; done)
      | (refine ⟨0, -1, 1, 0, 2, ?_, by omega, by omega, by omega, by omega, by omega, by omega, by simp, by simp⟩; simp [rot]; done)
      | (refine ⟨0, 1, 1, 0, 3, ?_, by omega, by omega, by omega, by omega, by omega, by omega, by simp, by simp⟩; simp [rot]; done)
      | (refine ⟨-1, 0, 0, 1, 3, ?_, by omega, by omega, by omega, by omega, by omega, by omega, by simp, by simp⟩; simp [rot]; done)
      | (refine ⟨0, -1, -1, 0, 3, ?_, by omega, by omega, by omega, by omega, by omega, by omega, by simp, by simp⟩; simp [rot]; done)
      | (refine ⟨1, 0, 0, -1, 3, ?_, by omega, by omega, by omega, by omega, by omega, by omega, by simp, by simp⟩; simp [rot]; done)
theorem madeE_ok (L : List Int) (f : Int) (hf : 1 <= f /\ f <= 1048576) : (madeE L f).ok = true := by
  obtain ⟨x, y, z, v, e, h1, h2, h3, h4, h5, h6, h7, h8⟩ | ⟨x, y, r, ux, uy, vx, vy, k, e, h1, h2, h3, h4, h5, h6, hu, hk⟩ := madeE_form L f hf
  · rw [e]
    have b1 := fac_bd hf (x := x) (m := 18) (by omega) (by omega) (by omega)
    have b2 := fac_bd hf (x := y) (m := 18) (by omega) (by omega) (by omega)
    have b3 := fac_bd hf (x := z) (m := 24) (by omega) (by omega) (by omega)
    have b4 := fac_bd hf (x := v) (m := 24) (by omega) (by omega) (by omega)
    simp only [Ed.ok, Ed.right, Bool.and_eq_true]
    refine ⟨⟨⟨coordB_iff.2 ?_, coordB_iff.2 ?_⟩, coordB_iff.2 ?_⟩, ?_⟩
    · unfold Co; omega
    · unfold Co; omega
    · unfold Co; omega
    · simp [Ed.lone]
  · rw [e]
    have b1 := fac_bd hf (x := x) (m := 18) (by omega) (by omega) (by omega)
    have b2 := fac_bd hf (x := y) (m := 18) (by omega) (by omega) (by omega)
    have b3 := fac_bd hf (x := r) (m := 12) (by omega) (by omega) (by omega)
    have b4 : 0 < f * r := Int.mul_pos (by omega) (by omega)
    obtain ⟨X, eX⟩ : ∃ q, f * x = q := ⟨_, rfl⟩
    obtain ⟨Y, eY⟩ : ∃ q, f * y = q := ⟨_, rfl⟩
    obtain ⟨R, eR⟩ : ∃ q, f * r = q := ⟨_, rfl⟩
    rw [eX] at b1 ⊢
    rw [eY] at b2 ⊢
    rw [eR] at b3 b4 ⊢
    clear e eX eY eR
    have ca : ∀ a b : Int, a + b - a = b := fun a b => by omega
    have cb : ∀ a b : Int, a - b - a = -b := fun a b => by omega
    have cc : ∀ a b : Int, a + -b - a = -b := fun a b => by omega
    have n0 : ¬ R = 0 := by omega
    have n1 : ¬ -R = 0 := by omega
    rcases hu with ⟨rfl, rfl⟩ | ⟨rfl, rfl⟩ | ⟨rfl, rfl⟩ | ⟨rfl, rfl⟩ <;> rcases hk with ⟨rfl, rfl, rfl⟩ | ⟨rfl, rfl, rfl⟩ <;>
      (simp only [Ed.ok, Ed.right, Bool.and_eq_true]
       refine ⟨⟨⟨coordB_iff.2 ?_, coordB_iff.2 ?_⟩, coordB_iff.2 ?_⟩, ?_⟩
       · unfold Co; omega
       · unfold Co; omega
       · unfold Co; omega
       · simp [Ed.quarter, quarterB, rot, ca, cb, cc, n0, n1]
         try omega)
end Go.Proofs.YtighahcllmoajaaGreat

set_option maxRecDepth 100000
namespace Go.Proofs.YtighahcllmoajaaGreat
open Go.RowKit
def c20 : Nat := 1048576
def mad7 (L : List Int) (f : Int) : Ed :=
 let x := f * (nV L 1 13 + 6)
 let y := f * (nV L 2 13 + 6)
 if 1 + nV L 0 3 = 1 then ⟨1 + nV L 0 3, x, y, f * nV L 3 25, f * nV L 4 25, 0, 0⟩
 else
  let u := applyQ 0 0 (nV L 4 4) false (f * (1 + nV L 3 12)) 0
  let v := applyQ 0 0 (nV L 4 4) false 0 (f * (1 + nV L 3 12))
  if 1 + nV L 0 3 = 3 then ⟨1 + nV L 0 3, x + v.1, y + v.2, x + u.1, y + u.2, x, y⟩
  else ⟨1 + nV L 0 3, x + u.1, y + u.2, x + v.1, y + v.2, x, y⟩
theorem modZ_low {t : Int} (h : 0 <= t /\ t < 4) : modZ t 4 = t := by
 obtain rfl | rfl | rfl | rfl : t = 0 \/ t = 1 \/ t = 2 \/ t = 3 := by omega
 all_goals decide
theorem applyQ_rot {t : Int} (h : 0 <= t /\ t < 4) (x y : Int) : applyQ 0 0 t false x y = rot t.toNat (x, y) := by
 unfold applyQ applyP
 rw [modZ_low h]
 simp [mir]
theorem mad7_eq (L : List Int) (f : Int) : mad7 L f = madeE L f := by
 have b := nV_bd L 4 (m := 4) (by omega)
 unfold mad7 madeE
 simp only
 by_cases h : 1 + nV L 0 3 = 1
 ·rw [if_pos h, if_pos (show 1 + nextV L 0 3 = 1 from h), h]; rfl
 ·rw [if_neg h, if_neg (show ¬ 1 + nextV L 0 3 = 1 from h), applyQ_rot b, applyQ_rot b]
  by_cases h3 : 1 + nV L 0 3 = 3
  ·rw [if_pos h3, if_pos (show 1 + nextV L 0 3 = 3 from h3), h3]; rfl
  ·rw [if_neg h3, if_neg (show ¬ 1 + nextV L 0 3 = 3 from h3)]; rfl
theorem mad7_ok (L : List Int) (f : Int) : Fok Tryz.prog 16 [⟨false, [.ds L]⟩, inV f c20] (.one (edL (mad7 L f))) := by
 unfold mad7
 by_cases h : 1 + nV L 0 3 = 1
 ·simp only [if_pos h]
  exact fokX XD [dApply] [true] [pT (bq_T h)] (by kernel_rfl)
 ·simp only [if_neg h]
  by_cases h3 : 1 + nV L 0 3 = 3
  ·simp only [if_pos h3]
   exact fokX XD [dApply] [false, true] [pF (bq_F h), pT (bq_T h3)] (by kernel_rfl)
  ·simp only [if_neg h3]
   exact fokX XD [dApply] [false, false] [pF (bq_F h), pF (bq_F h3)] (by kernel_rfl)
def dMade7 : Con where
 f := 16
 g := fun | [⟨false, [.ds L]⟩, ⟨false, [.i f A]⟩] => if A <= c20 then some (.one (edL (madeE L f)), []) else none | _ => none
 ok := by
  intro args res ps h hp
  split at h <;> try cases h
  split at h <;> cases h
  rename_i L f A hA
  rw [<- mad7_eq]
  refine (mad7_ok L f).pre fun W => rvs_1 (fun _ h => h) (rvs_1 (fun v hv => ?_) rvs_0)
  exact rv_i.2 ⟨⟨Nat.le_trans (rv_i.1 hv).1.1 hA, (rv_i.1 hv).1.2⟩, (rv_i.1 hv).2⟩
end Go.Proofs.YtighahcllmoajaaGreat
