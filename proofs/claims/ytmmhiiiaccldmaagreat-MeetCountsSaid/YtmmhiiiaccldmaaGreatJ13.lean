/- Contracts: edge.of at every kind, edge.Check, power, straight, round, Radius, Box, On. | Contracts: edge.power, straight, round, Radius, Box, On. -/
import Derived.Test.YtmmhiiiaccldmaaGreatJ12
import Derived.Test.YtmmhiiiaccldmaaGreatJ03
import Derived.Deep.DeepCutAuto
set_option linter.unusedVariables false
set_option linter.unusedSimpArgs false

namespace Go.Proofs.YtmmhiiiaccldmaaGreat
open Go.RowKit
attribute [local go_sem] Gives givesU

theorem edge_of (k ax ay bx by' cx cy : Int) (w : World) :
    Calls Tryz.prog 32 #[.agg #[.int .i64 k, .int .i64 ax, .int .i64 ay, .int .i64 bx, .int .i64 by', .int .i64 cx, .int .i64 cy]] w fun e w' => e = .returned (.tuple #[.agg #[(fam k).c, (fam k).o, (fam k).r, .int .i64 (fam k).k], .bool (Ed.mk k ax ay bx by' cx cy).ok]) ∧ Ext w w' := by
  by_cases k1 : k = 1
  · subst k1; exact edge_of1 ax ay bx by' cx cy w
  by_cases k2 : k = 2
  · subst k2; exact edge_of2 ax ay bx by' cx cy w
  by_cases k3 : k = 3
  · subst k3; exact edge_of3 ax ay bx by' cx cy w
  exact edge_of0 k ax ay bx by' cx cy w (by simp [kindB, k1, k2, k3])

/-- What Check returns. -/
def checkZ (e : Ed) : Int := if e.ok then 0 else if kindB e.k && !e.right then 10 else 11

/-- The family is a row of single cells. -/
theorem fam_cases (k : Int) : (∃ f g h, fam k = ⟨.func f #[] #[], .func g #[] #[], .func h #[] #[], (fam k).k⟩) ∨ fam k = ⟨.nilFunc, .nilFunc, .nilFunc, k⟩ := by
  by_cases k1 : k = 1
  · subst k1; exact .inl ⟨_, _, _, rfl⟩
  by_cases k2 : k = 2
  · subst k2; exact .inl ⟨_, _, _, rfl⟩
  by_cases k3 : k = 3
  · subst k3; exact .inl ⟨_, _, _, rfl⟩
  exact .inr (kindB_fam (by simp [kindB, k1, k2, k3]))

set_option maxRecDepth 100000 in
set_option maxHeartbeats 4000000 in
theorem edge_Check_ok (k ax ay bx by' cx cy : Int) (w : World) (h : (Ed.mk k ax ay bx by' cx cy).ok = true) :
    Calls Tryz.prog 17 #[.agg #[.int .i64 k, .int .i64 ax, .int .i64 ay, .int .i64 bx, .int .i64 by', .int .i64 cx, .int .i64 cy]] w fun e w' => e = .returned (.int .i64 0) ∧ Ext w w' := by
  have OF := fun w => edge_of k ax ay bx by' cx cy w
  rw [h] at OF
  have CA : ∃ a b c : Value, ∃ d, fam k = ⟨a, b, c, d⟩ := ⟨_, _, _, _, rfl⟩
  rcases fam_cases k with ⟨f, g, h', e⟩ | e
  all_goals
    rw [e] at OF
    have OF := Lib.hid OF
    clear e CA h
    go_enter Tryz.func17, Tryz.ntmps17
    go_wp2_with fail
    refine (OF.out _).mono ?_
    rintro e w1 ⟨rfl, hx⟩
    have hx0 : Ext w w1 := Ext.step bxx hx
    have hs0 := hx0.size
    go_wp2
    go_ret
    exact ⟨rfl, bxx⟩

theorem checkZ_11a {e : Ed} (h : e.ok = false) (hk : ¬ 1 ≤ e.k) : checkZ e = 11 := by
  have : kindB e.k = false := by simp [kindB]; omega
  simp [checkZ, h, this]
theorem checkZ_11b {e : Ed} (h : e.ok = false) (hk : ¬ e.k ≤ 3) : checkZ e = 11 := by
  have : kindB e.k = false := by simp [kindB]; omega
  simp [checkZ, h, this]
theorem checkZ_11c {e : Ed} (h : e.ok = false) (hA : coordB e.ax e.ay = true) (hB : coordB e.bx e.by' = true) (hC : coordB e.cx e.cy = true) : checkZ e = 11 := by
  simp [checkZ, h, Ed.right, hA, hB, hC]
theorem checkZ_10 {e : Ed} (h : e.ok = false) (h1 : 1 ≤ e.k) (h3 : e.k ≤ 3) (hr : coordB e.ax e.ay = false ∨ coordB e.bx e.by' = false ∨ coordB e.cx e.cy = false) : checkZ e = 10 := by
  have : kindB e.k = true := by simp [kindB]; omega
  have : e.right = false := by rcases hr with h | h | h <;> simp [Ed.right, h]
  simp [checkZ, *]
set_option maxRecDepth 100000 in
set_option maxHeartbeats 4000000 in
theorem edge_Check_bad (k ax ay bx by' cx cy : Int) (w : World) (h : (Ed.mk k ax ay bx by' cx cy).ok = false) :
    Calls Tryz.prog 17 #[.agg #[.int .i64 k, .int .i64 ax, .int .i64 ay, .int .i64 bx, .int .i64 by', .int .i64 cx, .int .i64 cy]] w fun e w' => e = .returned (.int .i64 (checkZ (Ed.mk k ax ay bx by' cx cy))) ∧ Ext w w' := by
  have OF := fun w => edge_of k ax ay bx by' cx cy w
  rw [h] at OF
  have RA := fun w => vec_Right ax ay w
  have RB := fun w => vec_Right bx by' w
  have RC := fun w => vec_Right cx cy w
  have OKF := Lib.hid h
  clear h
  obtain ⟨q, RES⟩ : ∃ q, Hid (checkZ (Ed.mk k ax ay bx by' cx cy) = q) := ⟨_, rfl⟩
  rw [RES.out]
  rcases fam_cases k with ⟨f, g, h', e⟩ | e
  all_goals
    rw [e] at OF
    have OF := Lib.hid OF
    clear e
    by_cases h1 : 1 ≤ k
    · by_cases h3 : k ≤ 3
      · cases hA : coordB ax ay
        · rw [hA] at RA
          have RA := Lib.hid RA
          have Q := Lib.hid (RES.out.symm.trans (checkZ_10 OKF.out h1 h3 (.inl hA)))
          clear hA
          go_enter Tryz.func17, Tryz.ntmps17
          go_wp2_with fail
          refine (OF.out _).mono ?_
          rintro e w1 ⟨rfl, hx⟩
          have hx0 : Ext w w1 := Ext.step bxx hx
          have hz_w1 : w.heap.size + 1 ≤ w1.heap.size := Nat.le_trans omm hx.size
          obtain ⟨hl_w1_0, hk_w1_0, hf_w1_0⟩ := extK hx (w.heap.size)
          clear hx
          go_upto_region 4 with (fail)
          refine wp_FS (fun W => W.cell? ⟨w.heap.size, 0, none⟩ = some (.int .i64 k) ∧ W.cell? ⟨w.heap.size, 1, none⟩ = some (.int .i64 ax) ∧ W.cell? ⟨w.heap.size, 2, none⟩ = some (.int .i64 ay) ∧ W.cell? ⟨w.heap.size, 3, none⟩ = some (.int .i64 bx) ∧ W.cell? ⟨w.heap.size, 4, none⟩ = some (.int .i64 by') ∧ W.cell? ⟨w.heap.size, 5, none⟩ = some (.int .i64 cx) ∧ W.cell? ⟨w.heap.size, 6, none⟩ = some (.int .i64 cy)) ?_
          repeat (first | refine F_s ?_ | refine F_r ?_)
          (refine F_call (v := .bool false) (by rfl) (by rfl) ?_ ?_; (· (intro W hW; (try dsimp only at hW); go_simp; refine (RA.out _).mono ?_; rintro e w' ⟨rfl, hx⟩; exact ⟨_, rfl, rfl, hx⟩))); refine F_put ?_
          repeat (first | refine F_s ?_ | refine F_r ?_)
          rintro W ⟨hx, hc⟩
          clear hc
          have hx1 : Ext w W := Ext.step bxx hx
          clear hx
          go_wp2
          go_ret
          exact ⟨by rw [Q.out]; rfl, hx1⟩
        · rw [hA] at RA
          have RA := Lib.hid RA
          have HA := Lib.hid hA
          clear hA
          cases hB : coordB bx by'
          · rw [hB] at RB
            have RB := Lib.hid RB
            have Q := Lib.hid (RES.out.symm.trans (checkZ_10 OKF.out h1 h3 (.inr (.inl hB))))
            clear hB
            go_enter Tryz.func17, Tryz.ntmps17
            go_wp2_with fail
            refine (OF.out _).mono ?_
            rintro e w1 ⟨rfl, hx⟩
            have hx0 : Ext w w1 := Ext.step bxx hx
            have hz_w1 : w.heap.size + 1 ≤ w1.heap.size := Nat.le_trans omm hx.size
            obtain ⟨hl_w1_0, hk_w1_0, hf_w1_0⟩ := extK hx (w.heap.size)
            clear hx
            go_upto_region 4 with (fail)
            refine wp_FS (fun W => W.cell? ⟨w.heap.size, 0, none⟩ = some (.int .i64 k) ∧ W.cell? ⟨w.heap.size, 1, none⟩ = some (.int .i64 ax) ∧ W.cell? ⟨w.heap.size, 2, none⟩ = some (.int .i64 ay) ∧ W.cell? ⟨w.heap.size, 3, none⟩ = some (.int .i64 bx) ∧ W.cell? ⟨w.heap.size, 4, none⟩ = some (.int .i64 by') ∧ W.cell? ⟨w.heap.size, 5, none⟩ = some (.int .i64 cx) ∧ W.cell? ⟨w.heap.size, 6, none⟩ = some (.int .i64 cy)) ?_
            repeat (first | refine F_s ?_ | refine F_r ?_)
            (refine F_call (v := .bool true) (by rfl) (by rfl) ?_ ?_; (· (intro W hW; (try dsimp only at hW); go_simp; refine (RA.out _).mono ?_; rintro e w' ⟨rfl, hx⟩; exact ⟨_, rfl, rfl, hx⟩))); refine F_put ?_
            repeat (first | refine F_s ?_ | refine F_r ?_)
            (refine F_call (v := .bool false) (by rfl) (by rfl) ?_ ?_; (· (intro W hW; (try dsimp only at hW); go_simp; refine (RB.out _).mono ?_; rintro e w' ⟨rfl, hx⟩; exact ⟨_, rfl, rfl, hx⟩))); refine F_put ?_
            repeat (first | refine F_s ?_ | refine F_r ?_)
            rintro W ⟨hx, hc⟩
            clear hc
            have hx1 : Ext w W := Ext.step bxx hx
            clear hx
            go_wp2
            go_ret
            exact ⟨by rw [Q.out]; rfl, hx1⟩
          · rw [hB] at RB
            have RB := Lib.hid RB
            have HB := Lib.hid hB
            clear hB
            cases hC : coordB cx cy
            · rw [hC] at RC
              have RC := Lib.hid RC
              have Q := Lib.hid (RES.out.symm.trans (checkZ_10 OKF.out h1 h3 (.inr (.inr hC))))
              clear hC
              go_enter Tryz.func17, Tryz.ntmps17
              go_wp2_with fail
              refine (OF.out _).mono ?_
              rintro e w1 ⟨rfl, hx⟩
              have hx0 : Ext w w1 := Ext.step bxx hx
              have hz_w1 : w.heap.size + 1 ≤ w1.heap.size := Nat.le_trans omm hx.size
              obtain ⟨hl_w1_0, hk_w1_0, hf_w1_0⟩ := extK hx (w.heap.size)
              clear hx
              go_upto_region 4 with (fail)
              refine wp_FS (fun W => W.cell? ⟨w.heap.size, 0, none⟩ = some (.int .i64 k) ∧ W.cell? ⟨w.heap.size, 1, none⟩ = some (.int .i64 ax) ∧ W.cell? ⟨w.heap.size, 2, none⟩ = some (.int .i64 ay) ∧ W.cell? ⟨w.heap.size, 3, none⟩ = some (.int .i64 bx) ∧ W.cell? ⟨w.heap.size, 4, none⟩ = some (.int .i64 by') ∧ W.cell? ⟨w.heap.size, 5, none⟩ = some (.int .i64 cx) ∧ W.cell? ⟨w.heap.size, 6, none⟩ = some (.int .i64 cy)) ?_
              repeat (first | refine F_s ?_ | refine F_r ?_)
              (refine F_call (v := .bool true) (by rfl) (by rfl) ?_ ?_; (· (intro W hW; (try dsimp only at hW); go_simp; refine (RA.out _).mono ?_; rintro e w' ⟨rfl, hx⟩; exact ⟨_, rfl, rfl, hx⟩))); refine F_put ?_
              repeat (first | refine F_s ?_ | refine F_r ?_)
              (refine F_call (v := .bool true) (by rfl) (by rfl) ?_ ?_; (· (intro W hW; (try dsimp only at hW); go_simp; refine (RB.out _).mono ?_; rintro e w' ⟨rfl, hx⟩; exact ⟨_, rfl, rfl, hx⟩))); refine F_put ?_
              repeat (first | refine F_s ?_ | refine F_r ?_)
              (refine F_call (v := .bool false) (by rfl) (by rfl) ?_ ?_; (· (intro W hW; (try dsimp only at hW); go_simp; refine (RC.out _).mono ?_; rintro e w' ⟨rfl, hx⟩; exact ⟨_, rfl, rfl, hx⟩))); refine F_put ?_
              repeat (first | refine F_s ?_ | refine F_r ?_)
              rintro W ⟨hx, hc⟩
              clear hc
              have hx1 : Ext w W := Ext.step bxx hx
              clear hx
              go_wp2
              go_ret
              exact ⟨by rw [Q.out]; rfl, hx1⟩
            · rw [hC] at RC
              have RC := Lib.hid RC
              have Q := Lib.hid (RES.out.symm.trans (checkZ_11c OKF.out HA.out HB.out hC))
              clear hC
              go_enter Tryz.func17, Tryz.ntmps17
              go_wp2_with fail
              refine (OF.out _).mono ?_
              rintro e w1 ⟨rfl, hx⟩
              have hx0 : Ext w w1 := Ext.step bxx hx
              have hz_w1 : w.heap.size + 1 ≤ w1.heap.size := Nat.le_trans omm hx.size
              obtain ⟨hl_w1_0, hk_w1_0, hf_w1_0⟩ := extK hx (w.heap.size)
              clear hx
              go_upto_region 4 with (fail)
              refine wp_FS (fun W => W.cell? ⟨w.heap.size, 0, none⟩ = some (.int .i64 k) ∧ W.cell? ⟨w.heap.size, 1, none⟩ = some (.int .i64 ax) ∧ W.cell? ⟨w.heap.size, 2, none⟩ = some (.int .i64 ay) ∧ W.cell? ⟨w.heap.size, 3, none⟩ = some (.int .i64 bx) ∧ W.cell? ⟨w.heap.size, 4, none⟩ = some (.int .i64 by') ∧ W.cell? ⟨w.heap.size, 5, none⟩ = some (.int .i64 cx) ∧ W.cell? ⟨w.heap.size, 6, none⟩ = some (.int .i64 cy)) ?_
              repeat (first | refine F_s ?_ | refine F_r ?_)
              (refine F_call (v := .bool true) (by rfl) (by rfl) ?_ ?_; (· (intro W hW; (try dsimp only at hW); go_simp; refine (RA.out _).mono ?_; rintro e w' ⟨rfl, hx⟩; exact ⟨_, rfl, rfl, hx⟩))); refine F_put ?_
              repeat (first | refine F_s ?_ | refine F_r ?_)
              (refine F_call (v := .bool true) (by rfl) (by rfl) ?_ ?_; (· (intro W hW; (try dsimp only at hW); go_simp; refine (RB.out _).mono ?_; rintro e w' ⟨rfl, hx⟩; exact ⟨_, rfl, rfl, hx⟩))); refine F_put ?_
              repeat (first | refine F_s ?_ | refine F_r ?_)
              (refine F_call (v := .bool true) (by rfl) (by rfl) ?_ ?_; (· (intro W hW; (try dsimp only at hW); go_simp; refine (RC.out _).mono ?_; rintro e w' ⟨rfl, hx⟩; exact ⟨_, rfl, rfl, hx⟩))); refine F_put ?_
              repeat (first | refine F_s ?_ | refine F_r ?_)
              rintro W ⟨hx, hc⟩
              clear hc
              have hx1 : Ext w W := Ext.step bxx hx
              clear hx
              go_wp2
              go_ret
              exact ⟨by rw [Q.out]; rfl, hx1⟩
      · have Q := Lib.hid (RES.out.symm.trans (checkZ_11b OKF.out h3))
        go_enter Tryz.func17, Tryz.ntmps17
        go_wp2_with fail
        refine (OF.out _).mono ?_
        rintro e w1 ⟨rfl, hx⟩
        have hx0 : Ext w w1 := Ext.step bxx hx
        have hz_w1 : w.heap.size + 1 ≤ w1.heap.size := Nat.le_trans omm hx.size
        obtain ⟨hl_w1_0, hk_w1_0, hf_w1_0⟩ := extK hx (w.heap.size)
        clear hx
        go_wp2
        go_ret
        exact ⟨by rw [Q.out]; rfl, bxx⟩
    · have Q := Lib.hid (RES.out.symm.trans (checkZ_11a OKF.out h1))
      go_enter Tryz.func17, Tryz.ntmps17
      go_wp2_with fail
      refine (OF.out _).mono ?_
      rintro e w1 ⟨rfl, hx⟩
      have hx0 : Ext w w1 := Ext.step bxx hx
      have hz_w1 : w.heap.size + 1 ≤ w1.heap.size := Nat.le_trans omm hx.size
      obtain ⟨hl_w1_0, hk_w1_0, hf_w1_0⟩ := extK hx (w.heap.size)
      clear hx
      go_wp2
      go_ret
      exact ⟨by rw [Q.out]; rfl, bxx⟩
end Go.Proofs.YtmmhiiiaccldmaaGreat

namespace Go.Proofs.YtmmhiiiaccldmaaGreat
open Go.RowKit
attribute [local go_sem] Gives givesU

theorem run_max4 {P : Program} {w : World} (ts : Array TypeId) (t : TypeId) (x y z u : Int) : (Builtin.max_ ts t #[.int .i64 x, .int .i64 y, .int .i64 z, .int .i64 u]).run P w = .ok (.int .i64 (max (max x y) (max z u))) w := by
  have h : (Builtin.max_ ts t #[.int .i64 x, .int .i64 y, .int .i64 z, .int .i64 u]).run P w = .ok (.int .i64 (if u > (if z > (if y > x then y else x) then z else (if y > x then y else x)) then u else (if z > (if y > x then y else x) then z else (if y > x then y else x)))) w := by
    simp [Builtin.max_, Builtin.max2]
  rw [h]
  congr 2
  (repeat' split) <;> omega
attribute [local go_sem] run_max4
theorem wrap_in {x : Int} (h : I64 x) : IntKind.i64.wrap x = x := IntWalk.i64_in _ h
/-- A product of small numbers. -/
theorem mul_bd {x y m n : Int} (hx : -m ≤ x ∧ x ≤ m) (hy : -n ≤ y ∧ y ≤ n) : -(m * n) ≤ x * y ∧ x * y ≤ m * n := by
  have h1 : x.natAbs ≤ m.natAbs := by omega
  have h2 : y.natAbs ≤ n.natAbs := by omega
  have h3 : (x * y).natAbs ≤ (m * n).natAbs := by rw [Int.natAbs_mul, Int.natAbs_mul]; exact Nat.mul_le_mul h1 h2
  have h4 : 0 ≤ m * n := Int.mul_nonneg (by omega) (by omega)
  omega
/-- A difference of coordinates. -/
def Di (x : Int) : Prop := -134217728 ≤ x ∧ x ≤ 134217728
theorem Co.sub {x y : Int} (hx : Co x) (hy : Co y) : Di (x - y) := by unfold Co Di at *; omega
theorem Di.mul {x y : Int} (hx : Di x) (hy : Di y) : -18014398509481984 ≤ x * y ∧ x * y ≤ 18014398509481984 := by
  have := mul_bd (m := 134217728) (n := 134217728) hx hy
  omega
theorem Di.i64 {x : Int} (h : Di x) : I64 x := by unfold Di I64 at *; omega
theorem Di.mul64 {x y : Int} (hx : Di x) (hy : Di y) : I64 (x * y) := by have := hx.mul hy; unfold I64; omega
theorem Di.cross {a b c d : Int} (ha : Di a) (hb : Di b) (hc : Di c) (hd : Di d) : I64 (a * b - c * d) := by have := ha.mul hb; have := hc.mul hd; unfold I64; omega
theorem Di.dot {a b c d : Int} (ha : Di a) (hb : Di b) (hc : Di c) (hd : Di d) : I64 (a * b + c * d) := by have := ha.mul hb; have := hc.mul hd; unfold I64; omega

set_option maxRecDepth 100000 in
set_option maxHeartbeats 1000000 in
theorem edge_Box (k ax ay bx by' cx cy : Int) (w : World) :
    Calls Tryz.prog 36 #[.agg #[.int .i64 k, .int .i64 ax, .int .i64 ay, .int .i64 bx, .int .i64 by', .int .i64 cx, .int .i64 cy]] w fun e w' => e = .returned (.agg #[.int .i64 (min ax bx), .int .i64 (min ay by'), .int .i64 (max ax bx), .int .i64 (max ay by')]) ∧ Ext w w' := by
  go_enter Tryz.func36, Tryz.ntmps36
  go_wp2
  all_goals
    exact bodyPost_ret (v := .agg #[.int .i64 (min ax bx), .int .i64 (min ay by'), .int .i64 (max ax bx), .int .i64 (max ay by')]) (by simp [results, Tryz.results36, go_sem]; try omega) rfl ⟨rfl, bxx⟩

set_option maxRecDepth 100000 in
set_option maxHeartbeats 1000000 in
theorem edge_straight (k ax ay bx by' cx cy : Int) (px py : Int) (w : World) (hax : Co ax) (hay : Co ay) (hbx : Co bx) (hby : Co by') (hcx : Co cx) (hcy : Co cy) (hpx : Co px) (hpy : Co py) :
    Calls Tryz.prog 73 #[.agg #[.int .i64 k, .int .i64 ax, .int .i64 ay, .int .i64 bx, .int .i64 by', .int .i64 cx, .int .i64 cy], .agg #[.int .i64 px, .int .i64 py]] w fun e w' => e = .returned (.bool (sideI ((bx - ax) * (py - ay) - (by' - ay) * (px - ax)) == 0)) ∧ Ext w w' := by
  go_enter Tryz.func73, Tryz.ntmps73
  go_wp2_with fail
  refine (vec_Side ax ay bx by' px py _ (hbx.sub hax).i64 (hby.sub hay).i64 (hpx.sub hax).i64 (hpy.sub hay).i64 ((hbx.sub hax).mul64 (hpy.sub hay)) ((hby.sub hay).mul64 (hpx.sub hax)) ((hbx.sub hax).cross (hpy.sub hay) (hby.sub hay) (hpx.sub hax))).mono ?_
  rintro e w1 ⟨rfl, hx⟩
  have hx0 : Ext w w1 := Ext.step bxx hx
  go_wp2
  go_ret
  exact ⟨rfl, hx0⟩

/-- The square of the distance of p from the centre, less that of the radius. -/
def powerI (dx dy ax ay : Int) : Int := dx * dx + dy * dy - (ax * ax + ay * ay)
set_option maxRecDepth 100000 in
set_option maxHeartbeats 2000000 in
theorem edge_power (k ax ay bx by' cx cy : Int) (px py : Int) (w : World) (hax : Co ax) (hay : Co ay) (hbx : Co bx) (hby : Co by') (hcx : Co cx) (hcy : Co cy) (hpx : Co px) (hpy : Co py) :
    Calls Tryz.prog 94 #[.agg #[.int .i64 k, .int .i64 ax, .int .i64 ay, .int .i64 bx, .int .i64 by', .int .i64 cx, .int .i64 cy], .agg #[.int .i64 px, .int .i64 py]] w fun e w' => e = .returned (.int .i64 (powerI (px - cx) (py - cy) (ax - cx) (ay - cy))) ∧ Ext w w' := by
  have d1 := hpx.sub hcx
  have d2 := hpy.sub hcy
  have d3 := hax.sub hcx
  have d4 := hay.sub hcy
  have q1 := d1.mul d1
  have q2 := d2.mul d2
  have q3 := d3.mul d3
  have q4 := d4.mul d4
  go_enter Tryz.func94, Tryz.ntmps94
  go_wp2_with fail
  refine wp_KB (w.heap.size + 1 + 1) (fun W => Ext w W ∧ w.heap.size + 1 + 1 ≤ W.heap.size ∧ W.cell? ⟨w.heap.size, 0, none⟩ = some (.int .i64 k) ∧ W.cell? ⟨w.heap.size, 1, none⟩ = some (.int .i64 ax) ∧ W.cell? ⟨w.heap.size, 2, none⟩ = some (.int .i64 ay) ∧ W.cell? ⟨w.heap.size, 3, none⟩ = some (.int .i64 bx) ∧ W.cell? ⟨w.heap.size, 4, none⟩ = some (.int .i64 by') ∧ W.cell? ⟨w.heap.size, 5, none⟩ = some (.int .i64 cx) ∧ W.cell? ⟨w.heap.size, 6, none⟩ = some (.int .i64 cy) ∧ W.cell? ⟨w.heap.size + 1, 0, none⟩ = some (.int .i64 px) ∧ W.cell? ⟨w.heap.size + 1, 1, none⟩ = some (.int .i64 py)) ?_
  intro hKeep
  repeat (first | refine F_s ?_ | refine F_r ?_)
  (refine F_call (v := .agg #[.int .i64 (px-cx), .int .i64 (py-cy)]) (by rfl) (by rfl) ?_ ?_; (· (intro W hW; (try dsimp only at hW); go_simp; refine (vec_Sub _ _ _ _ _ d1.i64 d2.i64).mono ?_; rintro e w' ⟨rfl, hx⟩; exact ⟨_, rfl, rfl, hx⟩))); refine F_put ?_
  repeat (first | refine F_s ?_ | refine F_r ?_)
  (refine F_call (v := .agg #[.int .i64 (ax-cx), .int .i64 (ay-cy)]) (by rfl) (by rfl) ?_ ?_; (· (intro W hW; (try dsimp only at hW); go_simp; refine (vec_Sub _ _ _ _ _ d3.i64 d4.i64).mono ?_; rintro e w' ⟨rfl, hx⟩; exact ⟨_, rfl, rfl, hx⟩))); refine F_put ?_
  repeat (first | refine F_s ?_ | refine F_r ?_)
  refine F_al ?_
  intro g hg
  simp only [List.mem_cons, List.mem_range, not_or, Nat.not_lt] at hg
  refine F_al ?_
  intro g2 hg2
  simp only [List.mem_cons, List.mem_range, not_or, Nat.not_lt] at hg2
  obtain ⟨hgg, hg2⟩ := hg2
  have hgg' := Ne.symm hgg
  refine F_w (fun W => _ ∧ W.heap[g2]? = some (.cells #[.int .i64 0, .int .i64 0] 25)) (fun W hW => ⟨⟨hW.1.1, hW.2⟩, hW.1.2⟩) ?_
  refine F_w (fun W => _ ∧ W.heap[g]? = some (.cells #[.int .i64 (px - cx), .int .i64 (py - cy)] 25)) (fun W hW => ⟨⟨hW.1.1.1, hW.1.2⟩, hW.1.1.2⟩) ?_
  repeat (first | refine F_s ?_ | refine F_r ?_)
  rintro W ⟨⟨⟨⟨hx, hz, hc⟩, b1⟩, b2⟩, _⟩
  obtain ⟨c0, c1, _, hl1⟩ := pt_block b1
  obtain ⟨e0, e1, _, hl2⟩ := pt_block b2
  clear b1 b2 hc
  go_wp2_with fail
  refine wp_FS (fun W => W.cell? ⟨g, 0, none⟩ = some (.int .i64 (px-cx)) ∧ W.cell? ⟨g, 1, none⟩ = some (.int .i64 (py-cy)) ∧ W.cell? ⟨g2, 0, none⟩ = some (.int .i64 (ax-cx)) ∧ W.cell? ⟨g2, 1, none⟩ = some (.int .i64 (ay-cy))) ?_
  repeat (first | refine F_s ?_ | refine F_r ?_)
  (refine F_call (v := .int .i64 ((px-cx)*(px-cx)+(py-cy)*(py-cy))) (by rfl) (by rfl) ?_ ?_; (· (intro W hW; (try dsimp only at hW); go_simp; refine (vec_Dot _ _ _ _ _ (d1.mul64 d1) (d2.mul64 d2) (d1.dot d1 d2 d2)).mono ?_; rintro e w' ⟨rfl, hx⟩; exact ⟨_, rfl, rfl, hx⟩))); refine F_put ?_
  repeat (first | refine F_s ?_ | refine F_r ?_)
  (refine F_call (v := .int .i64 ((ax-cx)*(ax-cx)+(ay-cy)*(ay-cy))) (by rfl) (by rfl) ?_ ?_; (· (intro W hW; (try dsimp only at hW); go_simp; refine (vec_Dot _ _ _ _ _ (d3.mul64 d3) (d4.mul64 d4) (d3.dot d3 d4 d4)).mono ?_; rintro e w' ⟨rfl, hx⟩; exact ⟨_, rfl, rfl, hx⟩))); refine F_put ?_
  repeat (first | refine F_s ?_ | refine F_r ?_)
  rintro W2 ⟨hx2, hc⟩
  have hx3 : Ext w W2 := Ext.step hx hx2
  clear hc hx2 c0 c1 e0 e1
  go_wp2
  go_ret
  exact ⟨ret_int (wrap_in (by unfold I64; omega)), hx3⟩

set_option maxRecDepth 100000 in
set_option maxHeartbeats 1000000 in
theorem edge_round (k ax ay bx by' cx cy : Int) (px py : Int) (w : World) (hax : Co ax) (hay : Co ay) (hbx : Co bx) (hby : Co by') (hcx : Co cx) (hcy : Co cy) (hpx : Co px) (hpy : Co py) :
    Calls Tryz.prog 76 #[.agg #[.int .i64 k, .int .i64 ax, .int .i64 ay, .int .i64 bx, .int .i64 by', .int .i64 cx, .int .i64 cy], .agg #[.int .i64 px, .int .i64 py]] w fun e w' => e = .returned (.bool (powerI (px - cx) (py - cy) (ax - cx) (ay - cy) == 0)) ∧ Ext w w' := by
  go_enter Tryz.func76, Tryz.ntmps76
  go_wp2_with fail
  refine (edge_power k ax ay bx by' cx cy px py _ hax hay hbx hby hcx hcy hpx hpy).mono ?_
  rintro e w1 ⟨rfl, hx⟩
  have hx0 : Ext w w1 := Ext.step bxx hx
  go_wp2
  go_ret
  exact ⟨rfl, hx0⟩

/-- The radius of an arc. -/
def radZ (e : Ed) : Int := if e.ok && !(e.k == 1) then max (max (e.ax - e.cx) (-(e.ax - e.cx))) (max (e.ay - e.cy) (-(e.ay - e.cy))) else 0
theorem radZ_bad {e : Ed} (h : e.ok = false) : radZ e = 0 := by simp [radZ, h]
theorem radZ_line {e : Ed} (h : e.k = 1) : radZ e = 0 := by simp [radZ, h]
theorem ok_right {e : Ed} (h : e.ok = true) : (Co e.ax ∧ Co e.ay) ∧ (Co e.bx ∧ Co e.by') ∧ (Co e.cx ∧ Co e.cy) := by
  simp only [Ed.ok, Ed.right, Bool.and_eq_true] at h
  exact ⟨coordB_iff.1 h.1.1.1, coordB_iff.1 h.1.1.2, coordB_iff.1 h.1.2⟩
set_option maxRecDepth 100000 in
set_option maxHeartbeats 4000000 in
theorem edge_Radius (k ax ay bx by' cx cy : Int) (w : World) :
    Calls Tryz.prog 34 #[.agg #[.int .i64 k, .int .i64 ax, .int .i64 ay, .int .i64 bx, .int .i64 by', .int .i64 cx, .int .i64 cy]] w fun e w' => e = .returned (.int .i64 (radZ (Ed.mk k ax ay bx by' cx cy))) ∧ Ext w w' := by
  have OF := fun w => edge_of k ax ay bx by' cx cy w
  obtain ⟨q, RES⟩ : ∃ q, Hid (radZ (Ed.mk k ax ay bx by' cx cy) = q) := ⟨_, rfl⟩
  rw [RES.out]
  cases hok : (Ed.mk k ax ay bx by' cx cy).ok
  · rw [hok] at OF
    have Q := Lib.hid (RES.out.symm.trans (radZ_bad hok))
    clear hok
    rcases fam_cases k with ⟨f, g, h', e⟩ | e
    all_goals
      rw [e] at OF
      have OF := Lib.hid OF
      clear e
      go_enter Tryz.func34, Tryz.ntmps34
      go_wp2_with fail
      refine (OF.out _).mono ?_
      rintro e w1 ⟨rfl, hx⟩
      have hx0 : Ext w w1 := Ext.step bxx hx
      have hs0 := hx0.size
      go_wp2
      go_ret
      exact ⟨by rw [Q.out]; rfl, bxx⟩
  · rw [hok] at OF
    obtain ⟨⟨hax, hay⟩, _, hcx, hcy⟩ := ok_right hok
    by_cases k1 : k = 1
    · have Q := Lib.hid (RES.out.symm.trans (radZ_line k1))
      rcases fam_cases k with ⟨f, g, h', e⟩ | e
      all_goals
        rw [e] at OF
        have OF := Lib.hid OF
        clear e hok
        have kb : (k == 1) = true := by simp [k1]
        have K1 := Lib.hid k1
        clear k1
        go_enter Tryz.func34, Tryz.ntmps34
        go_wp2_with fail
        refine (OF.out _).mono ?_
        rintro e w1 ⟨rfl, hx⟩
        have hx0 : Ext w w1 := Ext.step bxx hx
        have hs0 := hx0.size
        have hz_w1 : w.heap.size + 1 ≤ w1.heap.size := Nat.le_trans omm hx.size
        obtain ⟨hl_w1_0, hk_w1_0, hf_w1_0⟩ := extK hx (w.heap.size)
        go_wp2
        go_ret
        exact ⟨by rw [Q.out]; rfl, bxx⟩
    · have kb : (k == 1) = false := by simp [k1]
      have Q : Hid (q = max (max (ax - cx) (-(ax - cx))) (max (ay - cy) (-(ay - cy)))) := by
        show q = _
        rw [← RES.out, radZ, hok]
        simp [kb]
      have d1 := hax.sub hcx
      have d2 := hay.sub hcy
      clear k1
      rcases fam_cases k with ⟨f, g, h', e⟩ | e
      all_goals
        rw [e] at OF
        have OF := Lib.hid OF
        clear e hok
        go_enter Tryz.func34, Tryz.ntmps34
        go_wp2_with fail
        refine (OF.out _).mono ?_
        rintro e w1 ⟨rfl, hx⟩
        have hx0 : Ext w w1 := Ext.step bxx hx
        have hs0 := hx0.size
        have hz_w1 : w.heap.size + 1 ≤ w1.heap.size := Nat.le_trans omm hx.size
        obtain ⟨hl_w1_0, hk_w1_0, hf_w1_0⟩ := extK hx (w.heap.size)
        clear hx
        go_wp2_with fail
        refine (vec_Sub _ _ _ _ _ d1.i64 d2.i64).mono ?_
        rintro e w2 ⟨rfl, hx⟩
        have hx2 : Ext w w2 := Ext.step bxx hx
        have hs2 := hx2.size
        clear hx
        unfold Di at d1 d2
        go_wp2
        all_goals
          go_ret
          exact ⟨by rw [Q.out]; exact ret_int (by omega), bxx⟩
end Go.Proofs.YtmmhiiiaccldmaaGreat
