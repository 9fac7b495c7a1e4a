/- Contracts: etchantref07.Count, Edges. | The walks of the laws MeetCounts and MeetRaw. | Commons of the frames of the laws MeetCounts and MeetRaw. (They follow the kit's proof-skeleton.) -/
import Derived.Test.YtmmhiiiaccldmaaGreatJ26
import Derived.Test.YtmmhiiiaccldmaaGreatJ27
import Derived.Test.YtmmhiiiaccldmaaGreatJ20
import Derived.Test.YtmmhiiiaccldmaaGreatJ23
import Derived.Test.YtmmhiiiaccldmaaGreatRows
import Derived.WalkKit
import Derived.ProofKit
import Derived.OpenShut
import Derived.ShutString
import Derived.ChangeOld
import Derived.Below
import Derived.Lib.SmallJoins
set_option linter.unusedVariables false
set_option linter.unusedSimpArgs false

namespace Go.Proofs.YtmmhiiiaccldmaaGreat
open Go.RowKit
attribute [local go_sem] Gives givesU

theorem check_ne {e : Ed} (h : e.ok = false) : (checkZ e == 0) = false ∧ (checkZ e != 0) = true := by
  unfold checkZ
  rw [h]
  cases (kindB e.k && !e.right) <;> exact ⟨rfl, rfl⟩
theorem check_ok {e : Ed} (h : e.ok = true) : checkZ e = 0 := by
  unfold checkZ
  rw [h]
  rfl
set_option maxRecDepth 100000 in
set_option maxHeartbeats 4000000 in
theorem r7_bad1 (k ax ay bx by' cx cy k' dx dy ex ey fx fy : Int) (w : World) (h1 : (Ed.mk k ax ay bx by' cx cy).ok = false) : Calls Tryz.prog 9 #[.agg #[.int .i64 k, .int .i64 ax, .int .i64 ay, .int .i64 bx, .int .i64 by', .int .i64 cx, .int .i64 cy], .agg #[.int .i64 k', .int .i64 dx, .int .i64 dy, .int .i64 ex, .int .i64 ey, .int .i64 fx, .int .i64 fy]] w fun e w' => e = .returned (.int .i64 0) ∧ Ext w w' := by
  have C1 := fun w => r06_Check k ax ay bx by' cx cy w
  obtain ⟨a1, a2⟩ := check_ne h1
  obtain ⟨c, C⟩ : ∃ c, Hid (checkZ (Ed.mk k ax ay bx by' cx cy) = c) := ⟨_, rfl⟩
  rw [C.out] at C1 a1 a2
  replace C1 := Lib.hid C1
  clear h1
  go_enter Tryz.func9, Tryz.ntmps9
  go_wp2_with fail
  refine (C1.out _).mono ?_
  rintro e w1 ⟨rfl, hx⟩
  have hx0 : Ext w w1 := Ext.step bxx hx
  clear hx
  go_wp2
  go_ret
  exact ⟨rfl, hx0⟩
set_option maxRecDepth 100000 in
set_option maxHeartbeats 4000000 in
theorem r7_bad2 (k ax ay bx by' cx cy k' dx dy ex ey fx fy : Int) (w : World) (h1 : (Ed.mk k ax ay bx by' cx cy).ok = true) (h2 : (Ed.mk k' dx dy ex ey fx fy).ok = false) : Calls Tryz.prog 9 #[.agg #[.int .i64 k, .int .i64 ax, .int .i64 ay, .int .i64 bx, .int .i64 by', .int .i64 cx, .int .i64 cy], .agg #[.int .i64 k', .int .i64 dx, .int .i64 dy, .int .i64 ex, .int .i64 ey, .int .i64 fx, .int .i64 fy]] w fun e w' => e = .returned (.int .i64 0) ∧ Ext w w' := by
  have C1 := fun w => r06_Check k ax ay bx by' cx cy w
  rw [check_ok h1] at C1
  replace C1 := Lib.hid C1
  have C2 := fun w => r06_Check k' dx dy ex ey fx fy w
  obtain ⟨a1, a2⟩ := check_ne h2
  obtain ⟨c, C⟩ : ∃ c, Hid (checkZ (Ed.mk k' dx dy ex ey fx fy) = c) := ⟨_, rfl⟩
  rw [C.out] at C2 a1 a2
  replace C2 := Lib.hid C2
  clear h1 h2
  go_enter Tryz.func9, Tryz.ntmps9
  go_wp2_with fail
  refine (C1.out _).mono ?_
  rintro e w1 ⟨rfl, hx⟩
  have hx0 : Ext w w1 := Ext.step bxx hx
  have hz_w1 : w.heap.size + 2 ≤ w1.heap.size := Nat.le_trans omm hx.size
  obtain ⟨hl_w1_0, hk_w1_0, hf_w1_0⟩ := extK hx (w.heap.size)
  obtain ⟨hl_w1_1, hk_w1_1, hf_w1_1⟩ := extK hx (w.heap.size + 1)
  clear hx
  go_wp2_with fail
  refine (C2.out _).mono ?_
  rintro e w2 ⟨rfl, hx⟩
  replace hx0 := Ext.step hx0 hx
  clear hx
  go_wp2
  go_ret
  exact ⟨rfl, hx0⟩
--@@GOOD
set_option maxRecDepth 100000 in
set_option maxHeartbeats 8000000 in
theorem r7_good1 (k ax ay bx by' cx cy k' dx dy ex ey fx fy : Int) (w : World) (h1 : (Ed.mk k ax ay bx by' cx cy).ok = true) (h2 : (Ed.mk k' dx dy ex ey fx fy).ok = true) (k1 : k = 1) (k2 : k' = 1) (R : Int) (hR : countE (Ed.mk k ax ay bx by' cx cy) (Ed.mk k' dx dy ex ey fx fy) = R) : Calls Tryz.prog 9 #[.agg #[.int .i64 k, .int .i64 ax, .int .i64 ay, .int .i64 bx, .int .i64 by', .int .i64 cx, .int .i64 cy], .agg #[.int .i64 k', .int .i64 dx, .int .i64 dy, .int .i64 ex, .int .i64 ey, .int .i64 fx, .int .i64 fy]] w fun e w' => e = .returned (.int .i64 R) ∧ Ext w w' := by
  have C1 := fun w => r06_Check k ax ay bx by' cx cy w
  rw [check_ok h1] at C1
  replace C1 := Lib.hid C1
  have C2 := fun w => r06_Check k' dx dy ex ey fx fy w
  rw [check_ok h2] at C2
  replace C2 := Lib.hid C2
  have L1 := Lib.hid (fun b hb w => r07_line k ax ay bx by' cx cy b w hb)
  have L2 := Lib.hid (fun b hb w => r07_line k' dx dy ex ey fx fy b w hb)
  unfold countE at hR
  rw [h1, h2] at hR
  simp only [Bool.and_self, Bool.not_true, Bool.false_eq_true, if_false] at hR
  subst k1 k2
  simp only [if_true] at hR
  have LL := Lib.hid (fun w => r07_lines ax ay bx by' cx cy dx dy ex ey fx fy w h1 h2 R hR)
  clear hR
  clear h1 h2
  go_enter Tryz.func9, Tryz.ntmps9
  go_wp2_with fail
  refine (C1.out _).mono ?_
  rintro e w1 ⟨rfl, hx⟩
  have hx0 : Ext w w1 := Ext.step bxx hx
  have hz_w1 : w.heap.size + 2 ≤ w1.heap.size := Nat.le_trans omm hx.size
  obtain ⟨hl_w1_0, hk_w1_0, hf_w1_0⟩ := extK hx (w.heap.size)
  obtain ⟨hl_w1_1, hk_w1_1, hf_w1_1⟩ := extK hx (w.heap.size + 1)
  clear hx
  go_wp2_with fail
  refine (C2.out _).mono ?_
  rintro e w2 ⟨rfl, hx⟩
  replace hx0 := Ext.step hx0 hx
  have hz_w2 : w.heap.size + 2 ≤ w2.heap.size := Nat.le_trans omm hx.size
  obtain ⟨hl_w2_0, hk_w2_0, hf_w2_0⟩ := extK hx (w.heap.size)
  obtain ⟨hl_w2_1, hk_w2_1, hf_w2_1⟩ := extK hx (w.heap.size + 1)
  clear hx
  go_wp2_with fail
  refine (L1.out true (by rfl) _).mono ?_
  rintro e w3 ⟨rfl, hx⟩
  replace hx0 := Ext.step hx0 hx
  have hz_w3 : w.heap.size + 2 ≤ w3.heap.size := Nat.le_trans omm hx.size
  obtain ⟨hl_w3_0, hk_w3_0, hf_w3_0⟩ := extK hx (w.heap.size)
  obtain ⟨hl_w3_1, hk_w3_1, hf_w3_1⟩ := extK hx (w.heap.size + 1)
  clear hx
  go_wp2_with fail
  refine (L2.out true (by rfl) _).mono ?_
  rintro e w4 ⟨rfl, hx⟩
  replace hx0 := Ext.step hx0 hx
  have hz_w4 : w.heap.size + 2 ≤ w4.heap.size := Nat.le_trans omm hx.size
  obtain ⟨hl_w4_0, hk_w4_0, hf_w4_0⟩ := extK hx (w.heap.size)
  obtain ⟨hl_w4_1, hk_w4_1, hf_w4_1⟩ := extK hx (w.heap.size + 1)
  clear hx
  go_wp2_with fail
  refine (LL.out _).mono ?_
  rintro e w9 ⟨rfl, hx⟩
  replace hx0 := Ext.step hx0 hx
  clear hx
  go_wp2
  go_ret
  exact ⟨rfl, hx0⟩
set_option maxRecDepth 100000 in
set_option maxHeartbeats 8000000 in
theorem r7_good2 (k ax ay bx by' cx cy k' dx dy ex ey fx fy : Int) (w : World) (h1 : (Ed.mk k ax ay bx by' cx cy).ok = true) (h2 : (Ed.mk k' dx dy ex ey fx fy).ok = true) (k1 : k = 1) (k2 : ¬ k' = 1) (R : Int) (hR : countE (Ed.mk k ax ay bx by' cx cy) (Ed.mk k' dx dy ex ey fx fy) = R) : Calls Tryz.prog 9 #[.agg #[.int .i64 k, .int .i64 ax, .int .i64 ay, .int .i64 bx, .int .i64 by', .int .i64 cx, .int .i64 cy], .agg #[.int .i64 k', .int .i64 dx, .int .i64 dy, .int .i64 ex, .int .i64 ey, .int .i64 fx, .int .i64 fy]] w fun e w' => e = .returned (.int .i64 R) ∧ Ext w w' := by
  have C1 := fun w => r06_Check k ax ay bx by' cx cy w
  rw [check_ok h1] at C1
  replace C1 := Lib.hid C1
  have C2 := fun w => r06_Check k' dx dy ex ey fx fy w
  rw [check_ok h2] at C2
  replace C2 := Lib.hid C2
  have L1 := Lib.hid (fun b hb w => r07_line k ax ay bx by' cx cy b w hb)
  have L2 := Lib.hid (fun b hb w => r07_line k' dx dy ex ey fx fy b w hb)
  unfold countE at hR
  rw [h1, h2] at hR
  simp only [Bool.and_self, Bool.not_true, Bool.false_eq_true, if_false] at hR
  subst k1
  rw [if_pos rfl, if_neg k2] at hR
  have kb2 : (k' == 1) = false := by simpa using k2
  obtain ⟨pe, PE⟩ : ∃ b, Hid ((ax == bx && ay == by') = b) := ⟨_, rfl⟩
  have heq : ∀ w : World, (binOp .eql 25 (.agg #[.int .i64 ax, .int .i64 ay]) (.agg #[.int .i64 bx, .int .i64 by'])).run Tryz.prog w = .ok (.bool pe) w := fun w => by rw [eql_pt]; exact congrArg (fun b => Result.ok (Value.bool b) w) PE.out
  have hR2 : (if pe = true then onZ (Ed.mk k' dx dy ex ey fx fy) ax ay else crossZ (Ed.mk 1 ax ay bx by' cx cy) (Ed.mk k' dx dy ex ey fx fy)) = R := by rw [← PE.out]; exact hR
  have O1 := Lib.hid (fun hz w => r07_on k' dx dy ex ey fx fy ax ay R w hz)
  have X1 := Lib.hid (fun hz w => r07_crossed ax ay bx by' cx cy k' dx dy ex ey fx fy w h1 h2 k2 R hz)
  clear hR k2
  clear h1 h2
  go_enter Tryz.func9, Tryz.ntmps9
  go_wp2_with fail
  refine (C1.out _).mono ?_
  rintro e w1 ⟨rfl, hx⟩
  have hx0 : Ext w w1 := Ext.step bxx hx
  have hz_w1 : w.heap.size + 2 ≤ w1.heap.size := Nat.le_trans omm hx.size
  obtain ⟨hl_w1_0, hk_w1_0, hf_w1_0⟩ := extK hx (w.heap.size)
  obtain ⟨hl_w1_1, hk_w1_1, hf_w1_1⟩ := extK hx (w.heap.size + 1)
  clear hx
  go_wp2_with fail
  refine (C2.out _).mono ?_
  rintro e w2 ⟨rfl, hx⟩
  replace hx0 := Ext.step hx0 hx
  have hz_w2 : w.heap.size + 2 ≤ w2.heap.size := Nat.le_trans omm hx.size
  obtain ⟨hl_w2_0, hk_w2_0, hf_w2_0⟩ := extK hx (w.heap.size)
  obtain ⟨hl_w2_1, hk_w2_1, hf_w2_1⟩ := extK hx (w.heap.size + 1)
  clear hx
  go_wp2_with fail
  refine (L1.out true (by rfl) _).mono ?_
  rintro e w3 ⟨rfl, hx⟩
  replace hx0 := Ext.step hx0 hx
  have hz_w3 : w.heap.size + 2 ≤ w3.heap.size := Nat.le_trans omm hx.size
  obtain ⟨hl_w3_0, hk_w3_0, hf_w3_0⟩ := extK hx (w.heap.size)
  obtain ⟨hl_w3_1, hk_w3_1, hf_w3_1⟩ := extK hx (w.heap.size + 1)
  clear hx
  go_wp2_with fail
  refine (L2.out false (by exact kb2) _).mono ?_
  rintro e w4 ⟨rfl, hx⟩
  replace hx0 := Ext.step hx0 hx
  have hz_w4 : w.heap.size + 2 ≤ w4.heap.size := Nat.le_trans omm hx.size
  obtain ⟨hl_w4_0, hk_w4_0, hf_w4_0⟩ := extK hx (w.heap.size)
  obtain ⟨hl_w4_1, hk_w4_1, hf_w4_1⟩ := extK hx (w.heap.size + 1)
  clear hx
  go_wp2_with fail
  refine (L2.out false (by exact kb2) _).mono ?_
  rintro e w5 ⟨rfl, hx⟩
  replace hx0 := Ext.step hx0 hx
  have hz_w5 : w.heap.size + 2 ≤ w5.heap.size := Nat.le_trans omm hx.size
  obtain ⟨hl_w5_0, hk_w5_0, hf_w5_0⟩ := extK hx (w.heap.size)
  obtain ⟨hl_w5_1, hk_w5_1, hf_w5_1⟩ := extK hx (w.heap.size + 1)
  clear hx
  go_wp2_with fail
  refine (L1.out true (by rfl) _).mono ?_
  rintro e w6 ⟨rfl, hx⟩
  replace hx0 := Ext.step hx0 hx
  have hz_w6 : w.heap.size + 2 ≤ w6.heap.size := Nat.le_trans omm hx.size
  obtain ⟨hl_w6_0, hk_w6_0, hf_w6_0⟩ := extK hx (w.heap.size)
  obtain ⟨hl_w6_1, hk_w6_1, hf_w6_1⟩ := extK hx (w.heap.size + 1)
  clear hx
  cases pe
  · have Q := hR2
    simp only [Bool.false_eq_true, if_false] at Q
    clear hR2
    go_wp2_with fail
    refine (X1.out Q _).mono ?_
    rintro e w9 ⟨rfl, hx⟩
    replace hx0 := Ext.step hx0 hx
    clear hx
    go_wp2
    go_ret
    exact ⟨rfl, hx0⟩
  · have Q := hR2
    simp only [if_true] at Q
    clear hR2
    go_wp2_with fail
    refine (O1.out Q _).mono ?_
    rintro e w9 ⟨rfl, hx⟩
    replace hx0 := Ext.step hx0 hx
    clear hx
    go_wp2
    go_ret
    exact ⟨rfl, hx0⟩
set_option maxRecDepth 100000 in
set_option maxHeartbeats 8000000 in
theorem r7_good3 (k ax ay bx by' cx cy k' dx dy ex ey fx fy : Int) (w : World) (h1 : (Ed.mk k ax ay bx by' cx cy).ok = true) (h2 : (Ed.mk k' dx dy ex ey fx fy).ok = true) (k1 : ¬ k = 1) (k2 : k' = 1) (R : Int) (hR : countE (Ed.mk k ax ay bx by' cx cy) (Ed.mk k' dx dy ex ey fx fy) = R) : Calls Tryz.prog 9 #[.agg #[.int .i64 k, .int .i64 ax, .int .i64 ay, .int .i64 bx, .int .i64 by', .int .i64 cx, .int .i64 cy], .agg #[.int .i64 k', .int .i64 dx, .int .i64 dy, .int .i64 ex, .int .i64 ey, .int .i64 fx, .int .i64 fy]] w fun e w' => e = .returned (.int .i64 R) ∧ Ext w w' := by
  have C1 := fun w => r06_Check k ax ay bx by' cx cy w
  rw [check_ok h1] at C1
  replace C1 := Lib.hid C1
  have C2 := fun w => r06_Check k' dx dy ex ey fx fy w
  rw [check_ok h2] at C2
  replace C2 := Lib.hid C2
  have L1 := Lib.hid (fun b hb w => r07_line k ax ay bx by' cx cy b w hb)
  have L2 := Lib.hid (fun b hb w => r07_line k' dx dy ex ey fx fy b w hb)
  unfold countE at hR
  rw [h1, h2] at hR
  simp only [Bool.and_self, Bool.not_true, Bool.false_eq_true, if_false] at hR
  subst k2
  rw [if_neg k1, if_pos rfl] at hR
  have kb : (k == 1) = false := by simpa using k1
  obtain ⟨pe, PE⟩ : ∃ b, Hid ((dx == ex && dy == ey) = b) := ⟨_, rfl⟩
  have heq : ∀ w : World, (binOp .eql 25 (.agg #[.int .i64 dx, .int .i64 dy]) (.agg #[.int .i64 ex, .int .i64 ey])).run Tryz.prog w = .ok (.bool pe) w := fun w => by rw [eql_pt]; exact congrArg (fun b => Result.ok (Value.bool b) w) PE.out
  have hR2 : (if pe = true then onZ (Ed.mk k ax ay bx by' cx cy) dx dy else crossZ (Ed.mk 1 dx dy ex ey fx fy) (Ed.mk k ax ay bx by' cx cy)) = R := by rw [← PE.out]; exact hR
  have O1 := Lib.hid (fun hz w => r07_on k ax ay bx by' cx cy dx dy R w hz)
  have X1 := Lib.hid (fun hz w => r07_crossed dx dy ex ey fx fy k ax ay bx by' cx cy w h2 h1 k1 R hz)
  clear hR k1
  clear h1 h2
  go_enter Tryz.func9, Tryz.ntmps9
  go_wp2_with fail
  refine (C1.out _).mono ?_
  rintro e w1 ⟨rfl, hx⟩
  have hx0 : Ext w w1 := Ext.step bxx hx
  have hz_w1 : w.heap.size + 2 ≤ w1.heap.size := Nat.le_trans omm hx.size
  obtain ⟨hl_w1_0, hk_w1_0, hf_w1_0⟩ := extK hx (w.heap.size)
  obtain ⟨hl_w1_1, hk_w1_1, hf_w1_1⟩ := extK hx (w.heap.size + 1)
  clear hx
  go_wp2_with fail
  refine (C2.out _).mono ?_
  rintro e w2 ⟨rfl, hx⟩
  replace hx0 := Ext.step hx0 hx
  have hz_w2 : w.heap.size + 2 ≤ w2.heap.size := Nat.le_trans omm hx.size
  obtain ⟨hl_w2_0, hk_w2_0, hf_w2_0⟩ := extK hx (w.heap.size)
  obtain ⟨hl_w2_1, hk_w2_1, hf_w2_1⟩ := extK hx (w.heap.size + 1)
  clear hx
  go_wp2_with fail
  refine (L1.out false (by exact kb) _).mono ?_
  rintro e w3 ⟨rfl, hx⟩
  replace hx0 := Ext.step hx0 hx
  have hz_w3 : w.heap.size + 2 ≤ w3.heap.size := Nat.le_trans omm hx.size
  obtain ⟨hl_w3_0, hk_w3_0, hf_w3_0⟩ := extK hx (w.heap.size)
  obtain ⟨hl_w3_1, hk_w3_1, hf_w3_1⟩ := extK hx (w.heap.size + 1)
  clear hx
  go_wp2_with fail
  refine (L2.out true (by rfl) _).mono ?_
  rintro e w4 ⟨rfl, hx⟩
  replace hx0 := Ext.step hx0 hx
  have hz_w4 : w.heap.size + 2 ≤ w4.heap.size := Nat.le_trans omm hx.size
  obtain ⟨hl_w4_0, hk_w4_0, hf_w4_0⟩ := extK hx (w.heap.size)
  obtain ⟨hl_w4_1, hk_w4_1, hf_w4_1⟩ := extK hx (w.heap.size + 1)
  clear hx
  have hq : (fun W => (W.cell? ⟨w.heap.size, 0, none⟩ = some (.int .i64 k) ∧ W.cell? ⟨w.heap.size, 1, none⟩ = some (.int .i64 ax) ∧ W.cell? ⟨w.heap.size, 2, none⟩ = some (.int .i64 ay) ∧ W.cell? ⟨w.heap.size, 3, none⟩ = some (.int .i64 bx) ∧ W.cell? ⟨w.heap.size, 4, none⟩ = some (.int .i64 by') ∧ W.cell? ⟨w.heap.size, 5, none⟩ = some (.int .i64 cx) ∧ W.cell? ⟨w.heap.size, 6, none⟩ = some (.int .i64 cy) ∧ W.cell? ⟨w.heap.size + 1, 0, none⟩ = some (.int .i64 1) ∧ W.cell? ⟨w.heap.size + 1, 1, none⟩ = some (.int .i64 dx) ∧ W.cell? ⟨w.heap.size + 1, 2, none⟩ = some (.int .i64 dy) ∧ W.cell? ⟨w.heap.size + 1, 3, none⟩ = some (.int .i64 ex) ∧ W.cell? ⟨w.heap.size + 1, 4, none⟩ = some (.int .i64 ey) ∧ W.cell? ⟨w.heap.size + 1, 5, none⟩ = some (.int .i64 fx) ∧ W.cell? ⟨w.heap.size + 1, 6, none⟩ = some (.int .i64 fy) )) w4 := by
    (try dsimp only)
    go_simp
  obtain ⟨z0, z1, z2, z3, z4, z5, z6, z7, z8, z9, z10, z11, z12, z13⟩ := hq
  have y0 : ∀ o, w4.frozen? ⟨w.heap.size, o, none⟩ = false := by intro o; go_simp
  have y1 : ∀ o, w4.frozen? ⟨w.heap.size + 1, o, none⟩ = false := by intro o; go_simp
  clear hk_w4_0 hk_w4_1 hf_w4_0 hf_w4_1 hk_w3_0 hk_w3_1 hf_w3_0 hf_w3_1 hk_w2_0 hk_w2_1 hf_w2_0 hf_w2_1 hk_w1_0 hk_w1_1 hf_w1_0 hf_w1_1
  go_upto_region 7 with (fail)
  refine wp_world (fun W => Below w.heap.size w4 W ∧ W.cell? ⟨w.heap.size, 0, none⟩ = some (.int .i64 1) ∧ W.cell? ⟨w.heap.size, 1, none⟩ = some (.int .i64 dx) ∧ W.cell? ⟨w.heap.size, 2, none⟩ = some (.int .i64 dy) ∧ W.cell? ⟨w.heap.size, 3, none⟩ = some (.int .i64 ex) ∧ W.cell? ⟨w.heap.size, 4, none⟩ = some (.int .i64 ey) ∧ W.cell? ⟨w.heap.size, 5, none⟩ = some (.int .i64 fx) ∧ W.cell? ⟨w.heap.size, 6, none⟩ = some (.int .i64 fy) ∧ W.cell? ⟨w.heap.size + 1, 0, none⟩ = some (.int .i64 k) ∧ W.cell? ⟨w.heap.size + 1, 1, none⟩ = some (.int .i64 ax) ∧ W.cell? ⟨w.heap.size + 1, 2, none⟩ = some (.int .i64 ay) ∧ W.cell? ⟨w.heap.size + 1, 3, none⟩ = some (.int .i64 bx) ∧ W.cell? ⟨w.heap.size + 1, 4, none⟩ = some (.int .i64 by') ∧ W.cell? ⟨w.heap.size + 1, 5, none⟩ = some (.int .i64 cx) ∧ W.cell? ⟨w.heap.size + 1, 6, none⟩ = some (.int .i64 cy) ) ?_ ?_
  · refine ⟨?_, ?_⟩
    · iterate 14 refine Below.setCell ?_ (by first | exact Nat.le_refl _ | exact Nat.le_succ _) _
      exact Below.refl _ _
    · go_simp
  clear z0 z1 z2 z3 z4 z5 z6 z7 z8 z9 z10 z11 z12 z13
  rintro W7 ⟨hx7, z0, z1, z2, z3, z4, z5, z6, z7, z8, z9, z10, z11, z12, z13⟩
  have hs7 := hx7.size
  have hl7 : w.heap.size < W7.heap.size := by omega
  have hm7 : w.heap.size + 1 < W7.heap.size := by omega
  replace hx7 : Ext w W7 := hx0.trans hx7
  go_wp2_with fail
  refine (L2.out true (by rfl) _).mono ?_
  rintro e w8 ⟨rfl, hx⟩
  replace hx0 := Ext.step hx7 hx
  have hz_w8 : w.heap.size + 2 ≤ w8.heap.size := Nat.le_trans omm hx.size
  obtain ⟨hl_w8_0, hk_w8_0, hf_w8_0⟩ := extK hx (w.heap.size)
  obtain ⟨hl_w8_1, hk_w8_1, hf_w8_1⟩ := extK hx (w.heap.size + 1)
  clear hx
  cases pe
  · have Q := hR2
    simp only [Bool.false_eq_true, if_false] at Q
    clear hR2
    go_wp2_with fail
    refine (X1.out Q _).mono ?_
    rintro e w9 ⟨rfl, hx⟩
    replace hx0 := Ext.step hx0 hx
    clear hx
    go_wp2
    go_ret
    exact ⟨rfl, hx0⟩
  · have Q := hR2
    simp only [if_true] at Q
    clear hR2
    go_wp2_with fail
    refine (O1.out Q _).mono ?_
    rintro e w9 ⟨rfl, hx⟩
    replace hx0 := Ext.step hx0 hx
    clear hx
    go_wp2
    go_ret
    exact ⟨rfl, hx0⟩
set_option maxRecDepth 100000 in
set_option maxHeartbeats 8000000 in
theorem r7_good4 (k ax ay bx by' cx cy k' dx dy ex ey fx fy : Int) (w : World) (h1 : (Ed.mk k ax ay bx by' cx cy).ok = true) (h2 : (Ed.mk k' dx dy ex ey fx fy).ok = true) (k1 : ¬ k = 1) (k2 : ¬ k' = 1) (R : Int) (hR : countE (Ed.mk k ax ay bx by' cx cy) (Ed.mk k' dx dy ex ey fx fy) = R) : Calls Tryz.prog 9 #[.agg #[.int .i64 k, .int .i64 ax, .int .i64 ay, .int .i64 bx, .int .i64 by', .int .i64 cx, .int .i64 cy], .agg #[.int .i64 k', .int .i64 dx, .int .i64 dy, .int .i64 ex, .int .i64 ey, .int .i64 fx, .int .i64 fy]] w fun e w' => e = .returned (.int .i64 R) ∧ Ext w w' := by
  have C1 := fun w => r06_Check k ax ay bx by' cx cy w
  rw [check_ok h1] at C1
  replace C1 := Lib.hid C1
  have C2 := fun w => r06_Check k' dx dy ex ey fx fy w
  rw [check_ok h2] at C2
  replace C2 := Lib.hid C2
  have L1 := Lib.hid (fun b hb w => r07_line k ax ay bx by' cx cy b w hb)
  have L2 := Lib.hid (fun b hb w => r07_line k' dx dy ex ey fx fy b w hb)
  unfold countE at hR
  rw [h1, h2] at hR
  simp only [Bool.and_self, Bool.not_true, Bool.false_eq_true, if_false] at hR
  rw [if_neg k1, if_neg k2] at hR
  have kb : (k == 1) = false := by simpa using k1
  have kb2 : (k' == 1) = false := by simpa using k2
  have AR := Lib.hid (fun w => r07_arcs k ax ay bx by' cx cy k' dx dy ex ey fx fy w h1 h2 k1 k2 R hR)
  clear hR k1 k2
  clear h1 h2
  go_enter Tryz.func9, Tryz.ntmps9
  go_wp2_with fail
  refine (C1.out _).mono ?_
  rintro e w1 ⟨rfl, hx⟩
  have hx0 : Ext w w1 := Ext.step bxx hx
  have hz_w1 : w.heap.size + 2 ≤ w1.heap.size := Nat.le_trans omm hx.size
  obtain ⟨hl_w1_0, hk_w1_0, hf_w1_0⟩ := extK hx (w.heap.size)
  obtain ⟨hl_w1_1, hk_w1_1, hf_w1_1⟩ := extK hx (w.heap.size + 1)
  clear hx
  go_wp2_with fail
  refine (C2.out _).mono ?_
  rintro e w2 ⟨rfl, hx⟩
  replace hx0 := Ext.step hx0 hx
  have hz_w2 : w.heap.size + 2 ≤ w2.heap.size := Nat.le_trans omm hx.size
  obtain ⟨hl_w2_0, hk_w2_0, hf_w2_0⟩ := extK hx (w.heap.size)
  obtain ⟨hl_w2_1, hk_w2_1, hf_w2_1⟩ := extK hx (w.heap.size + 1)
  clear hx
  go_wp2_with fail
  refine (L1.out false (by exact kb) _).mono ?_
  rintro e w3 ⟨rfl, hx⟩
  replace hx0 := Ext.step hx0 hx
  have hz_w3 : w.heap.size + 2 ≤ w3.heap.size := Nat.le_trans omm hx.size
  obtain ⟨hl_w3_0, hk_w3_0, hf_w3_0⟩ := extK hx (w.heap.size)
  obtain ⟨hl_w3_1, hk_w3_1, hf_w3_1⟩ := extK hx (w.heap.size + 1)
  clear hx
  go_wp2_with fail
  refine (L2.out false (by exact kb2) _).mono ?_
  rintro e w5 ⟨rfl, hx⟩
  replace hx0 := Ext.step hx0 hx
  have hz_w5 : w.heap.size + 2 ≤ w5.heap.size := Nat.le_trans omm hx.size
  obtain ⟨hl_w5_0, hk_w5_0, hf_w5_0⟩ := extK hx (w.heap.size)
  obtain ⟨hl_w5_1, hk_w5_1, hf_w5_1⟩ := extK hx (w.heap.size + 1)
  clear hx
  go_wp2_with fail
  refine (L1.out false (by exact kb) _).mono ?_
  rintro e w6 ⟨rfl, hx⟩
  replace hx0 := Ext.step hx0 hx
  have hz_w6 : w.heap.size + 2 ≤ w6.heap.size := Nat.le_trans omm hx.size
  obtain ⟨hl_w6_0, hk_w6_0, hf_w6_0⟩ := extK hx (w.heap.size)
  obtain ⟨hl_w6_1, hk_w6_1, hf_w6_1⟩ := extK hx (w.heap.size + 1)
  clear hx
  go_wp2_with fail
  refine (AR.out _).mono ?_
  rintro e w9 ⟨rfl, hx⟩
  replace hx0 := Ext.step hx0 hx
  clear hx
  go_wp2
  go_ret
  exact ⟨rfl, hx0⟩
--@@DOOG
theorem r07_Count (k ax ay bx by' cx cy k' dx dy ex ey fx fy : Int) (w : World) : Calls Tryz.prog 9 #[.agg #[.int .i64 k, .int .i64 ax, .int .i64 ay, .int .i64 bx, .int .i64 by', .int .i64 cx, .int .i64 cy], .agg #[.int .i64 k', .int .i64 dx, .int .i64 dy, .int .i64 ex, .int .i64 ey, .int .i64 fx, .int .i64 fy]] w fun e w' => e = .returned (.int .i64 (countE (Ed.mk k ax ay bx by' cx cy) (Ed.mk k' dx dy ex ey fx fy))) ∧ Ext w w' := by
  cases h1 : (Ed.mk k ax ay bx by' cx cy).ok with
  | false =>
    have : countE (Ed.mk k ax ay bx by' cx cy) (Ed.mk k' dx dy ex ey fx fy) = 0 := by unfold countE; rw [h1]; rfl
    rw [this]
    exact r7_bad1 _ _ _ _ _ _ _ _ _ _ _ _ _ _ w h1
  | true =>
  cases h2 : (Ed.mk k' dx dy ex ey fx fy).ok with
  | false =>
    have : countE (Ed.mk k ax ay bx by' cx cy) (Ed.mk k' dx dy ex ey fx fy) = 0 := by unfold countE; rw [h1, h2]; rfl
    rw [this]
    exact r7_bad2 _ _ _ _ _ _ _ _ _ _ _ _ _ _ w h1 h2
  | true =>
  by_cases k1 : k = 1
  · by_cases k2 : k' = 1
    · exact r7_good1 _ _ _ _ _ _ _ _ _ _ _ _ _ _ w h1 h2 k1 k2 _ rfl
    · exact r7_good2 _ _ _ _ _ _ _ _ _ _ _ _ _ _ w h1 h2 k1 k2 _ rfl
  · by_cases k2 : k' = 1
    · exact r7_good3 _ _ _ _ _ _ _ _ _ _ _ _ _ _ w h1 h2 k1 k2 _ rfl
    · exact r7_good4 _ _ _ _ _ _ _ _ _ _ _ _ _ _ w h1 h2 k1 k2 _ rfl
set_option maxRecDepth 100000 in
set_option maxHeartbeats 2000000 in
theorem r07_Edges (k ax ay bx by' cx cy k' dx dy ex ey fx fy : Int) (w : World) : Calls Tryz.prog 11 #[.agg #[.int .i64 k, .int .i64 ax, .int .i64 ay, .int .i64 bx, .int .i64 by', .int .i64 cx, .int .i64 cy], .agg #[.int .i64 k', .int .i64 dx, .int .i64 dy, .int .i64 ex, .int .i64 ey, .int .i64 fx, .int .i64 fy]] w fun e w' => e = .returned (.bool (!(countE (Ed.mk k ax ay bx by' cx cy) (Ed.mk k' dx dy ex ey fx fy) == 0))) ∧ Ext w w' := by
  have CT := fun w => r07_Count k ax ay bx by' cx cy k' dx dy ex ey fx fy w
  obtain ⟨n, N⟩ : ∃ n, Hid (countE (Ed.mk k ax ay bx by' cx cy) (Ed.mk k' dx dy ex ey fx fy) = n) := ⟨_, rfl⟩
  rw [N.out] at CT ⊢
  replace CT := Lib.hid CT
  go_enter Tryz.func11, Tryz.ntmps11
  go_wp2_with fail
  refine (CT.out _).mono ?_
  rintro e w1 ⟨rfl, hx⟩
  have hx0 : Ext w w1 := Ext.step bxx hx
  clear hx
  go_wp2
  go_ret
  exact ⟨ret_bool (by rfl), hx0⟩
end Go.Proofs.YtmmhiiiaccldmaaGreat

namespace Go.Proofs.YtmmhiiiaccldmaaGreat
open Go.RowKit
attribute [local go_sem] Gives givesU

set_option maxRecDepth 100000 in
set_option maxHeartbeats 16000000 in
theorem law_factor (n : Int) (hn : 0 ≤ n ∧ n ≤ 255) : ∃ f : Int, (1 ≤ f ∧ f ≤ 1048576) ∧ ∀ w : World, Calls Tryz.prog 7 #[.int .u8 n] w fun e w' => e = .returned (.int .i64 f) ∧ Ext w w' := by
  obtain ⟨j, hj, h0, h1⟩ : ∃ j : Nat, n.tmod 21 = (j : Int) ∧ 0 ≤ j ∧ j ≤ 20 := ⟨(n.tmod 21).toNat, by have := Int.tmod_nonneg (21 : Int) hn.1; omega, by omega, by have := Int.tmod_lt_of_pos n (show (0 : Int) < 21 by decide); omega⟩
  have hw : IntKind.i64.wrap n = n := IntWalk.i64_in _ ⟨by omega, by omega⟩
  have hb : 1 ≤ (2 : Int) ^ j ∧ (2 : Int) ^ j ≤ 1048576 := by
    match j, h1 with
    | 0, _ | 1, _ | 2, _ | 3, _ | 4, _ | 5, _ | 6, _ | 7, _ | 8, _ | 9, _ | 10, _ | 11, _ | 12, _ | 13, _ | 14, _ | 15, _ | 16, _ | 17, _ | 18, _ | 19, _ | 20, _ => decide
    | k + 21, h => omega
  refine ⟨2 ^ j, hb, fun w => ?_⟩
  have HB := Lib.hid hb
  clear hb hn h0
  go_enter Tryz.func7, Tryz.ntmps7
  go_wp2
  go_ret
  exact ⟨ret_int (IntWalk.wrap64_in _ ⟨by have := HB.out; omega, by have := HB.out; omega⟩), bxx⟩
set_option maxRecDepth 100000 in
set_option maxHeartbeats 16000000 in
theorem Counts_core (k ax ay bx by' cx cy k' dx dy ex ey fx fy n s f u : Int) (b : Bool) (a0 a1 : Option Addr) (n0 p0 n1 p1 : Nat) (w : World)
    (FA : ∀ W, Calls Tryz.prog 7 #[.int .u8 u] W fun e w' => e = .returned (.int .i64 f) ∧ Ext W w')
    (M1 : ∀ W, Ext w W → Calls Tryz.prog 6 #[.slice a0 n0 p0, .int .i64 f] W fun e w' => e = .returned (.agg #[.int .i64 k, .int .i64 ax, .int .i64 ay, .int .i64 bx, .int .i64 by', .int .i64 cx, .int .i64 cy]) ∧ Ext W w')
    (M2 : ∀ W, Ext w W → Calls Tryz.prog 6 #[.slice a1 n1 p1, .int .i64 f] W fun e w' => e = .returned (.agg #[.int .i64 k', .int .i64 dx, .int .i64 dy, .int .i64 ex, .int .i64 ey, .int .i64 fx, .int .i64 fy]) ∧ Ext W w')
    (CN : ∀ W, Calls Tryz.prog 8 #[.agg #[.int .i64 k, .int .i64 ax, .int .i64 ay, .int .i64 bx, .int .i64 by', .int .i64 cx, .int .i64 cy], .agg #[.int .i64 k', .int .i64 dx, .int .i64 dy, .int .i64 ex, .int .i64 ey, .int .i64 fx, .int .i64 fy]] W fun e w' => e = .returned (.int .i64 n) ∧ Ext W w')
    (RN : ∀ W, Calls Tryz.prog 9 #[.agg #[.int .i64 k, .int .i64 ax, .int .i64 ay, .int .i64 bx, .int .i64 by', .int .i64 cx, .int .i64 cy], .agg #[.int .i64 k', .int .i64 dx, .int .i64 dy, .int .i64 ex, .int .i64 ey, .int .i64 fx, .int .i64 fy]] W fun e w' => e = .returned (.int .i64 n) ∧ Ext W w')
    (CE : ∀ W, Calls Tryz.prog 10 #[.agg #[.int .i64 k, .int .i64 ax, .int .i64 ay, .int .i64 bx, .int .i64 by', .int .i64 cx, .int .i64 cy], .agg #[.int .i64 k', .int .i64 dx, .int .i64 dy, .int .i64 ex, .int .i64 ey, .int .i64 fx, .int .i64 fy]] W fun e w' => e = .returned (.bool b) ∧ Ext W w')
    (RE : ∀ W, Calls Tryz.prog 11 #[.agg #[.int .i64 k, .int .i64 ax, .int .i64 ay, .int .i64 bx, .int .i64 by', .int .i64 cx, .int .i64 cy], .agg #[.int .i64 k', .int .i64 dx, .int .i64 dy, .int .i64 ex, .int .i64 ey, .int .i64 fx, .int .i64 fy]] W fun e w' => e = .returned (.bool b) ∧ Ext W w')
    (CS : ∀ W, Calls Tryz.prog 8 #[.agg #[.int .i64 k, .int .i64 ax, .int .i64 ay, .int .i64 bx, .int .i64 by', .int .i64 cx, .int .i64 cy], .agg #[.int .i64 k, .int .i64 ax, .int .i64 ay, .int .i64 bx, .int .i64 by', .int .i64 cx, .int .i64 cy]] W fun e w' => e = .returned (.int .i64 s) ∧ Ext W w')
    (RS : ∀ W, Calls Tryz.prog 9 #[.agg #[.int .i64 k, .int .i64 ax, .int .i64 ay, .int .i64 bx, .int .i64 by', .int .i64 cx, .int .i64 cy], .agg #[.int .i64 k, .int .i64 ax, .int .i64 ay, .int .i64 bx, .int .i64 by', .int .i64 cx, .int .i64 cy]] W fun e w' => e = .returned (.int .i64 s) ∧ Ext W w') :
    Calls Tryz.prog 3 #[.slice a0 n0 p0, .slice a1 n1 p1, .int .u8 u] w fun e w' => e = .returned (.bool true) ∧ Ext w w' := by
  have SN := Lib.hid law_sanity
  replace FA := Lib.hid FA
  replace M1 := Lib.hid M1
  replace M2 := Lib.hid M2
  replace CN := Lib.hid CN
  replace RN := Lib.hid RN
  replace CE := Lib.hid CE
  replace RE := Lib.hid RE
  replace CS := Lib.hid CS
  replace RS := Lib.hid RS
  have e1 : (n == n) = true := by simp
  have e2 : (b == b) = true := by simp
  have e3 : (s == s) = true := by simp
  go_enter Tryz.func3, Tryz.ntmps3
  go_wp2_with fail
  refine (SN.out _).mono ?_
  rintro e w1 ⟨rfl, hx1⟩
  go_wp2_with fail
  refine (FA.out _).mono ?_
  rintro e w2 ⟨rfl, hx⟩
  replace hx1 := Ext.step hx1 hx
  clear hx
  go_wp2_with fail
  refine (M1.out _ hx1).mono ?_
  rintro e w3 ⟨rfl, hx⟩
  replace hx1 := Ext.step hx1 hx
  clear hx
  go_wp2_with fail
  refine (FA.out _).mono ?_
  rintro e w4 ⟨rfl, hx⟩
  replace hx1 := Ext.step hx1 hx
  clear hx
  go_wp2_with fail
  refine (M2.out _ hx1).mono ?_
  rintro e w5 ⟨rfl, hx⟩
  have hx3 : Ext w w5 := Ext.step hx1 hx
  have hs3 := hx3.size
  clear hx hx1
  go_upto_region 3 with (fail)
  refine wp_world (fun W => Ext w W ∧ (W.cell? ⟨w5.heap.size, 0, none⟩ = some (.int .i64 k) ∧ W.cell? ⟨w5.heap.size, 1, none⟩ = some (.int .i64 ax) ∧ W.cell? ⟨w5.heap.size, 2, none⟩ = some (.int .i64 ay) ∧ W.cell? ⟨w5.heap.size, 3, none⟩ = some (.int .i64 bx) ∧ W.cell? ⟨w5.heap.size, 4, none⟩ = some (.int .i64 by') ∧ W.cell? ⟨w5.heap.size, 5, none⟩ = some (.int .i64 cx) ∧ W.cell? ⟨w5.heap.size, 6, none⟩ = some (.int .i64 cy) ∧ W.cell? ⟨w5.heap.size + 1, 0, none⟩ = some (.int .i64 k') ∧ W.cell? ⟨w5.heap.size + 1, 1, none⟩ = some (.int .i64 dx) ∧ W.cell? ⟨w5.heap.size + 1, 2, none⟩ = some (.int .i64 dy) ∧ W.cell? ⟨w5.heap.size + 1, 3, none⟩ = some (.int .i64 ex) ∧ W.cell? ⟨w5.heap.size + 1, 4, none⟩ = some (.int .i64 ey) ∧ W.cell? ⟨w5.heap.size + 1, 5, none⟩ = some (.int .i64 fx) ∧ W.cell? ⟨w5.heap.size + 1, 6, none⟩ = some (.int .i64 fy) ) ∧ w5.heap.size + 1 < W.heap.size) ?_ ?_
  · refine ⟨bxx, by go_simp, by simp⟩
  rintro W4 ⟨hx4, hc4, hl4⟩
  obtain ⟨A, hA⟩ : ∃ A, Hid (w5.heap.size = A) := ⟨_, rfl⟩
  obtain ⟨B, hB⟩ : ∃ B, Hid (A + 1 = B) := ⟨_, rfl⟩
  rw [hA.out, hB.out] at hc4
  rw [hA.out, hB.out] at hl4
  rw [hA.out, hB.out]
  have hlA : A < W4.heap.size := by have := hB.out; omega
  clear hx3 hs3
  refine wp_FS (fun W => W.cell? ⟨A, 0, none⟩ = some (.int .i64 k) ∧ W.cell? ⟨A, 1, none⟩ = some (.int .i64 ax) ∧ W.cell? ⟨A, 2, none⟩ = some (.int .i64 ay) ∧ W.cell? ⟨A, 3, none⟩ = some (.int .i64 bx) ∧ W.cell? ⟨A, 4, none⟩ = some (.int .i64 by') ∧ W.cell? ⟨A, 5, none⟩ = some (.int .i64 cx) ∧ W.cell? ⟨A, 6, none⟩ = some (.int .i64 cy) ∧ W.cell? ⟨B, 0, none⟩ = some (.int .i64 k') ∧ W.cell? ⟨B, 1, none⟩ = some (.int .i64 dx) ∧ W.cell? ⟨B, 2, none⟩ = some (.int .i64 dy) ∧ W.cell? ⟨B, 3, none⟩ = some (.int .i64 ex) ∧ W.cell? ⟨B, 4, none⟩ = some (.int .i64 ey) ∧ W.cell? ⟨B, 5, none⟩ = some (.int .i64 fx) ∧ W.cell? ⟨B, 6, none⟩ = some (.int .i64 fy)) ?_
  repeat (first | refine F_s ?_ | refine F_r ?_)
  (refine F_call (v := .int .i64 n) (by rfl) (by rfl) ?_ ?_; (· (intro W hW; (try dsimp only at hW); go_simp; refine (CN.out _).mono ?_; rintro e w' ⟨rfl, hx⟩; exact ⟨_, rfl, rfl, hx⟩))); refine F_put ?_
  repeat (first | refine F_s ?_ | refine F_r ?_)
  (refine F_call (v := .int .i64 n) (by rfl) (by rfl) ?_ ?_; (· (intro W hW; (try dsimp only at hW); go_simp; refine (RN.out _).mono ?_; rintro e w' ⟨rfl, hx⟩; exact ⟨_, rfl, rfl, hx⟩))); refine F_put ?_
  repeat (first | refine F_s ?_ | refine F_r ?_)
  (refine F_call (v := .bool b) (by rfl) (by rfl) ?_ ?_; (· (intro W hW; (try dsimp only at hW); go_simp; refine (CE.out _).mono ?_; rintro e w' ⟨rfl, hx⟩; exact ⟨_, rfl, rfl, hx⟩))); refine F_put ?_
  repeat (first | refine F_s ?_ | refine F_r ?_)
  (refine F_call (v := .bool b) (by rfl) (by rfl) ?_ ?_; (· (intro W hW; (try dsimp only at hW); go_simp; refine (RE.out _).mono ?_; rintro e w' ⟨rfl, hx⟩; exact ⟨_, rfl, rfl, hx⟩))); refine F_put ?_
  repeat (first | refine F_s ?_ | refine F_r ?_)
  (refine F_call (v := .int .i64 s) (by rfl) (by rfl) ?_ ?_; (· (intro W hW; (try dsimp only at hW); go_simp; refine (CS.out _).mono ?_; rintro e w' ⟨rfl, hx⟩; exact ⟨_, rfl, rfl, hx⟩))); refine F_put ?_
  repeat (first | refine F_s ?_ | refine F_r ?_)
  (refine F_call (v := .int .i64 s) (by rfl) (by rfl) ?_ ?_; (· (intro W hW; (try dsimp only at hW); go_simp; refine (RS.out _).mono ?_; rintro e w' ⟨rfl, hx⟩; exact ⟨_, rfl, rfl, hx⟩))); refine F_put ?_
  repeat (first | refine F_s ?_ | refine F_r ?_)
  rintro W6 ⟨hx, _⟩
  replace hx4 := Ext.step hx4 hx
  clear hx
  go_wp2
  go_ret
  exact ⟨rfl, hx4⟩
end Go.Proofs.YtmmhiiiaccldmaaGreat

namespace Go.Proofs.YtmmhiiiaccldmaaGreat.fin
open Go.ChangeShapes Go.WideShapes Go.ChangeAt Go.RowKit Go.Joins
set_option linter.unusedVariables false

def In64 (z : Int) : Prop := -9223372036854775808 ≤ z ∧ z ≤ 9223372036854775807
theorem list_cons {α : Type} {L : List α} {n : Nat} (h : L.length = n + 1) : ∃ x M, L = x :: M ∧ M.length = n := by
  cases L with
  | nil => simp at h
  | cons x M => exact ⟨x, M, rfl, by simpa using h⟩
theorem own : ownKnob Tryz.prog.godebug = none := by kernel_rfl
theorem laidOut : laidOutB Tryz.prog = true := by kernel_rfl
theorem cells25 : Tryz.prog.cellsOf 25 = 2 := by kernel_rfl
theorem cells3 : Tryz.prog.cellsOf 3 = 1 := by kernel_rfl

/-- WHAT THE WALK IS TOLD OF A SLICE OF INTEGERS THAT CAME IN: it is nil; or it leads to a row of 'cap' cells, the numbers 'zs' (the first 'len' are its elements, the rest its spare room), each fitting its kind. -/
def IsRow (k : IntKind) (w : World) (a : Option Addr) (len cap : Nat) (zs : List Int) : Prop :=
  (a = none ∧ len = 0 ∧ cap = 0 ∧ zs = []) ∨
  ∃ x, a = some x ∧ len ≤ cap ∧ cap ≤ maxLen ∧ zs.length = cap ∧ (∀ i, i < zs.length → w.cell? (x.add i) = some (.int k (zs.getD i 0))) ∧ ∀ n ∈ zs, (Lit.int k n).wf = true

theorem IsRow.ints {w : World} {a : Option Addr} {len cap : Nat} {zs : List Int} (h : IsRow .i64 w a len cap zs) : Ints w a len (zs.take len) ∧ len ≤ cap ∧ cap ≤ 9223372036854775807 := by
  rcases h with ⟨rfl, rfl, rfl, rfl⟩ | ⟨x, rfl, hl, hm, hz, hc, _⟩
  · exact ⟨⟨rfl, by omega, fun h => absurd h (by omega)⟩, by omega, by omega⟩
  · unfold maxLen at hm
    refine ⟨⟨by rw [List.length_take, hz]; omega, by omega, fun h0 => ?_⟩, hl, by omega⟩
    obtain ⟨b, o, rfl, hd⟩ := ints_at hc (by omega)
    refine ⟨b, o, rfl, ?_, fun i hi => ?_⟩
    · exact World.block_lt_of_cell? w _ (hd 0 (by omega))
    · rw [hd i (by omega), List.getElem?_take_of_lt hi]
      rfl
set_option maxRecDepth 100000 in
theorem int_of {W : World} {base : Nat} {v : Value} (h : Cell.okWide Tryz.prog W .any base 3 v) : ∃ z, v = .int .i64 z ∧ In64 z := by
  have hu := Tryz.underlying3
  unfold Cell.okWide at h
  rw [hu] at h
  cases v with
  | int k z =>
    simp only [Cell.ok, hu, IntKind.has] at h
    obtain ⟨rfl, h1, h2⟩ := h
    simp [IntKind.min, IntKind.max, IntKind.signed, IntKind.bits] at h1 h2
    exact ⟨z, rfl, h1, h2⟩
  | _ => simp [Cell.ok, hu] at h
set_option maxRecDepth 100000 in
/-- A struct of ints that came in. -/
theorem ints_st {W : World} {base n : Nat} {t : TypeId} {v : Value} {fs : Array Field} (hu : Tryz.prog.underlying t = some (.struct fs)) (hC : Tryz.prog.cellsOf t = n) (hT : Tryz.prog.cellTypes Tryz.prog.depth t = some (List.replicate n 3))
    (hv : Value.okWide Tryz.prog W .any base t v) : ∃ L : List Int, L.length = n ∧ v = .agg (L.map (Value.int .i64)).toArray ∧ ∀ z ∈ L, In64 z := by
  unfold Value.okWide at hv
  rw [hu] at hv
  obtain ⟨cs, rfl, hsz, ts, hts, _, hc⟩ := hv
  rw [hC] at hsz
  obtain rfl : List.replicate n 3 = ts := Option.some.inj (hT.symm.trans hts)
  have hz : ∀ i, i < n → ∃ z, cs[i]? = some (.int .i64 z) ∧ In64 z := by
    intro i hi
    have hq : cs[i]? = some cs[i] := Array.getElem?_eq_getElem (by omega)
    obtain ⟨u, h1, h2⟩ := hc i _ hq
    rw [List.length_replicate, Nat.mod_eq_of_lt hi, List.getElem?_replicate, if_pos hi] at h1
    cases h1
    obtain ⟨z, h3, h4⟩ := int_of h2
    exact ⟨z, by rw [hq, h3], h4⟩
  have key : ∀ l : List Value, (∀ v ∈ l, ∃ z, v = .int .i64 z ∧ In64 z) → ∃ L : List Int, L.length = l.length ∧ l = L.map (Value.int .i64) ∧ ∀ z ∈ L, In64 z := by
    intro l
    induction l with
    | nil => exact fun _ => ⟨[], rfl, rfl, fun z h => by cases h⟩
    | cons x l ih =>
      intro h
      obtain ⟨z, rfl, hz⟩ := h x (List.mem_cons_self ..)
      obtain ⟨L, h1, h2, h3⟩ := ih (fun v hv => h v (List.mem_cons_of_mem _ hv))
      refine ⟨z :: L, by simp [h1], by rw [List.map_cons, ← h2], fun y hy => ?_⟩
      rcases List.mem_cons.1 hy with rfl | hy
      · exact hz
      · exact h3 y hy
  obtain ⟨L, h1, h2, h3⟩ := key cs.toList (fun v hv => by
    obtain ⟨i, hi, rfl⟩ := List.getElem_of_mem hv
    simp only [Array.length_toList] at hi
    obtain ⟨z, h1, h2⟩ := hz i (by omega)
    rw [Array.getElem?_eq_getElem hi] at h1
    exact ⟨z, by simpa using h1, h2⟩)
  exact ⟨L, by simpa [hsz] using h1, by rw [← h2], h3⟩
theorem u8_bd {n : Int} (h : (Lit.int .u8 n).wf = true) : 0 ≤ n ∧ n ≤ 255 := by
  simpa [Lit.wf, IntKind.has, IntKind.min, IntKind.max, IntKind.signed, IntKind.bits] using h
end Go.Proofs.YtmmhiiiaccldmaaGreat.fin
