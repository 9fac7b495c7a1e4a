/- Contract: num.Div, given that of num.divide at the two numbers. -/
import Derived.Test.YtdaaknfmodbjcaaDoorJ06
import Derived.Test.YtdaaknfmodbjcaaDoorJ05
import Derived.Test.YtdaaknfmodbjcaaDoorJ08
import Derived.Great.BuildSlice
import Derived.Deep.DeepCutAuto
set_option linter.unusedVariables false
set_option linter.unusedSimpArgs false

namespace Go.Proofs.YtdaaknfmodbjcaaDoor
open Go.RowKit
attribute [local go_sem] Gives givesU

theorem F_row {P : Program} {ops : Array Oper} {S : World → Prop} {Q : Act → World → Prop} {o : Oper} {l : List Oper} {a : Act} {own : List Nat} {F : World → Prop} (v : Nat) (hk : fkind o = 2) (hw : Region.wanted o (yielded ops a.tmps) = true)
    (hg : ∀ w, F w → Gives P o a w (fun u w' => ∃ d p c, u = .slice p (List.length d) c ∧ Row w' p c d ∧ Ext w w' ∧ val d = v))
    (h : ∀ d p c, val d = v → WpF P ops S Q l (a.put o.dst (.slice p d.length c)) own (fun w => F w ∧ Row w p c d)) : WpF P ops S Q (o :: l) a own F := by
  refine F_callE (I := List Nat × Option Addr × Nat) (fun t => .slice t.2.1 t.1.length t.2.2) (fun t w => val t.1 = v ∧ Row w t.2.1 t.2.2 t.1) (fun t w w' h hb => ⟨h.1, h.2.ext hb⟩) hk hw (fun w hf => ?_) ?_
  · refine (hg w hf).imp ?_
    rintro u w' ⟨d, p, c, rfl, hr, hx, hv⟩
    exact ⟨(d, p, c), rfl, hx, hv, hr⟩
  · rintro ⟨d, p, c⟩ ⟨w, hf, hv, hr⟩
    have e : (fun w => F w ∧ val d = v ∧ Row w p c d) = (fun w => F w ∧ Row w p c d) := by
      funext w; exact propext ⟨fun ⟨a, _, b⟩ => ⟨a, b⟩, fun ⟨a, b⟩ => ⟨a, hv, b⟩⟩
    have := h d p c hv
    rw [← e] at this
    exact this
theorem fillD (r : Int) : Instr.fill (fun i => some (i * 1, 1)) ((Array.range (1 * 1)).map ((.int .u32 0 : Value).cells[· % (.int .u32 0 : Value).cells.size]!)) [(0, .int .u32 r)] = some #[.int .u32 r] := by kernel_rfl
/-- A slice literal of one digit. -/
theorem F_digit {ops : Array Oper} {S : World → Prop} {Q : Act → World → Prop} {o : Oper} {l : List Oper} {a : Act} {own : List Nat} {F : World → Prop} (x : Operand) (r : Nat) (hr : r < 4294967296)
    (ho : o.op = .buildSlice 24 1 #[(0, x)]) (hk : fkind o = 2) (hw : Region.wanted o (yielded ops a.tmps) = true) (hx : a.eval x = .int .u32 (r : Int))
    (h : ∀ g, WpF Tryd.prog ops S Q l (a.put o.dst (.slice (some ⟨g, 0, none⟩) 1 1)) own (fun w => F w ∧ Row w (some ⟨g, 0, none⟩) 1 [r])) : WpF Tryd.prog ops S Q (o :: l) a own F := by
  obtain ⟨i, hi, hz0, hz1, hz2⟩ := info_parts info32
  refine F_callE (I := Nat) (fun g => .slice (some ⟨g, 0, none⟩) 1 1) (fun g w => Row w (some ⟨g, 0, none⟩) 1 [r]) (fun g w w' h hb => h.ext hb) hk hw (fun w hf => ?_) (fun g _ => h g)
  have e : (execOp a.eval o).run Tryd.prog w = .ok (.value (.slice (some ⟨w.heap.size, 0, none⟩) 1 1)) (w.alloc (.cells #[.int .u32 (r : Int)] 48)) := by
    unfold execOp
    simp only [ho, Sem.run_bind]
    rw [run_buildSlice w 24 48 1 _ i _ (by kernel_rfl) hi hz0 (by rw [hz1]; omega) (by rw [hz1]; omega) (cells := #[.int .u32 (r : Int)]) (by rw [hz1]; simp only [List.map_toArray, List.map_cons, List.map_nil, hx]; exact fillD _)]
    rfl
  unfold Gives
  rw [e]
  exact ⟨w.heap.size, rfl, by (repeat (first | exact Below.refl _ _ | assumption | refine Below.drewN ?_ _ | refine Below.drew ?_ | refine Below.setCell ?_ (by first | exact Nat.le_refl _ | (simp; done) | (simp; omega) | omega) _ | refine Below.alloc ?_ (by first | exact Nat.le_refl _ | (simp; done) | (simp; omega) | omega) _)), row_one _ _ _ _ hr rfl⟩

/-- Quotient (rounded down) and rest. -/
def divP (a b : Nm) : Nm × Nm × Bool := if a.right && b.right && !b.neg && decide (0 < b.d.length) then (ofZ (a.z / (val b.d : Int)), ofZ (a.z % (val b.d : Int)), true) else (zero, zero, false)
/-- Two numbers and a bool are returned. -/
def RetDiv (w : World) (r : Nm × Nm × Bool) (e : Ending) (w' : World) : Prop :=
  ∃ n p l c n2 p2 l2 c2, e = .returned (.tuple #[.agg #[.bool n, .slice p l c], .agg #[.bool n2, .slice p2 l2 c2], .bool r.2.2]) ∧ NR w' n p l c r.1 ∧ NR w' n2 p2 l2 c2 r.2.1 ∧ New w p ∧ New w p2 ∧ Ext w w'
theorem divP_no {a b : Nm} (h : a.right = false ∨ b.right = false ∨ b.neg = true ∨ b.d.length = 0) : divP a b = (zero, zero, false) := by
  unfold divP
  rw [if_neg]
  rcases h with h | h | h | h <;> simp [h]
theorem divP_yes {a b : Nm} (ha : a.right = true) (hb : b.right = true) (hn : b.neg = false) (h0 : 0 < b.d.length) : divP a b = (ofZ (a.z / (val b.d : Int)), ofZ (a.z % (val b.d : Int)), true) := by
  unfold divP
  rw [if_pos]
  simp [ha, hb, hn, h0]
theorem fit_small {z : Int} (h : small z = true) : fit z = (ofZ z, true) := by unfold fit; rw [if_pos h]
theorem small_of_le {a : Nm} (hd : Dig a.d) (h : a.right = true) {z : Int} (hz : z.natAbs ≤ val a.d) : small z = true := by
  have h1 := small_of_right hd h
  unfold small at *
  simp only [decide_eq_true_eq] at *
  have h4 : a.z.natAbs = val a.d := by unfold Nm.z; split <;> omega
  omega
theorem ediv_neg {m n : Nat} (hn : 0 < n) : (m % n = 0 → (-(m : Int)) / (n : Int) = -((m / n : Nat) : Int) ∧ (-(m : Int)) % (n : Int) = ((m % n : Nat) : Int)) ∧
    (m % n ≠ 0 → (-(m : Int)) / (n : Int) = -((m / n + 1 : Nat) : Int) ∧ (-(m : Int)) % (n : Int) = ((n - m % n : Nat) : Int)) := by
  have e := Nat.div_add_mod m n
  have hr := Nat.mod_lt m hn
  constructor
  · intro h
    rw [h] at e ⊢
    refine (Int.ediv_emod_unique (by omega)).2 ⟨?_, by omega, by omega⟩
    rw [Int.mul_neg]
    have : ((n * (m / n) : Nat) : Int) = (m : Int) := by omega
    rw [Int.natCast_mul] at this
    omega
  · intro h
    refine (Int.ediv_emod_unique (by omega)).2 ⟨?_, by omega, by omega⟩
    have : ((n * (m / n + 1) : Nat) : Int) = (m : Int) - ((m % n : Nat) : Int) + (n : Int) := by rw [Nat.mul_add]; omega
    rw [Int.natCast_mul] at this
    rw [Int.mul_neg, this]
    omega
theorem ediv_pos {m n : Nat} : ((m : Nat) : Int) / (n : Int) = ((m / n : Nat) : Int) ∧ ((m : Nat) : Int) % (n : Int) = ((m % n : Nat) : Int) := ⟨rfl, rfl⟩
/-- What the code makes of quotient and rest. -/
theorem made_nat {a : Nm} (hd : Dig a.d) (h : a.right = true) {n : Nat} (hn : n ≤ val a.d) {o : List Nat} (ho : val o = n) (neg : Bool) : madeP neg o = (ofZ (if neg then -(n : Int) else n), true) := by
  rw [madeP_fit, ho, fit_small]
  exact small_of_le hd h (by split <;> omega)
theorem succ_le {m n : Nat} (hn : 0 < n) (h : m % n ≠ 0) : m / n + 1 ≤ m := by
  have e := Nat.div_add_mod m n
  have h2 : m / n ≤ n * (m / n) := Nat.le_mul_of_pos_left _ hn
  omega

set_option maxRecDepth 100000 in
set_option maxHeartbeats 4000000 in
theorem Div_no (a b : Nm) (na nb : Bool) (pa pb : Option Addr) (la ca lb cb : Nat) (w : World) (ha : NR w na pa la ca a) (hb : NR w nb pb lb cb b)
    (hno : a.right = false ∨ b.right = false ∨ b.neg = true ∨ b.d.length = 0) : Calls Tryd.prog 11 #[.agg #[.bool na, .slice pa la ca], .agg #[.bool nb, .slice pb lb cb]] w (RetDiv w (divP a b)) := by
  have RA := Lib.hid (fun w' (hx : Ext w w') => num_Right a na pa la ca w' (ha.ext hx))
  have RB := Lib.hid (fun w' (hx : Ext w w') => num_Right b nb pb lb cb w' (hb.ext hx))
  have NO : ∀ W', Ext w W' → RetDiv w (divP a b) (.returned (.tuple #[.agg #[.bool false, .slice none 0 0], .agg #[.bool false, .slice none 0 0], .bool false])) W' := by
    intro W' hx
    rw [divP_no hno]
    exact ⟨false, none, 0, 0, false, none, 0, 0, rfl, ⟨rfl, rfl, Row.nil _⟩, ⟨rfl, rfl, Row.nil _⟩, New.none _, New.none _, hx⟩
  replace NO := Lib.hid NO
  have hnb := hb.1
  have hlb := hb.2.1
  rw [hnb] at RB ⊢
  rw [hlb] at RB ⊢
  have HNO := Lib.hid hno
  clear hnb hlb hno ha hb
  cases ra : a.right with
  | false =>
    rw [ra] at RA
    go_enter Tryd.func11, Tryd.ntmps11
    go_wp2_with fail
    refine (RA.out _ (by (repeat (first | exact Below.refl _ _ | assumption | refine Below.drewN ?_ _ | refine Below.drew ?_ | refine Below.setCell ?_ (by first | exact Nat.le_refl _ | (simp; done) | (simp; omega) | omega) _ | refine Below.alloc ?_ (by first | exact Nat.le_refl _ | (simp; done) | (simp; omega) | omega) _)))).mono ?_
    rintro e w1 ⟨rfl, hx⟩
    have hx0 : Ext w w1 := Ext.step (by (repeat (first | exact Below.refl _ _ | assumption | refine Below.drewN ?_ _ | refine Below.drew ?_ | refine Below.setCell ?_ (by first | exact Nat.le_refl _ | (simp; done) | (simp; omega) | omega) _ | refine Below.alloc ?_ (by first | exact Nat.le_refl _ | (simp; done) | (simp; omega) | omega) _))) hx
    have hz_w1 : w.heap.size + 4 ≤ w1.heap.size := Nat.le_trans (by first | omega | (simp; done) | (simp; omega)) hx.size
    have hl_w1_0 : w.heap.size < w1.heap.size := Nat.lt_of_lt_of_le (by omega) hz_w1
    have hk_w1_0 : ∀ o, w1.cell? ⟨w.heap.size, o, none⟩ = _ := fun o => hx.cell (p := ⟨w.heap.size, o, none⟩) (show w.heap.size < _ from (by first | omega | (simp; done) | (simp; omega)))
    have hf_w1_0 : ∀ o, w1.frozen? ⟨w.heap.size, o, none⟩ = _ := fun o => hx.frozen (p := ⟨w.heap.size, o, none⟩) (show w.heap.size < _ from (by first | omega | (simp; done) | (simp; omega)))
    have hl_w1_1 : w.heap.size + 1 < w1.heap.size := Nat.lt_of_lt_of_le (by omega) hz_w1
    have hk_w1_1 : ∀ o, w1.cell? ⟨w.heap.size + 1, o, none⟩ = _ := fun o => hx.cell (p := ⟨w.heap.size + 1, o, none⟩) (show w.heap.size + 1 < _ from (by first | omega | (simp; done) | (simp; omega)))
    have hf_w1_1 : ∀ o, w1.frozen? ⟨w.heap.size + 1, o, none⟩ = _ := fun o => hx.frozen (p := ⟨w.heap.size + 1, o, none⟩) (show w.heap.size + 1 < _ from (by first | omega | (simp; done) | (simp; omega)))
    have hl_w1_2 : w.heap.size + 2 < w1.heap.size := Nat.lt_of_lt_of_le (by omega) hz_w1
    have hk_w1_2 : ∀ o, w1.cell? ⟨w.heap.size + 2, o, none⟩ = _ := fun o => hx.cell (p := ⟨w.heap.size + 2, o, none⟩) (show w.heap.size + 2 < _ from (by first | omega | (simp; done) | (simp; omega)))
    have hf_w1_2 : ∀ o, w1.frozen? ⟨w.heap.size + 2, o, none⟩ = _ := fun o => hx.frozen (p := ⟨w.heap.size + 2, o, none⟩) (show w.heap.size + 2 < _ from (by first | omega | (simp; done) | (simp; omega)))
    have hl_w1_3 : w.heap.size + 3 < w1.heap.size := Nat.lt_of_lt_of_le (by omega) hz_w1
    have hk_w1_3 : ∀ o, w1.cell? ⟨w.heap.size + 3, o, none⟩ = _ := fun o => hx.cell (p := ⟨w.heap.size + 3, o, none⟩) (show w.heap.size + 3 < _ from (by first | omega | (simp; done) | (simp; omega)))
    have hf_w1_3 : ∀ o, w1.frozen? ⟨w.heap.size + 3, o, none⟩ = _ := fun o => hx.frozen (p := ⟨w.heap.size + 3, o, none⟩) (show w.heap.size + 3 < _ from (by first | omega | (simp; done) | (simp; omega)))
    go_wp2
    refine bodyPost_ret (v := .tuple #[.agg #[.bool false, .slice none 0 0], .agg #[.bool false, .slice none 0 0], .bool false]) (by simp only [results, Tryd.results11]; go_simp) rfl ?_
    exact NO.out _ (by (repeat (first | exact Below.refl _ _ | assumption | refine Below.drewN ?_ _ | refine Below.drew ?_ | refine Below.setCell ?_ (by first | exact Nat.le_refl _ | (simp; done) | (simp; omega) | omega) _ | refine Below.alloc ?_ (by first | exact Nat.le_refl _ | (simp; done) | (simp; omega) | omega) _)))
  | true =>
    rw [ra] at RA
    cases rb : b.right with
    | false =>
      rw [rb] at RB
      go_enter Tryd.func11, Tryd.ntmps11
      go_wp2_with fail
      refine (RA.out _ (by (repeat (first | exact Below.refl _ _ | assumption | refine Below.drewN ?_ _ | refine Below.drew ?_ | refine Below.setCell ?_ (by first | exact Nat.le_refl _ | (simp; done) | (simp; omega) | omega) _ | refine Below.alloc ?_ (by first | exact Nat.le_refl _ | (simp; done) | (simp; omega) | omega) _)))).mono ?_
      rintro e w1 ⟨rfl, hx⟩
      have hx0 : Ext w w1 := Ext.step (by (repeat (first | exact Below.refl _ _ | assumption | refine Below.drewN ?_ _ | refine Below.drew ?_ | refine Below.setCell ?_ (by first | exact Nat.le_refl _ | (simp; done) | (simp; omega) | omega) _ | refine Below.alloc ?_ (by first | exact Nat.le_refl _ | (simp; done) | (simp; omega) | omega) _))) hx
      have hz_w1 : w.heap.size + 4 ≤ w1.heap.size := Nat.le_trans (by first | omega | (simp; done) | (simp; omega)) hx.size
      have hl_w1_0 : w.heap.size < w1.heap.size := Nat.lt_of_lt_of_le (by omega) hz_w1
      have hk_w1_0 : ∀ o, w1.cell? ⟨w.heap.size, o, none⟩ = _ := fun o => hx.cell (p := ⟨w.heap.size, o, none⟩) (show w.heap.size < _ from (by first | omega | (simp; done) | (simp; omega)))
      have hf_w1_0 : ∀ o, w1.frozen? ⟨w.heap.size, o, none⟩ = _ := fun o => hx.frozen (p := ⟨w.heap.size, o, none⟩) (show w.heap.size < _ from (by first | omega | (simp; done) | (simp; omega)))
      have hl_w1_1 : w.heap.size + 1 < w1.heap.size := Nat.lt_of_lt_of_le (by omega) hz_w1
      have hk_w1_1 : ∀ o, w1.cell? ⟨w.heap.size + 1, o, none⟩ = _ := fun o => hx.cell (p := ⟨w.heap.size + 1, o, none⟩) (show w.heap.size + 1 < _ from (by first | omega | (simp; done) | (simp; omega)))
      have hf_w1_1 : ∀ o, w1.frozen? ⟨w.heap.size + 1, o, none⟩ = _ := fun o => hx.frozen (p := ⟨w.heap.size + 1, o, none⟩) (show w.heap.size + 1 < _ from (by first | omega | (simp; done) | (simp; omega)))
      have hl_w1_2 : w.heap.size + 2 < w1.heap.size := Nat.lt_of_lt_of_le (by omega) hz_w1
      have hk_w1_2 : ∀ o, w1.cell? ⟨w.heap.size + 2, o, none⟩ = _ := fun o => hx.cell (p := ⟨w.heap.size + 2, o, none⟩) (show w.heap.size + 2 < _ from (by first | omega | (simp; done) | (simp; omega)))
      have hf_w1_2 : ∀ o, w1.frozen? ⟨w.heap.size + 2, o, none⟩ = _ := fun o => hx.frozen (p := ⟨w.heap.size + 2, o, none⟩) (show w.heap.size + 2 < _ from (by first | omega | (simp; done) | (simp; omega)))
      have hl_w1_3 : w.heap.size + 3 < w1.heap.size := Nat.lt_of_lt_of_le (by omega) hz_w1
      have hk_w1_3 : ∀ o, w1.cell? ⟨w.heap.size + 3, o, none⟩ = _ := fun o => hx.cell (p := ⟨w.heap.size + 3, o, none⟩) (show w.heap.size + 3 < _ from (by first | omega | (simp; done) | (simp; omega)))
      have hf_w1_3 : ∀ o, w1.frozen? ⟨w.heap.size + 3, o, none⟩ = _ := fun o => hx.frozen (p := ⟨w.heap.size + 3, o, none⟩) (show w.heap.size + 3 < _ from (by first | omega | (simp; done) | (simp; omega)))
      go_wp2_with fail
      refine (RB.out _ (by (repeat (first | exact Below.refl _ _ | assumption | refine Below.drewN ?_ _ | refine Below.drew ?_ | refine Below.setCell ?_ (by first | exact Nat.le_refl _ | (simp; done) | (simp; omega) | omega) _ | refine Below.alloc ?_ (by first | exact Nat.le_refl _ | (simp; done) | (simp; omega) | omega) _)))).mono ?_
      rintro e w2 ⟨rfl, hx2⟩
      have hx1 : Ext w w2 := Ext.step (by (repeat (first | exact Below.refl _ _ | assumption | refine Below.drewN ?_ _ | refine Below.drew ?_ | refine Below.setCell ?_ (by first | exact Nat.le_refl _ | (simp; done) | (simp; omega) | omega) _ | refine Below.alloc ?_ (by first | exact Nat.le_refl _ | (simp; done) | (simp; omega) | omega) _))) hx2
      have hz_w2 : w.heap.size + 4 ≤ w2.heap.size := Nat.le_trans (by first | omega | (simp; done) | (simp; omega)) hx2.size
      have hl_w2_0 : w.heap.size < w2.heap.size := Nat.lt_of_lt_of_le (by omega) hz_w2
      have hk_w2_0 : ∀ o, w2.cell? ⟨w.heap.size, o, none⟩ = _ := fun o => hx2.cell (p := ⟨w.heap.size, o, none⟩) (show w.heap.size < _ from (by first | omega | (simp; done) | (simp; omega)))
      have hf_w2_0 : ∀ o, w2.frozen? ⟨w.heap.size, o, none⟩ = _ := fun o => hx2.frozen (p := ⟨w.heap.size, o, none⟩) (show w.heap.size < _ from (by first | omega | (simp; done) | (simp; omega)))
      have hl_w2_1 : w.heap.size + 1 < w2.heap.size := Nat.lt_of_lt_of_le (by omega) hz_w2
      have hk_w2_1 : ∀ o, w2.cell? ⟨w.heap.size + 1, o, none⟩ = _ := fun o => hx2.cell (p := ⟨w.heap.size + 1, o, none⟩) (show w.heap.size + 1 < _ from (by first | omega | (simp; done) | (simp; omega)))
      have hf_w2_1 : ∀ o, w2.frozen? ⟨w.heap.size + 1, o, none⟩ = _ := fun o => hx2.frozen (p := ⟨w.heap.size + 1, o, none⟩) (show w.heap.size + 1 < _ from (by first | omega | (simp; done) | (simp; omega)))
      have hl_w2_2 : w.heap.size + 2 < w2.heap.size := Nat.lt_of_lt_of_le (by omega) hz_w2
      have hk_w2_2 : ∀ o, w2.cell? ⟨w.heap.size + 2, o, none⟩ = _ := fun o => hx2.cell (p := ⟨w.heap.size + 2, o, none⟩) (show w.heap.size + 2 < _ from (by first | omega | (simp; done) | (simp; omega)))
      have hf_w2_2 : ∀ o, w2.frozen? ⟨w.heap.size + 2, o, none⟩ = _ := fun o => hx2.frozen (p := ⟨w.heap.size + 2, o, none⟩) (show w.heap.size + 2 < _ from (by first | omega | (simp; done) | (simp; omega)))
      have hl_w2_3 : w.heap.size + 3 < w2.heap.size := Nat.lt_of_lt_of_le (by omega) hz_w2
      have hk_w2_3 : ∀ o, w2.cell? ⟨w.heap.size + 3, o, none⟩ = _ := fun o => hx2.cell (p := ⟨w.heap.size + 3, o, none⟩) (show w.heap.size + 3 < _ from (by first | omega | (simp; done) | (simp; omega)))
      have hf_w2_3 : ∀ o, w2.frozen? ⟨w.heap.size + 3, o, none⟩ = _ := fun o => hx2.frozen (p := ⟨w.heap.size + 3, o, none⟩) (show w.heap.size + 3 < _ from (by first | omega | (simp; done) | (simp; omega)))
      go_wp2
      refine bodyPost_ret (v := .tuple #[.agg #[.bool false, .slice none 0 0], .agg #[.bool false, .slice none 0 0], .bool false]) (by simp only [results, Tryd.results11]; go_simp) rfl ?_
      exact NO.out _ (by (repeat (first | exact Below.refl _ _ | assumption | refine Below.drewN ?_ _ | refine Below.drew ?_ | refine Below.setCell ?_ (by first | exact Nat.le_refl _ | (simp; done) | (simp; omega) | omega) _ | refine Below.alloc ?_ (by first | exact Nat.le_refl _ | (simp; done) | (simp; omega) | omega) _)))
    | true =>
      rw [rb] at RB
      obtain ⟨bn, BN⟩ : ∃ x, Hid (b.neg = x) := ⟨_, rfl⟩
      obtain ⟨bl, BL⟩ : ∃ x, Hid (b.d.length = x) := ⟨_, rfl⟩
      have H3 : bn = true ∨ bl = 0 := by
        rcases HNO.out with h | h | h | h
        · rw [ra] at h; cases h
        · rw [rb] at h; cases h
        · exact .inl (BN.out.symm.trans h)
        · exact .inr (BL.out.symm.trans h)
      rw [BN.out, BL.out] at RB ⊢
      clear ra rb
      cases bn
      · obtain rfl : bl = 0 := by rcases H3 with h | h; (cases h); exact h
        clear H3
        go_enter Tryd.func11, Tryd.ntmps11
        go_wp2_with fail
        refine (RA.out _ (by (repeat (first | exact Below.refl _ _ | assumption | refine Below.drewN ?_ _ | refine Below.drew ?_ | refine Below.setCell ?_ (by first | exact Nat.le_refl _ | (simp; done) | (simp; omega) | omega) _ | refine Below.alloc ?_ (by first | exact Nat.le_refl _ | (simp; done) | (simp; omega) | omega) _)))).mono ?_
        rintro e w1 ⟨rfl, hx⟩
        have hx0 : Ext w w1 := Ext.step (by (repeat (first | exact Below.refl _ _ | assumption | refine Below.drewN ?_ _ | refine Below.drew ?_ | refine Below.setCell ?_ (by first | exact Nat.le_refl _ | (simp; done) | (simp; omega) | omega) _ | refine Below.alloc ?_ (by first | exact Nat.le_refl _ | (simp; done) | (simp; omega) | omega) _))) hx
        have hz_w1 : w.heap.size + 4 ≤ w1.heap.size := Nat.le_trans (by first | omega | (simp; done) | (simp; omega)) hx.size
        have hl_w1_0 : w.heap.size < w1.heap.size := Nat.lt_of_lt_of_le (by omega) hz_w1
        have hk_w1_0 : ∀ o, w1.cell? ⟨w.heap.size, o, none⟩ = _ := fun o => hx.cell (p := ⟨w.heap.size, o, none⟩) (show w.heap.size < _ from (by first | omega | (simp; done) | (simp; omega)))
        have hf_w1_0 : ∀ o, w1.frozen? ⟨w.heap.size, o, none⟩ = _ := fun o => hx.frozen (p := ⟨w.heap.size, o, none⟩) (show w.heap.size < _ from (by first | omega | (simp; done) | (simp; omega)))
        have hl_w1_1 : w.heap.size + 1 < w1.heap.size := Nat.lt_of_lt_of_le (by omega) hz_w1
        have hk_w1_1 : ∀ o, w1.cell? ⟨w.heap.size + 1, o, none⟩ = _ := fun o => hx.cell (p := ⟨w.heap.size + 1, o, none⟩) (show w.heap.size + 1 < _ from (by first | omega | (simp; done) | (simp; omega)))
        have hf_w1_1 : ∀ o, w1.frozen? ⟨w.heap.size + 1, o, none⟩ = _ := fun o => hx.frozen (p := ⟨w.heap.size + 1, o, none⟩) (show w.heap.size + 1 < _ from (by first | omega | (simp; done) | (simp; omega)))
        have hl_w1_2 : w.heap.size + 2 < w1.heap.size := Nat.lt_of_lt_of_le (by omega) hz_w1
        have hk_w1_2 : ∀ o, w1.cell? ⟨w.heap.size + 2, o, none⟩ = _ := fun o => hx.cell (p := ⟨w.heap.size + 2, o, none⟩) (show w.heap.size + 2 < _ from (by first | omega | (simp; done) | (simp; omega)))
        have hf_w1_2 : ∀ o, w1.frozen? ⟨w.heap.size + 2, o, none⟩ = _ := fun o => hx.frozen (p := ⟨w.heap.size + 2, o, none⟩) (show w.heap.size + 2 < _ from (by first | omega | (simp; done) | (simp; omega)))
        have hl_w1_3 : w.heap.size + 3 < w1.heap.size := Nat.lt_of_lt_of_le (by omega) hz_w1
        have hk_w1_3 : ∀ o, w1.cell? ⟨w.heap.size + 3, o, none⟩ = _ := fun o => hx.cell (p := ⟨w.heap.size + 3, o, none⟩) (show w.heap.size + 3 < _ from (by first | omega | (simp; done) | (simp; omega)))
        have hf_w1_3 : ∀ o, w1.frozen? ⟨w.heap.size + 3, o, none⟩ = _ := fun o => hx.frozen (p := ⟨w.heap.size + 3, o, none⟩) (show w.heap.size + 3 < _ from (by first | omega | (simp; done) | (simp; omega)))
        go_wp2_with fail
        refine (RB.out _ (by (repeat (first | exact Below.refl _ _ | assumption | refine Below.drewN ?_ _ | refine Below.drew ?_ | refine Below.setCell ?_ (by first | exact Nat.le_refl _ | (simp; done) | (simp; omega) | omega) _ | refine Below.alloc ?_ (by first | exact Nat.le_refl _ | (simp; done) | (simp; omega) | omega) _)))).mono ?_
        rintro e w2 ⟨rfl, hx2⟩
        have hx1 : Ext w w2 := Ext.step (by (repeat (first | exact Below.refl _ _ | assumption | refine Below.drewN ?_ _ | refine Below.drew ?_ | refine Below.setCell ?_ (by first | exact Nat.le_refl _ | (simp; done) | (simp; omega) | omega) _ | refine Below.alloc ?_ (by first | exact Nat.le_refl _ | (simp; done) | (simp; omega) | omega) _))) hx2
        have hz_w2 : w.heap.size + 4 ≤ w2.heap.size := Nat.le_trans (by first | omega | (simp; done) | (simp; omega)) hx2.size
        have hl_w2_0 : w.heap.size < w2.heap.size := Nat.lt_of_lt_of_le (by omega) hz_w2
        have hk_w2_0 : ∀ o, w2.cell? ⟨w.heap.size, o, none⟩ = _ := fun o => hx2.cell (p := ⟨w.heap.size, o, none⟩) (show w.heap.size < _ from (by first | omega | (simp; done) | (simp; omega)))
        have hf_w2_0 : ∀ o, w2.frozen? ⟨w.heap.size, o, none⟩ = _ := fun o => hx2.frozen (p := ⟨w.heap.size, o, none⟩) (show w.heap.size < _ from (by first | omega | (simp; done) | (simp; omega)))
        have hl_w2_1 : w.heap.size + 1 < w2.heap.size := Nat.lt_of_lt_of_le (by omega) hz_w2
        have hk_w2_1 : ∀ o, w2.cell? ⟨w.heap.size + 1, o, none⟩ = _ := fun o => hx2.cell (p := ⟨w.heap.size + 1, o, none⟩) (show w.heap.size + 1 < _ from (by first | omega | (simp; done) | (simp; omega)))
        have hf_w2_1 : ∀ o, w2.frozen? ⟨w.heap.size + 1, o, none⟩ = _ := fun o => hx2.frozen (p := ⟨w.heap.size + 1, o, none⟩) (show w.heap.size + 1 < _ from (by first | omega | (simp; done) | (simp; omega)))
        have hl_w2_2 : w.heap.size + 2 < w2.heap.size := Nat.lt_of_lt_of_le (by omega) hz_w2
        have hk_w2_2 : ∀ o, w2.cell? ⟨w.heap.size + 2, o, none⟩ = _ := fun o => hx2.cell (p := ⟨w.heap.size + 2, o, none⟩) (show w.heap.size + 2 < _ from (by first | omega | (simp; done) | (simp; omega)))
        have hf_w2_2 : ∀ o, w2.frozen? ⟨w.heap.size + 2, o, none⟩ = _ := fun o => hx2.frozen (p := ⟨w.heap.size + 2, o, none⟩) (show w.heap.size + 2 < _ from (by first | omega | (simp; done) | (simp; omega)))
        have hl_w2_3 : w.heap.size + 3 < w2.heap.size := Nat.lt_of_lt_of_le (by omega) hz_w2
        have hk_w2_3 : ∀ o, w2.cell? ⟨w.heap.size + 3, o, none⟩ = _ := fun o => hx2.cell (p := ⟨w.heap.size + 3, o, none⟩) (show w.heap.size + 3 < _ from (by first | omega | (simp; done) | (simp; omega)))
        have hf_w2_3 : ∀ o, w2.frozen? ⟨w.heap.size + 3, o, none⟩ = _ := fun o => hx2.frozen (p := ⟨w.heap.size + 3, o, none⟩) (show w.heap.size + 3 < _ from (by first | omega | (simp; done) | (simp; omega)))
        go_wp2
        refine bodyPost_ret (v := .tuple #[.agg #[.bool false, .slice none 0 0], .agg #[.bool false, .slice none 0 0], .bool false]) (by simp only [results, Tryd.results11]; go_simp) rfl ?_
        exact NO.out _ (by (repeat (first | exact Below.refl _ _ | assumption | refine Below.drewN ?_ _ | refine Below.drew ?_ | refine Below.setCell ?_ (by first | exact Nat.le_refl _ | (simp; done) | (simp; omega) | omega) _ | refine Below.alloc ?_ (by first | exact Nat.le_refl _ | (simp; done) | (simp; omega) | omega) _)))
      · clear H3
        go_enter Tryd.func11, Tryd.ntmps11
        go_wp2_with fail
        refine (RA.out _ (by (repeat (first | exact Below.refl _ _ | assumption | refine Below.drewN ?_ _ | refine Below.drew ?_ | refine Below.setCell ?_ (by first | exact Nat.le_refl _ | (simp; done) | (simp; omega) | omega) _ | refine Below.alloc ?_ (by first | exact Nat.le_refl _ | (simp; done) | (simp; omega) | omega) _)))).mono ?_
        rintro e w1 ⟨rfl, hx⟩
        have hx0 : Ext w w1 := Ext.step (by (repeat (first | exact Below.refl _ _ | assumption | refine Below.drewN ?_ _ | refine Below.drew ?_ | refine Below.setCell ?_ (by first | exact Nat.le_refl _ | (simp; done) | (simp; omega) | omega) _ | refine Below.alloc ?_ (by first | exact Nat.le_refl _ | (simp; done) | (simp; omega) | omega) _))) hx
        have hz_w1 : w.heap.size + 4 ≤ w1.heap.size := Nat.le_trans (by first | omega | (simp; done) | (simp; omega)) hx.size
        have hl_w1_0 : w.heap.size < w1.heap.size := Nat.lt_of_lt_of_le (by omega) hz_w1
        have hk_w1_0 : ∀ o, w1.cell? ⟨w.heap.size, o, none⟩ = _ := fun o => hx.cell (p := ⟨w.heap.size, o, none⟩) (show w.heap.size < _ from (by first | omega | (simp; done) | (simp; omega)))
        have hf_w1_0 : ∀ o, w1.frozen? ⟨w.heap.size, o, none⟩ = _ := fun o => hx.frozen (p := ⟨w.heap.size, o, none⟩) (show w.heap.size < _ from (by first | omega | (simp; done) | (simp; omega)))
        have hl_w1_1 : w.heap.size + 1 < w1.heap.size := Nat.lt_of_lt_of_le (by omega) hz_w1
        have hk_w1_1 : ∀ o, w1.cell? ⟨w.heap.size + 1, o, none⟩ = _ := fun o => hx.cell (p := ⟨w.heap.size + 1, o, none⟩) (show w.heap.size + 1 < _ from (by first | omega | (simp; done) | (simp; omega)))
        have hf_w1_1 : ∀ o, w1.frozen? ⟨w.heap.size + 1, o, none⟩ = _ := fun o => hx.frozen (p := ⟨w.heap.size + 1, o, none⟩) (show w.heap.size + 1 < _ from (by first | omega | (simp; done) | (simp; omega)))
        have hl_w1_2 : w.heap.size + 2 < w1.heap.size := Nat.lt_of_lt_of_le (by omega) hz_w1
        have hk_w1_2 : ∀ o, w1.cell? ⟨w.heap.size + 2, o, none⟩ = _ := fun o => hx.cell (p := ⟨w.heap.size + 2, o, none⟩) (show w.heap.size + 2 < _ from (by first | omega | (simp; done) | (simp; omega)))
        have hf_w1_2 : ∀ o, w1.frozen? ⟨w.heap.size + 2, o, none⟩ = _ := fun o => hx.frozen (p := ⟨w.heap.size + 2, o, none⟩) (show w.heap.size + 2 < _ from (by first | omega | (simp; done) | (simp; omega)))
        have hl_w1_3 : w.heap.size + 3 < w1.heap.size := Nat.lt_of_lt_of_le (by omega) hz_w1
        have hk_w1_3 : ∀ o, w1.cell? ⟨w.heap.size + 3, o, none⟩ = _ := fun o => hx.cell (p := ⟨w.heap.size + 3, o, none⟩) (show w.heap.size + 3 < _ from (by first | omega | (simp; done) | (simp; omega)))
        have hf_w1_3 : ∀ o, w1.frozen? ⟨w.heap.size + 3, o, none⟩ = _ := fun o => hx.frozen (p := ⟨w.heap.size + 3, o, none⟩) (show w.heap.size + 3 < _ from (by first | omega | (simp; done) | (simp; omega)))
        go_wp2_with fail
        refine (RB.out _ (by (repeat (first | exact Below.refl _ _ | assumption | refine Below.drewN ?_ _ | refine Below.drew ?_ | refine Below.setCell ?_ (by first | exact Nat.le_refl _ | (simp; done) | (simp; omega) | omega) _ | refine Below.alloc ?_ (by first | exact Nat.le_refl _ | (simp; done) | (simp; omega) | omega) _)))).mono ?_
        rintro e w2 ⟨rfl, hx2⟩
        have hx1 : Ext w w2 := Ext.step (by (repeat (first | exact Below.refl _ _ | assumption | refine Below.drewN ?_ _ | refine Below.drew ?_ | refine Below.setCell ?_ (by first | exact Nat.le_refl _ | (simp; done) | (simp; omega) | omega) _ | refine Below.alloc ?_ (by first | exact Nat.le_refl _ | (simp; done) | (simp; omega) | omega) _))) hx2
        have hz_w2 : w.heap.size + 4 ≤ w2.heap.size := Nat.le_trans (by first | omega | (simp; done) | (simp; omega)) hx2.size
        have hl_w2_0 : w.heap.size < w2.heap.size := Nat.lt_of_lt_of_le (by omega) hz_w2
        have hk_w2_0 : ∀ o, w2.cell? ⟨w.heap.size, o, none⟩ = _ := fun o => hx2.cell (p := ⟨w.heap.size, o, none⟩) (show w.heap.size < _ from (by first | omega | (simp; done) | (simp; omega)))
        have hf_w2_0 : ∀ o, w2.frozen? ⟨w.heap.size, o, none⟩ = _ := fun o => hx2.frozen (p := ⟨w.heap.size, o, none⟩) (show w.heap.size < _ from (by first | omega | (simp; done) | (simp; omega)))
        have hl_w2_1 : w.heap.size + 1 < w2.heap.size := Nat.lt_of_lt_of_le (by omega) hz_w2
        have hk_w2_1 : ∀ o, w2.cell? ⟨w.heap.size + 1, o, none⟩ = _ := fun o => hx2.cell (p := ⟨w.heap.size + 1, o, none⟩) (show w.heap.size + 1 < _ from (by first | omega | (simp; done) | (simp; omega)))
        have hf_w2_1 : ∀ o, w2.frozen? ⟨w.heap.size + 1, o, none⟩ = _ := fun o => hx2.frozen (p := ⟨w.heap.size + 1, o, none⟩) (show w.heap.size + 1 < _ from (by first | omega | (simp; done) | (simp; omega)))
        have hl_w2_2 : w.heap.size + 2 < w2.heap.size := Nat.lt_of_lt_of_le (by omega) hz_w2
        have hk_w2_2 : ∀ o, w2.cell? ⟨w.heap.size + 2, o, none⟩ = _ := fun o => hx2.cell (p := ⟨w.heap.size + 2, o, none⟩) (show w.heap.size + 2 < _ from (by first | omega | (simp; done) | (simp; omega)))
        have hf_w2_2 : ∀ o, w2.frozen? ⟨w.heap.size + 2, o, none⟩ = _ := fun o => hx2.frozen (p := ⟨w.heap.size + 2, o, none⟩) (show w.heap.size + 2 < _ from (by first | omega | (simp; done) | (simp; omega)))
        have hl_w2_3 : w.heap.size + 3 < w2.heap.size := Nat.lt_of_lt_of_le (by omega) hz_w2
        have hk_w2_3 : ∀ o, w2.cell? ⟨w.heap.size + 3, o, none⟩ = _ := fun o => hx2.cell (p := ⟨w.heap.size + 3, o, none⟩) (show w.heap.size + 3 < _ from (by first | omega | (simp; done) | (simp; omega)))
        have hf_w2_3 : ∀ o, w2.frozen? ⟨w.heap.size + 3, o, none⟩ = _ := fun o => hx2.frozen (p := ⟨w.heap.size + 3, o, none⟩) (show w.heap.size + 3 < _ from (by first | omega | (simp; done) | (simp; omega)))
        go_wp2
        refine bodyPost_ret (v := .tuple #[.agg #[.bool false, .slice none 0 0], .agg #[.bool false, .slice none 0 0], .bool false]) (by simp only [results, Tryd.results11]; go_simp) rfl ?_
        exact NO.out _ (by (repeat (first | exact Below.refl _ _ | assumption | refine Below.drewN ?_ _ | refine Below.drew ?_ | refine Below.setCell ?_ (by first | exact Nat.le_refl _ | (simp; done) | (simp; omega) | omega) _ | refine Below.alloc ?_ (by first | exact Nat.le_refl _ | (simp; done) | (simp; omega) | omega) _)))

/-- The new number at p. -/
theorem NR.drew {w : World} {n : Bool} {p : Option Addr} {l c : Nat} {x : Nm} (h : NR w n p l c x) : NR w.drew n p l c x := h.ext (Below.drew (Below.refl _ _))
theorem wp_some {P : Program} {c : Code} {Q : Exit → Act → World → Prop} {a : Act} {w' : World} (R : World → Prop) (h : R w') (k : ∀ W, R W → Code.wp P c Q a W) : Code.wp P c Q a w' := k _ h
set_option maxRecDepth 100000 in
set_option maxHeartbeats 4000000 in
theorem Div_simple (a b : Nm) (na : Bool) (pa pb : Option Addr) (la ca lb cb : Nat) (w : World) (ha : NR w na pa la ca a) (hb : NR w false pb lb cb b) (ra : a.right = true) (rb : b.right = true) (hlb : 0 < lb) (dq dr : List Nat) (X Y : Nm)
    (DV : ∀ W, Ext w W → Calls Tryd.prog 27 #[.slice pa la ca, .slice pb lb cb] W (RetQR W dq dr)) (hs : na = true → dr = []) (hX : madeP na dq = (X, true)) (hY : madeP false dr = (Y, true)) :
    Calls Tryd.prog 11 #[.agg #[.bool na, .slice pa la ca], .agg #[.bool false, .slice pb lb cb]] w (RetDiv w (X, Y, true)) := by
  have RA := Lib.hid (fun w' (hx : Ext w w') => num_Right a na pa la ca w' (ha.ext hx))
  have RB := Lib.hid (fun w' (hx : Ext w w') => num_Right b false pb lb cb w' (hb.ext hx))
  rw [ra] at RA
  rw [rb] at RB
  have e0 : ((lb : Int) == 0) = false := by rw [beq_eq_false_iff_ne]; omega
  replace DV := Lib.hid DV
  clear hlb ra rb
  have MK1 := Lib.hid (fun p c W (h : Row W p c dq) => by have := num_made na dq p dq.length c W h rfl; rw [hX] at this; exact this)
  have MK2 := Lib.hid (fun p c W (h : Row W p c dr) => by have := num_made false dr p dr.length c W h rfl; rw [hY] at this; exact this)
  have HS := Lib.hid hs
  clear hs hX hY
  go_enter Tryd.func11, Tryd.ntmps11
  go_wp2_with fail
  refine (RA.out _ (by (repeat (first | exact Below.refl _ _ | assumption | refine Below.drewN ?_ _ | refine Below.drew ?_ | refine Below.setCell ?_ (by first | exact Nat.le_refl _ | (simp; done) | (simp; omega) | omega) _ | refine Below.alloc ?_ (by first | exact Nat.le_refl _ | (simp; done) | (simp; omega) | omega) _)))).mono ?_
  rintro e w1 ⟨rfl, hx⟩
  have hx0 : Ext w w1 := Ext.step (by (repeat (first | exact Below.refl _ _ | assumption | refine Below.drewN ?_ _ | refine Below.drew ?_ | refine Below.setCell ?_ (by first | exact Nat.le_refl _ | (simp; done) | (simp; omega) | omega) _ | refine Below.alloc ?_ (by first | exact Nat.le_refl _ | (simp; done) | (simp; omega) | omega) _))) hx
  have hz_w1 : w.heap.size + 4 ≤ w1.heap.size := Nat.le_trans (by first | omega | (simp; done) | (simp; omega)) hx.size
  have hl_w1_0 : w.heap.size < w1.heap.size := Nat.lt_of_lt_of_le (by omega) hz_w1
  have hk_w1_0 : ∀ o, w1.cell? ⟨w.heap.size, o, none⟩ = _ := fun o => hx.cell (p := ⟨w.heap.size, o, none⟩) (show w.heap.size < _ from (by first | omega | (simp; done) | (simp; omega)))
  have hf_w1_0 : ∀ o, w1.frozen? ⟨w.heap.size, o, none⟩ = _ := fun o => hx.frozen (p := ⟨w.heap.size, o, none⟩) (show w.heap.size < _ from (by first | omega | (simp; done) | (simp; omega)))
  have hl_w1_1 : w.heap.size + 1 < w1.heap.size := Nat.lt_of_lt_of_le (by omega) hz_w1
  have hk_w1_1 : ∀ o, w1.cell? ⟨w.heap.size + 1, o, none⟩ = _ := fun o => hx.cell (p := ⟨w.heap.size + 1, o, none⟩) (show w.heap.size + 1 < _ from (by first | omega | (simp; done) | (simp; omega)))
  have hf_w1_1 : ∀ o, w1.frozen? ⟨w.heap.size + 1, o, none⟩ = _ := fun o => hx.frozen (p := ⟨w.heap.size + 1, o, none⟩) (show w.heap.size + 1 < _ from (by first | omega | (simp; done) | (simp; omega)))
  have hl_w1_2 : w.heap.size + 2 < w1.heap.size := Nat.lt_of_lt_of_le (by omega) hz_w1
  have hk_w1_2 : ∀ o, w1.cell? ⟨w.heap.size + 2, o, none⟩ = _ := fun o => hx.cell (p := ⟨w.heap.size + 2, o, none⟩) (show w.heap.size + 2 < _ from (by first | omega | (simp; done) | (simp; omega)))
  have hf_w1_2 : ∀ o, w1.frozen? ⟨w.heap.size + 2, o, none⟩ = _ := fun o => hx.frozen (p := ⟨w.heap.size + 2, o, none⟩) (show w.heap.size + 2 < _ from (by first | omega | (simp; done) | (simp; omega)))
  have hl_w1_3 : w.heap.size + 3 < w1.heap.size := Nat.lt_of_lt_of_le (by omega) hz_w1
  have hk_w1_3 : ∀ o, w1.cell? ⟨w.heap.size + 3, o, none⟩ = _ := fun o => hx.cell (p := ⟨w.heap.size + 3, o, none⟩) (show w.heap.size + 3 < _ from (by first | omega | (simp; done) | (simp; omega)))
  have hf_w1_3 : ∀ o, w1.frozen? ⟨w.heap.size + 3, o, none⟩ = _ := fun o => hx.frozen (p := ⟨w.heap.size + 3, o, none⟩) (show w.heap.size + 3 < _ from (by first | omega | (simp; done) | (simp; omega)))
  go_wp2_with fail
  refine (RB.out _ (by (repeat (first | exact Below.refl _ _ | assumption | refine Below.drewN ?_ _ | refine Below.drew ?_ | refine Below.setCell ?_ (by first | exact Nat.le_refl _ | (simp; done) | (simp; omega) | omega) _ | refine Below.alloc ?_ (by first | exact Nat.le_refl _ | (simp; done) | (simp; omega) | omega) _)))).mono ?_
  rintro e w2 ⟨rfl, hx2⟩
  have hx1 : Ext w w2 := Ext.step (by (repeat (first | exact Below.refl _ _ | assumption | refine Below.drewN ?_ _ | refine Below.drew ?_ | refine Below.setCell ?_ (by first | exact Nat.le_refl _ | (simp; done) | (simp; omega) | omega) _ | refine Below.alloc ?_ (by first | exact Nat.le_refl _ | (simp; done) | (simp; omega) | omega) _))) hx2
  have hz_w2 : w.heap.size + 4 ≤ w2.heap.size := Nat.le_trans (by first | omega | (simp; done) | (simp; omega)) hx2.size
  have hl_w2_0 : w.heap.size < w2.heap.size := Nat.lt_of_lt_of_le (by omega) hz_w2
  have hk_w2_0 : ∀ o, w2.cell? ⟨w.heap.size, o, none⟩ = _ := fun o => hx2.cell (p := ⟨w.heap.size, o, none⟩) (show w.heap.size < _ from (by first | omega | (simp; done) | (simp; omega)))
  have hf_w2_0 : ∀ o, w2.frozen? ⟨w.heap.size, o, none⟩ = _ := fun o => hx2.frozen (p := ⟨w.heap.size, o, none⟩) (show w.heap.size < _ from (by first | omega | (simp; done) | (simp; omega)))
  have hl_w2_1 : w.heap.size + 1 < w2.heap.size := Nat.lt_of_lt_of_le (by omega) hz_w2
  have hk_w2_1 : ∀ o, w2.cell? ⟨w.heap.size + 1, o, none⟩ = _ := fun o => hx2.cell (p := ⟨w.heap.size + 1, o, none⟩) (show w.heap.size + 1 < _ from (by first | omega | (simp; done) | (simp; omega)))
  have hf_w2_1 : ∀ o, w2.frozen? ⟨w.heap.size + 1, o, none⟩ = _ := fun o => hx2.frozen (p := ⟨w.heap.size + 1, o, none⟩) (show w.heap.size + 1 < _ from (by first | omega | (simp; done) | (simp; omega)))
  have hl_w2_2 : w.heap.size + 2 < w2.heap.size := Nat.lt_of_lt_of_le (by omega) hz_w2
  have hk_w2_2 : ∀ o, w2.cell? ⟨w.heap.size + 2, o, none⟩ = _ := fun o => hx2.cell (p := ⟨w.heap.size + 2, o, none⟩) (show w.heap.size + 2 < _ from (by first | omega | (simp; done) | (simp; omega)))
  have hf_w2_2 : ∀ o, w2.frozen? ⟨w.heap.size + 2, o, none⟩ = _ := fun o => hx2.frozen (p := ⟨w.heap.size + 2, o, none⟩) (show w.heap.size + 2 < _ from (by first | omega | (simp; done) | (simp; omega)))
  have hl_w2_3 : w.heap.size + 3 < w2.heap.size := Nat.lt_of_lt_of_le (by omega) hz_w2
  have hk_w2_3 : ∀ o, w2.cell? ⟨w.heap.size + 3, o, none⟩ = _ := fun o => hx2.cell (p := ⟨w.heap.size + 3, o, none⟩) (show w.heap.size + 3 < _ from (by first | omega | (simp; done) | (simp; omega)))
  have hf_w2_3 : ∀ o, w2.frozen? ⟨w.heap.size + 3, o, none⟩ = _ := fun o => hx2.frozen (p := ⟨w.heap.size + 3, o, none⟩) (show w.heap.size + 3 < _ from (by first | omega | (simp; done) | (simp; omega)))
  go_wp2_with fail
  refine (DV.out _ (by (repeat (first | exact Below.refl _ _ | assumption | refine Below.drewN ?_ _ | refine Below.drew ?_ | refine Below.setCell ?_ (by first | exact Nat.le_refl _ | (simp; done) | (simp; omega) | omega) _ | refine Below.alloc ?_ (by first | exact Nat.le_refl _ | (simp; done) | (simp; omega) | omega) _)))).mono ?_
  rintro e w3 ⟨p, c, p2, c2, rfl, hq, hr, hx3⟩
  have hx4 : Ext w w3 := Ext.step (by (repeat (first | exact Below.refl _ _ | assumption | refine Below.drewN ?_ _ | refine Below.drew ?_ | refine Below.setCell ?_ (by first | exact Nat.le_refl _ | (simp; done) | (simp; omega) | omega) _ | refine Below.alloc ?_ (by first | exact Nat.le_refl _ | (simp; done) | (simp; omega) | omega) _))) hx3
  have hz_w3 : w.heap.size + 4 ≤ w3.heap.size := Nat.le_trans (by first | omega | (simp; done) | (simp; omega)) hx3.size
  have hl_w3_0 : w.heap.size < w3.heap.size := Nat.lt_of_lt_of_le (by omega) hz_w3
  have hk_w3_0 : ∀ o, w3.cell? ⟨w.heap.size, o, none⟩ = _ := fun o => hx3.cell (p := ⟨w.heap.size, o, none⟩) (show w.heap.size < _ from (by first | omega | (simp; done) | (simp; omega)))
  have hf_w3_0 : ∀ o, w3.frozen? ⟨w.heap.size, o, none⟩ = _ := fun o => hx3.frozen (p := ⟨w.heap.size, o, none⟩) (show w.heap.size < _ from (by first | omega | (simp; done) | (simp; omega)))
  have hl_w3_1 : w.heap.size + 1 < w3.heap.size := Nat.lt_of_lt_of_le (by omega) hz_w3
  have hk_w3_1 : ∀ o, w3.cell? ⟨w.heap.size + 1, o, none⟩ = _ := fun o => hx3.cell (p := ⟨w.heap.size + 1, o, none⟩) (show w.heap.size + 1 < _ from (by first | omega | (simp; done) | (simp; omega)))
  have hf_w3_1 : ∀ o, w3.frozen? ⟨w.heap.size + 1, o, none⟩ = _ := fun o => hx3.frozen (p := ⟨w.heap.size + 1, o, none⟩) (show w.heap.size + 1 < _ from (by first | omega | (simp; done) | (simp; omega)))
  have hl_w3_2 : w.heap.size + 2 < w3.heap.size := Nat.lt_of_lt_of_le (by omega) hz_w3
  have hk_w3_2 : ∀ o, w3.cell? ⟨w.heap.size + 2, o, none⟩ = _ := fun o => hx3.cell (p := ⟨w.heap.size + 2, o, none⟩) (show w.heap.size + 2 < _ from (by first | omega | (simp; done) | (simp; omega)))
  have hf_w3_2 : ∀ o, w3.frozen? ⟨w.heap.size + 2, o, none⟩ = _ := fun o => hx3.frozen (p := ⟨w.heap.size + 2, o, none⟩) (show w.heap.size + 2 < _ from (by first | omega | (simp; done) | (simp; omega)))
  have hl_w3_3 : w.heap.size + 3 < w3.heap.size := Nat.lt_of_lt_of_le (by omega) hz_w3
  have hk_w3_3 : ∀ o, w3.cell? ⟨w.heap.size + 3, o, none⟩ = _ := fun o => hx3.cell (p := ⟨w.heap.size + 3, o, none⟩) (show w.heap.size + 3 < _ from (by first | omega | (simp; done) | (simp; omega)))
  have hf_w3_3 : ∀ o, w3.frozen? ⟨w.heap.size + 3, o, none⟩ = _ := fun o => hx3.frozen (p := ⟨w.heap.size + 3, o, none⟩) (show w.heap.size + 3 < _ from (by first | omega | (simp; done) | (simp; omega)))
  cases na
  · skip
    go_wp2_with fail
    refine (MK1.out _ _ _ (hq.ext (by (repeat (first | exact Below.refl _ _ | assumption | refine Below.drewN ?_ _ | refine Below.drew ?_ | refine Below.setCell ?_ (by first | exact Nat.le_refl _ | (simp; done) | (simp; omega) | omega) _ | refine Below.alloc ?_ (by first | exact Nat.le_refl _ | (simp; done) | (simp; omega) | omega) _))))).mono ?_
    rintro e w5 ⟨n5, p5, l5, c5, rfl, hn5, hnew5, hx5⟩
    have hx6 : Ext w w5 := Ext.step (by (repeat (first | exact Below.refl _ _ | assumption | refine Below.drewN ?_ _ | refine Below.drew ?_ | refine Below.setCell ?_ (by first | exact Nat.le_refl _ | (simp; done) | (simp; omega) | omega) _ | refine Below.alloc ?_ (by first | exact Nat.le_refl _ | (simp; done) | (simp; omega) | omega) _))) hx5
    have hz_w5 : w.heap.size + 4 ≤ w5.heap.size := Nat.le_trans (by first | omega | (simp; done) | (simp; omega)) hx5.size
    have hl_w5_0 : w.heap.size < w5.heap.size := Nat.lt_of_lt_of_le (by omega) hz_w5
    have hk_w5_0 : ∀ o, w5.cell? ⟨w.heap.size, o, none⟩ = _ := fun o => hx5.cell (p := ⟨w.heap.size, o, none⟩) (show w.heap.size < _ from (by first | omega | (simp; done) | (simp; omega)))
    have hf_w5_0 : ∀ o, w5.frozen? ⟨w.heap.size, o, none⟩ = _ := fun o => hx5.frozen (p := ⟨w.heap.size, o, none⟩) (show w.heap.size < _ from (by first | omega | (simp; done) | (simp; omega)))
    have hl_w5_1 : w.heap.size + 1 < w5.heap.size := Nat.lt_of_lt_of_le (by omega) hz_w5
    have hk_w5_1 : ∀ o, w5.cell? ⟨w.heap.size + 1, o, none⟩ = _ := fun o => hx5.cell (p := ⟨w.heap.size + 1, o, none⟩) (show w.heap.size + 1 < _ from (by first | omega | (simp; done) | (simp; omega)))
    have hf_w5_1 : ∀ o, w5.frozen? ⟨w.heap.size + 1, o, none⟩ = _ := fun o => hx5.frozen (p := ⟨w.heap.size + 1, o, none⟩) (show w.heap.size + 1 < _ from (by first | omega | (simp; done) | (simp; omega)))
    have hl_w5_2 : w.heap.size + 2 < w5.heap.size := Nat.lt_of_lt_of_le (by omega) hz_w5
    have hk_w5_2 : ∀ o, w5.cell? ⟨w.heap.size + 2, o, none⟩ = _ := fun o => hx5.cell (p := ⟨w.heap.size + 2, o, none⟩) (show w.heap.size + 2 < _ from (by first | omega | (simp; done) | (simp; omega)))
    have hf_w5_2 : ∀ o, w5.frozen? ⟨w.heap.size + 2, o, none⟩ = _ := fun o => hx5.frozen (p := ⟨w.heap.size + 2, o, none⟩) (show w.heap.size + 2 < _ from (by first | omega | (simp; done) | (simp; omega)))
    have hl_w5_3 : w.heap.size + 3 < w5.heap.size := Nat.lt_of_lt_of_le (by omega) hz_w5
    have hk_w5_3 : ∀ o, w5.cell? ⟨w.heap.size + 3, o, none⟩ = _ := fun o => hx5.cell (p := ⟨w.heap.size + 3, o, none⟩) (show w.heap.size + 3 < _ from (by first | omega | (simp; done) | (simp; omega)))
    have hf_w5_3 : ∀ o, w5.frozen? ⟨w.heap.size + 3, o, none⟩ = _ := fun o => hx5.frozen (p := ⟨w.heap.size + 3, o, none⟩) (show w.heap.size + 3 < _ from (by first | omega | (simp; done) | (simp; omega)))
    go_wp2_with fail
    refine (MK2.out _ _ _ (hr.ext (hx5.alloc hx5.size _))).mono ?_
    rintro e w6 ⟨n6, p6, l6, c6, rfl, hn6, hnew6, hx7⟩
    have hx8 : Ext w w6 := Ext.step (by (repeat (first | exact Below.refl _ _ | assumption | refine Below.drewN ?_ _ | refine Below.drew ?_ | refine Below.setCell ?_ (by first | exact Nat.le_refl _ | (simp; done) | (simp; omega) | omega) _ | refine Below.alloc ?_ (by first | exact Nat.le_refl _ | (simp; done) | (simp; omega) | omega) _))) hx7

    have k5a : w6.cell? ⟨w5.heap.size, 0, none⟩ = some (.bool n5) := (hx7.cell (p := ⟨w5.heap.size, 0, none⟩) (by simp)).trans (by go_simp)
    have k5b : w6.cell? ⟨w5.heap.size, 1, none⟩ = some (.slice p5 l5 c5) := (hx7.cell (p := ⟨w5.heap.size, 1, none⟩) (by simp)).trans (by go_simp)
    have k5l : w5.heap.size < w6.heap.size := Nat.lt_of_lt_of_le (by simp) hx7.size
    have hz_w6 : w.heap.size + 4 ≤ w6.heap.size := Nat.le_trans (by first | omega | (simp; done) | (simp; omega)) hx7.size
    have hl_w6_0 : w.heap.size < w6.heap.size := Nat.lt_of_lt_of_le (by omega) hz_w6
    have hk_w6_0 : ∀ o, w6.cell? ⟨w.heap.size, o, none⟩ = _ := fun o => hx7.cell (p := ⟨w.heap.size, o, none⟩) (show w.heap.size < _ from (by first | omega | (simp; done) | (simp; omega)))
    have hf_w6_0 : ∀ o, w6.frozen? ⟨w.heap.size, o, none⟩ = _ := fun o => hx7.frozen (p := ⟨w.heap.size, o, none⟩) (show w.heap.size < _ from (by first | omega | (simp; done) | (simp; omega)))
    have hl_w6_1 : w.heap.size + 1 < w6.heap.size := Nat.lt_of_lt_of_le (by omega) hz_w6
    have hk_w6_1 : ∀ o, w6.cell? ⟨w.heap.size + 1, o, none⟩ = _ := fun o => hx7.cell (p := ⟨w.heap.size + 1, o, none⟩) (show w.heap.size + 1 < _ from (by first | omega | (simp; done) | (simp; omega)))
    have hf_w6_1 : ∀ o, w6.frozen? ⟨w.heap.size + 1, o, none⟩ = _ := fun o => hx7.frozen (p := ⟨w.heap.size + 1, o, none⟩) (show w.heap.size + 1 < _ from (by first | omega | (simp; done) | (simp; omega)))
    have hl_w6_2 : w.heap.size + 2 < w6.heap.size := Nat.lt_of_lt_of_le (by omega) hz_w6
    have hk_w6_2 : ∀ o, w6.cell? ⟨w.heap.size + 2, o, none⟩ = _ := fun o => hx7.cell (p := ⟨w.heap.size + 2, o, none⟩) (show w.heap.size + 2 < _ from (by first | omega | (simp; done) | (simp; omega)))
    have hf_w6_2 : ∀ o, w6.frozen? ⟨w.heap.size + 2, o, none⟩ = _ := fun o => hx7.frozen (p := ⟨w.heap.size + 2, o, none⟩) (show w.heap.size + 2 < _ from (by first | omega | (simp; done) | (simp; omega)))
    have hl_w6_3 : w.heap.size + 3 < w6.heap.size := Nat.lt_of_lt_of_le (by omega) hz_w6
    have hk_w6_3 : ∀ o, w6.cell? ⟨w.heap.size + 3, o, none⟩ = _ := fun o => hx7.cell (p := ⟨w.heap.size + 3, o, none⟩) (show w.heap.size + 3 < _ from (by first | omega | (simp; done) | (simp; omega)))
    have hf_w6_3 : ∀ o, w6.frozen? ⟨w.heap.size + 3, o, none⟩ = _ := fun o => hx7.frozen (p := ⟨w.heap.size + 3, o, none⟩) (show w.heap.size + 3 < _ from (by first | omega | (simp; done) | (simp; omega)))
    have hn5' : NR w6 n5 p5 l5 c5 X := hn5.ext (Below.trans ((Below.refl _ _).alloc (Nat.le_refl _) _) (hx7.mono (by simp)))
    have hnw5 : New w3 p5 := hnew5.mono (Nat.le_refl w3.heap.size)
    have hnw6 : New w3 p6 := hnew6.mono (by have := hx5.size; have := (Nat.le_refl w3.heap.size); simp; omega)
    have z3 : w.heap.size + 4 ≤ w3.heap.size := hz_w3
    go_upto_region 10 with (fail)
    refine wp_some (fun W => Ext w W ∧ (W.cell? ⟨w.heap.size + 1 + 1, 0, none⟩ = some (.bool false) ∧ W.cell? ⟨w.heap.size + 1 + 1, 1, none⟩ = some (.slice none 0 0) ∧ W.cell? ⟨w.heap.size + 1 + 1 + 1, 0, none⟩ = some (.bool false) ∧ W.cell? ⟨w.heap.size + 1 + 1 + 1, 1, none⟩ = some (.slice none 0 0) ∧ W.cell? ⟨w5.heap.size, 0, none⟩ = some (.bool n5) ∧ W.cell? ⟨w5.heap.size, 1, none⟩ = some (.slice p5 l5 c5) ∧ W.cell? ⟨w6.heap.size, 0, none⟩ = some (.bool n6) ∧ W.cell? ⟨w6.heap.size, 1, none⟩ = some (.slice p6 l6 c6) ∧ (∀ o, W.frozen? ⟨w.heap.size + 1 + 1, o, none⟩ = false) ∧ (∀ o, W.frozen? ⟨w.heap.size + 1 + 1 + 1, o, none⟩ = false) ) ∧ w.heap.size + 4 ≤ W.heap.size ∧ NR W n5 p5 l5 c5 X ∧ NR W n6 p6 l6 c6 Y) ?_ ?_
    · exact ⟨by (repeat (first | exact Below.refl _ _ | assumption | refine Below.drewN ?_ _ | refine Below.drew ?_ | refine Below.setCell ?_ (by first | exact Nat.le_refl _ | (simp; done) | (simp; omega) | omega) _ | refine Below.alloc ?_ (by first | exact Nat.le_refl _ | (simp; done) | (simp; omega) | omega) _)), ⟨by go_simp, by go_simp, by go_simp, by go_simp, by go_simp, by go_simp, by go_simp, by go_simp, by intro o; go_simp, by intro o; go_simp⟩, by simp; omega, hn5'.alloc _, hn6.alloc _⟩
    obtain ⟨A5, HA5⟩ : ∃ x, Hid (w5.heap.size = x) := ⟨_, rfl⟩
    obtain ⟨A6, HA6⟩ : ∃ x, Hid (w6.heap.size = x) := ⟨_, rfl⟩
    have hne1 : w.heap.size + 1 + 1 ≠ A5 := by have := HA5.out; have := hx5.size; have := (Nat.le_refl w3.heap.size); omega
    have hne2 : w.heap.size + 1 + 1 + 1 ≠ A5 := by have := HA5.out; have := hx5.size; have := (Nat.le_refl w3.heap.size); omega
    have hne3 : w.heap.size + 1 + 1 ≠ A6 := by have := HA5.out; have := HA6.out; omega
    have hne4 : w.heap.size + 1 + 1 + 1 ≠ A6 := by have := HA5.out; have := HA6.out; omega
    rw [HA5.out, HA6.out]
    rintro V ⟨hxV, ⟨v0, v1, v2, v3, v4, v5, v6, v7, vf1, vf2⟩, hzV, hN5, hN6⟩
    have HN5 := Lib.hid hN5
    have HN6 := Lib.hid hN6
    have HXV := Lib.hid hxV
    have y2 : w.heap.size + 1 + 1 < V.heap.size := by omega
    have y3 : w.heap.size + 1 + 1 + 1 < V.heap.size := by omega
    have Z3 := Lib.hid z3
    have NW5 := Lib.hid hnw5
    have NW6 := Lib.hid hnw6
    clear hN5 hN6 hxV k5a k5b k5l hn5' hn6 hn5 hx8 hx6 hx4 hx7 hx5 hx3 hx0 hx1 hx2 hx hzV z3 hnew5 hnew6 hnw5 hnw6 hq hr
    go_region
    all_goals
      go_wp2
      refine bodyPost_ret (v := .tuple #[.agg #[.bool n5, .slice p5 l5 c5], .agg #[.bool n6, .slice p6 l6 c6], .bool true]) (by simp only [results, Tryd.results11]; go_simp) rfl ?_
      have hN5 := HN5.out
      have hN6 := HN6.out
      have hxV := HXV.out
      have hnw5 := NW5.out
      have hnw6 := NW6.out
      have z3 := Z3.out
      refine ⟨n5, p5, l5, c5, n6, p6, l6, c6, rfl, ?_, ?_, hnw5.mono (by omega), hnw6.mono (by omega), by (repeat (first | exact Below.refl _ _ | assumption | refine Below.drewN ?_ _ | refine Below.drew ?_ | refine Below.setCell ?_ (by first | exact Nat.le_refl _ | (simp; done) | (simp; omega) | omega) _ | refine Below.alloc ?_ (by first | exact Nat.le_refl _ | (simp; done) | (simp; omega) | omega) _))⟩
      · (repeat (first | assumption | exact NR.drew (by assumption) | refine NR.set ?_ (w0 := w3) (by assumption) _ (by first | omega | (simp; done) | (simp; omega)) _ | refine NR.drew ?_))
      · (repeat (first | assumption | exact NR.drew (by assumption) | refine NR.set ?_ (w0 := w3) (by assumption) _ (by first | omega | (simp; done) | (simp; omega)) _ | refine NR.drew ?_))
  · obtain rfl : dr = [] := HS.out rfl
    go_wp2_with fail
    refine (MK1.out _ _ _ (hq.ext (by (repeat (first | exact Below.refl _ _ | assumption | refine Below.drewN ?_ _ | refine Below.drew ?_ | refine Below.setCell ?_ (by first | exact Nat.le_refl _ | (simp; done) | (simp; omega) | omega) _ | refine Below.alloc ?_ (by first | exact Nat.le_refl _ | (simp; done) | (simp; omega) | omega) _))))).mono ?_
    rintro e w5 ⟨n5, p5, l5, c5, rfl, hn5, hnew5, hx5⟩
    have hx6 : Ext w w5 := Ext.step (by (repeat (first | exact Below.refl _ _ | assumption | refine Below.drewN ?_ _ | refine Below.drew ?_ | refine Below.setCell ?_ (by first | exact Nat.le_refl _ | (simp; done) | (simp; omega) | omega) _ | refine Below.alloc ?_ (by first | exact Nat.le_refl _ | (simp; done) | (simp; omega) | omega) _))) hx5
    have hz_w5 : w.heap.size + 4 ≤ w5.heap.size := Nat.le_trans (by first | omega | (simp; done) | (simp; omega)) hx5.size
    have hl_w5_0 : w.heap.size < w5.heap.size := Nat.lt_of_lt_of_le (by omega) hz_w5
    have hk_w5_0 : ∀ o, w5.cell? ⟨w.heap.size, o, none⟩ = _ := fun o => hx5.cell (p := ⟨w.heap.size, o, none⟩) (show w.heap.size < _ from (by first | omega | (simp; done) | (simp; omega)))
    have hf_w5_0 : ∀ o, w5.frozen? ⟨w.heap.size, o, none⟩ = _ := fun o => hx5.frozen (p := ⟨w.heap.size, o, none⟩) (show w.heap.size < _ from (by first | omega | (simp; done) | (simp; omega)))
    have hl_w5_1 : w.heap.size + 1 < w5.heap.size := Nat.lt_of_lt_of_le (by omega) hz_w5
    have hk_w5_1 : ∀ o, w5.cell? ⟨w.heap.size + 1, o, none⟩ = _ := fun o => hx5.cell (p := ⟨w.heap.size + 1, o, none⟩) (show w.heap.size + 1 < _ from (by first | omega | (simp; done) | (simp; omega)))
    have hf_w5_1 : ∀ o, w5.frozen? ⟨w.heap.size + 1, o, none⟩ = _ := fun o => hx5.frozen (p := ⟨w.heap.size + 1, o, none⟩) (show w.heap.size + 1 < _ from (by first | omega | (simp; done) | (simp; omega)))
    have hl_w5_2 : w.heap.size + 2 < w5.heap.size := Nat.lt_of_lt_of_le (by omega) hz_w5
    have hk_w5_2 : ∀ o, w5.cell? ⟨w.heap.size + 2, o, none⟩ = _ := fun o => hx5.cell (p := ⟨w.heap.size + 2, o, none⟩) (show w.heap.size + 2 < _ from (by first | omega | (simp; done) | (simp; omega)))
    have hf_w5_2 : ∀ o, w5.frozen? ⟨w.heap.size + 2, o, none⟩ = _ := fun o => hx5.frozen (p := ⟨w.heap.size + 2, o, none⟩) (show w.heap.size + 2 < _ from (by first | omega | (simp; done) | (simp; omega)))
    have hl_w5_3 : w.heap.size + 3 < w5.heap.size := Nat.lt_of_lt_of_le (by omega) hz_w5
    have hk_w5_3 : ∀ o, w5.cell? ⟨w.heap.size + 3, o, none⟩ = _ := fun o => hx5.cell (p := ⟨w.heap.size + 3, o, none⟩) (show w.heap.size + 3 < _ from (by first | omega | (simp; done) | (simp; omega)))
    have hf_w5_3 : ∀ o, w5.frozen? ⟨w.heap.size + 3, o, none⟩ = _ := fun o => hx5.frozen (p := ⟨w.heap.size + 3, o, none⟩) (show w.heap.size + 3 < _ from (by first | omega | (simp; done) | (simp; omega)))
    go_wp2_with fail
    refine (MK2.out _ _ _ (hr.ext (hx5.alloc hx5.size _))).mono ?_
    rintro e w6 ⟨n6, p6, l6, c6, rfl, hn6, hnew6, hx7⟩
    have hx8 : Ext w w6 := Ext.step (by (repeat (first | exact Below.refl _ _ | assumption | refine Below.drewN ?_ _ | refine Below.drew ?_ | refine Below.setCell ?_ (by first | exact Nat.le_refl _ | (simp; done) | (simp; omega) | omega) _ | refine Below.alloc ?_ (by first | exact Nat.le_refl _ | (simp; done) | (simp; omega) | omega) _))) hx7

    have k5a : w6.cell? ⟨w5.heap.size, 0, none⟩ = some (.bool n5) := (hx7.cell (p := ⟨w5.heap.size, 0, none⟩) (by simp)).trans (by go_simp)
    have k5b : w6.cell? ⟨w5.heap.size, 1, none⟩ = some (.slice p5 l5 c5) := (hx7.cell (p := ⟨w5.heap.size, 1, none⟩) (by simp)).trans (by go_simp)
    have k5l : w5.heap.size < w6.heap.size := Nat.lt_of_lt_of_le (by simp) hx7.size
    have hz_w6 : w.heap.size + 4 ≤ w6.heap.size := Nat.le_trans (by first | omega | (simp; done) | (simp; omega)) hx7.size
    have hl_w6_0 : w.heap.size < w6.heap.size := Nat.lt_of_lt_of_le (by omega) hz_w6
    have hk_w6_0 : ∀ o, w6.cell? ⟨w.heap.size, o, none⟩ = _ := fun o => hx7.cell (p := ⟨w.heap.size, o, none⟩) (show w.heap.size < _ from (by first | omega | (simp; done) | (simp; omega)))
    have hf_w6_0 : ∀ o, w6.frozen? ⟨w.heap.size, o, none⟩ = _ := fun o => hx7.frozen (p := ⟨w.heap.size, o, none⟩) (show w.heap.size < _ from (by first | omega | (simp; done) | (simp; omega)))
    have hl_w6_1 : w.heap.size + 1 < w6.heap.size := Nat.lt_of_lt_of_le (by omega) hz_w6
    have hk_w6_1 : ∀ o, w6.cell? ⟨w.heap.size + 1, o, none⟩ = _ := fun o => hx7.cell (p := ⟨w.heap.size + 1, o, none⟩) (show w.heap.size + 1 < _ from (by first | omega | (simp; done) | (simp; omega)))
    have hf_w6_1 : ∀ o, w6.frozen? ⟨w.heap.size + 1, o, none⟩ = _ := fun o => hx7.frozen (p := ⟨w.heap.size + 1, o, none⟩) (show w.heap.size + 1 < _ from (by first | omega | (simp; done) | (simp; omega)))
    have hl_w6_2 : w.heap.size + 2 < w6.heap.size := Nat.lt_of_lt_of_le (by omega) hz_w6
    have hk_w6_2 : ∀ o, w6.cell? ⟨w.heap.size + 2, o, none⟩ = _ := fun o => hx7.cell (p := ⟨w.heap.size + 2, o, none⟩) (show w.heap.size + 2 < _ from (by first | omega | (simp; done) | (simp; omega)))
    have hf_w6_2 : ∀ o, w6.frozen? ⟨w.heap.size + 2, o, none⟩ = _ := fun o => hx7.frozen (p := ⟨w.heap.size + 2, o, none⟩) (show w.heap.size + 2 < _ from (by first | omega | (simp; done) | (simp; omega)))
    have hl_w6_3 : w.heap.size + 3 < w6.heap.size := Nat.lt_of_lt_of_le (by omega) hz_w6
    have hk_w6_3 : ∀ o, w6.cell? ⟨w.heap.size + 3, o, none⟩ = _ := fun o => hx7.cell (p := ⟨w.heap.size + 3, o, none⟩) (show w.heap.size + 3 < _ from (by first | omega | (simp; done) | (simp; omega)))
    have hf_w6_3 : ∀ o, w6.frozen? ⟨w.heap.size + 3, o, none⟩ = _ := fun o => hx7.frozen (p := ⟨w.heap.size + 3, o, none⟩) (show w.heap.size + 3 < _ from (by first | omega | (simp; done) | (simp; omega)))
    have hn5' : NR w6 n5 p5 l5 c5 X := hn5.ext (Below.trans ((Below.refl _ _).alloc (Nat.le_refl _) _) (hx7.mono (by simp)))
    have hnw5 : New w3 p5 := hnew5.mono (Nat.le_refl w3.heap.size)
    have hnw6 : New w3 p6 := hnew6.mono (by have := hx5.size; have := (Nat.le_refl w3.heap.size); simp; omega)
    have z3 : w.heap.size + 4 ≤ w3.heap.size := hz_w3
    go_upto_region 10 with (fail)
    refine wp_some (fun W => Ext w W ∧ (W.cell? ⟨w.heap.size + 1 + 1, 0, none⟩ = some (.bool false) ∧ W.cell? ⟨w.heap.size + 1 + 1, 1, none⟩ = some (.slice none 0 0) ∧ W.cell? ⟨w.heap.size + 1 + 1 + 1, 0, none⟩ = some (.bool false) ∧ W.cell? ⟨w.heap.size + 1 + 1 + 1, 1, none⟩ = some (.slice none 0 0) ∧ W.cell? ⟨w5.heap.size, 0, none⟩ = some (.bool n5) ∧ W.cell? ⟨w5.heap.size, 1, none⟩ = some (.slice p5 l5 c5) ∧ W.cell? ⟨w6.heap.size, 0, none⟩ = some (.bool n6) ∧ W.cell? ⟨w6.heap.size, 1, none⟩ = some (.slice p6 l6 c6) ∧ (∀ o, W.frozen? ⟨w.heap.size + 1 + 1, o, none⟩ = false) ∧ (∀ o, W.frozen? ⟨w.heap.size + 1 + 1 + 1, o, none⟩ = false) ) ∧ w.heap.size + 4 ≤ W.heap.size ∧ NR W n5 p5 l5 c5 X ∧ NR W n6 p6 l6 c6 Y) ?_ ?_
    · exact ⟨by (repeat (first | exact Below.refl _ _ | assumption | refine Below.drewN ?_ _ | refine Below.drew ?_ | refine Below.setCell ?_ (by first | exact Nat.le_refl _ | (simp; done) | (simp; omega) | omega) _ | refine Below.alloc ?_ (by first | exact Nat.le_refl _ | (simp; done) | (simp; omega) | omega) _)), ⟨by go_simp, by go_simp, by go_simp, by go_simp, by go_simp, by go_simp, by go_simp, by go_simp, by intro o; go_simp, by intro o; go_simp⟩, by simp; omega, hn5'.alloc _, hn6.alloc _⟩
    obtain ⟨A5, HA5⟩ : ∃ x, Hid (w5.heap.size = x) := ⟨_, rfl⟩
    obtain ⟨A6, HA6⟩ : ∃ x, Hid (w6.heap.size = x) := ⟨_, rfl⟩
    have hne1 : w.heap.size + 1 + 1 ≠ A5 := by have := HA5.out; have := hx5.size; have := (Nat.le_refl w3.heap.size); omega
    have hne2 : w.heap.size + 1 + 1 + 1 ≠ A5 := by have := HA5.out; have := hx5.size; have := (Nat.le_refl w3.heap.size); omega
    have hne3 : w.heap.size + 1 + 1 ≠ A6 := by have := HA5.out; have := HA6.out; omega
    have hne4 : w.heap.size + 1 + 1 + 1 ≠ A6 := by have := HA5.out; have := HA6.out; omega
    rw [HA5.out, HA6.out]
    rintro V ⟨hxV, ⟨v0, v1, v2, v3, v4, v5, v6, v7, vf1, vf2⟩, hzV, hN5, hN6⟩
    have HN5 := Lib.hid hN5
    have HN6 := Lib.hid hN6
    have HXV := Lib.hid hxV
    have y2 : w.heap.size + 1 + 1 < V.heap.size := by omega
    have y3 : w.heap.size + 1 + 1 + 1 < V.heap.size := by omega
    have Z3 := Lib.hid z3
    have NW5 := Lib.hid hnw5
    have NW6 := Lib.hid hnw6
    clear hN5 hN6 hxV k5a k5b k5l hn5' hn6 hn5 hx8 hx6 hx4 hx7 hx5 hx3 hx0 hx1 hx2 hx hzV z3 hnew5 hnew6 hnw5 hnw6 hq hr
    go_region
    all_goals
      go_wp2
      refine bodyPost_ret (v := .tuple #[.agg #[.bool n5, .slice p5 l5 c5], .agg #[.bool n6, .slice p6 l6 c6], .bool true]) (by simp only [results, Tryd.results11]; go_simp) rfl ?_
      have hN5 := HN5.out
      have hN6 := HN6.out
      have hxV := HXV.out
      have hnw5 := NW5.out
      have hnw6 := NW6.out
      have z3 := Z3.out
      refine ⟨n5, p5, l5, c5, n6, p6, l6, c6, rfl, ?_, ?_, hnw5.mono (by omega), hnw6.mono (by omega), by (repeat (first | exact Below.refl _ _ | assumption | refine Below.drewN ?_ _ | refine Below.drew ?_ | refine Below.setCell ?_ (by first | exact Nat.le_refl _ | (simp; done) | (simp; omega) | omega) _ | refine Below.alloc ?_ (by first | exact Nat.le_refl _ | (simp; done) | (simp; omega) | omega) _))⟩
      · (repeat (first | assumption | exact NR.drew (by assumption) | refine NR.set ?_ (w0 := w3) (by assumption) _ (by first | omega | (simp; done) | (simp; omega)) _ | refine NR.drew ?_))
      · (repeat (first | assumption | exact NR.drew (by assumption) | refine NR.set ?_ (w0 := w3) (by assumption) _ (by first | omega | (simp; done) | (simp; omega)) _ | refine NR.drew ?_))
end Go.Proofs.YtdaaknfmodbjcaaDoor
