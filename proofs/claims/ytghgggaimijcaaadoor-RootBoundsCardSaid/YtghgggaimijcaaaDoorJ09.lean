/- Contract: root.Sign. | Steps: calls that give numbers. | More steps: a call that gives a number and a bool. | Plain: long division of digits (shifted, guess, reduce, divide). | Plain: long division of digits, second part. -/
import Derived.Test.YtghgggaimijcaaaDoorJ08
import Derived.Test.YtghgggaimijcaaaDoorJ03
import Derived.Test.YtghgggaimijcaaaDoorJ01
import Derived.Test.YtghgggaimijcaaaDoorJ04
set_option linter.unusedVariables false
set_option linter.unusedSimpArgs false

namespace Go.Proofs.YtghgggaimijcaaaDoor
open Go.RowKit

/-- A number that root.Sign takes. -/
def goodB (a : Nm) : Bool := a.right && decide (a.d.length ≤ 20)
def signP (a b c : Nm) : Int := if goodB a && (goodB b && goodB c) && !c.neg then sideZ a.z b.z c.z else 0

theorem natAbs_val (a : Nm) : a.z.natAbs = val a.d := by unfold Nm.z; split <;> omega
theorem small_one : small 1 = true := by
  unfold small
  rw [decide_eq_true_eq]
  exact Nat.one_lt_pow (by decide) (by decide)
theorem small_of_lt {z : Int} {k : Nat} (h : z.natAbs < 4294967296 ^ k) (hk : k ≤ 64) : small z = true := by
  unfold small
  rw [decide_eq_true_eq]
  exact Nat.lt_of_lt_of_le h (Nat.pow_le_pow_right (by decide) hk)
theorem good_lt {a : Nm} (hd : Dig a.d) (h : goodB a = true) : a.z.natAbs < 4294967296 ^ 20 := by
  simp only [goodB, Bool.and_eq_true, decide_eq_true_eq] at h
  rw [natAbs_val]
  exact Nat.lt_of_lt_of_le (val_lt hd) (Nat.pow_le_pow_right (by decide) h.2)
theorem mul_lt_pow {x y : Int} {m n : Nat} (hx : x.natAbs < 4294967296 ^ m) (hy : y.natAbs < 4294967296 ^ n) : (x * y).natAbs < 4294967296 ^ (m + n) := by
  rw [Int.natAbs_mul, Nat.pow_add]
  exact Nat.mul_lt_mul'' hx hy
theorem small_two {a b : Nm} {m n : Nat} (ha : a.z.natAbs < 4294967296 ^ m) (hb : b.z.natAbs < 4294967296 ^ n) (hk : m + n ≤ 64) : ∀ k, small (prodZ ([a, b].take k)) = true := by
  intro k
  match k with
  | 0 => exact small_one
  | 1 =>
    have e : prodZ ([a, b].take 1) = a.z := by simp [prodZ]
    rw [e]; exact small_of_lt ha (by omega)
  | k + 2 =>
    have e : prodZ ([a, b].take (k + 2)) = a.z * b.z := by simp [prodZ]
    rw [e]; exact small_of_lt (mul_lt_pow ha hb) hk
theorem small_three {a b c : Nm} {m n o : Nat} (ha : a.z.natAbs < 4294967296 ^ m) (hb : b.z.natAbs < 4294967296 ^ n) (hc : c.z.natAbs < 4294967296 ^ o) (hk : m + n + o ≤ 64) : ∀ k, small (prodZ ([a, b, c].take k)) = true := by
  intro k
  match k with
  | 0 => exact small_one
  | 1 =>
    have e : prodZ ([a, b, c].take 1) = a.z := by simp [prodZ]
    rw [e]; exact small_of_lt ha (by omega)
  | 2 =>
    have e : prodZ ([a, b, c].take 2) = a.z * b.z := by simp [prodZ]
    rw [e]; exact small_of_lt (mul_lt_pow ha hb) (by omega)
  | k + 3 =>
    have e : prodZ ([a, b, c].take (k + 3)) = a.z * b.z * c.z := by simp [prodZ]
    rw [e]; exact small_of_lt (mul_lt_pow (mul_lt_pow ha hb) hc) hk

/-- Numbers that lie one behind the other in a block, right or not. -/
def NRl (w : World) (b : Nat) (l : List Nm) : Prop :=
  b < w.heap.size ∧ ∀ i a, l[i]? = some a → ∃ n p li c, w.cell? ⟨b, i * 2, none⟩ = some (.bool n) ∧ w.cell? ⟨b, i * 2 + 1, none⟩ = some (.slice p li c) ∧ NR w n p li c a
theorem NRl.ext {w w' : World} {b : Nat} {l : List Nm} (h : NRl w b l) (hx : Ext w w') : NRl w' b l := by
  refine ⟨Nat.lt_of_lt_of_le h.1 hx.size, fun i a hi => ?_⟩
  obtain ⟨n, p, li, c, h1, h2, h3⟩ := h.2 i a hi
  exact ⟨n, p, li, c, by rw [hx.cell (p := ⟨b, i * 2, none⟩) h.1]; exact h1, by rw [hx.cell (p := ⟨b, i * 2 + 1, none⟩) h.1]; exact h2, h3.ext hx⟩
theorem NRl_three {W : World} {n1 n2 n3 : Bool} {p1 p2 p3 : Option Addr} {l1 c1 l2 c2 l3 c3 B : Nat} {a b c : Nm} (T : TypeId) (h1 : NR W n1 p1 l1 c1 a) (h2 : NR W n2 p2 l2 c2 b) (h3 : NR W n3 p3 l3 c3 c) (hB : B = W.heap.size) :
    NRl (W.alloc (.cells #[.bool n1, .slice p1 l1 c1, .bool n2, .slice p2 l2 c2, .bool n3, .slice p3 l3 c3] T)) B [a, b, c] := by
  subst hB
  have hh := heap_alloc_new W (.cells #[.bool n1, .slice p1 l1 c1, .bool n2, .slice p2 l2 c2, .bool n3, .slice p3 l3 c3] T)
  refine ⟨by simp, fun i x hi => ?_⟩
  match i, hi with
  | 0, hi =>
    simp only [List.getElem?_cons_zero, Option.some.injEq] at hi
    subst hi
    exact ⟨n1, p1, l1, c1, by rw [cell_of_row _ _ _ _ _ _ hh]; rfl, by rw [cell_of_row _ _ _ _ _ _ hh]; rfl, h1.alloc _⟩
  | 1, hi =>
    simp only [List.getElem?_cons_succ, List.getElem?_cons_zero, Option.some.injEq] at hi
    subst hi
    exact ⟨n2, p2, l2, c2, by rw [cell_of_row _ _ _ _ _ _ hh]; rfl, by rw [cell_of_row _ _ _ _ _ _ hh]; rfl, h2.alloc _⟩
  | 2, hi =>
    simp only [List.getElem?_cons_succ, List.getElem?_cons_zero, Option.some.injEq] at hi
    subst hi
    exact ⟨n3, p3, l3, c3, by rw [cell_of_row _ _ _ _ _ _ hh]; rfl, by rw [cell_of_row _ _ _ _ _ _ hh]; rfl, h3.alloc _⟩
  | i + 3, hi => simp at hi

theorem signP_bad {a b c : Nm} (k : Nat) (x : Nm) (hx : [a, b, c][k]? = some x) (h : goodB x = false) : signP a b c = 0 := by
  unfold signP
  match k, hx with
  | 0, hx => simp only [List.getElem?_cons_zero, Option.some.injEq] at hx; subst hx; simp [h]
  | 1, hx => simp only [List.getElem?_cons_succ, List.getElem?_cons_zero, Option.some.injEq] at hx; subst hx; simp [h]
  | 2, hx => simp only [List.getElem?_cons_succ, List.getElem?_cons_zero, Option.some.injEq] at hx; subst hx; simp [h]
  | k + 3, hx => simp at hx

set_option maxRecDepth 100000 in
set_option maxHeartbeats 2000000 in
theorem root_Sign (a b c : Nm) (na nb nc : Bool) (pa pb pc : Option Addr) (la ca lb cb lc cc : Nat) (w : World) (ha : NR w na pa la ca a) (hb : NR w nb pb lb cb b) (hc : NR w nc pc lc cc c) :
    Calls Tryd.prog 16 #[.agg #[.bool na, .slice pa la ca], .agg #[.bool nb, .slice pb lb cb], .agg #[.bool nc, .slice pc lc cc]] w fun e w' => e = .returned (.int .i64 (signP a b c)) ∧ Ext w w' := by
  have hmf : ∀ (fn : Fn) (first cap : Array Value) (w : World), (Instr.makeFunc fn first cap).run Tryd.prog w = .ok (.func fn first cap) w := fun _ _ _ _ => rfl
  go_enter Tryd.func16, Tryd.ntmps16
  go_wp2_with fail
  obtain ⟨w1, W1⟩ : ∃ w1, Hid ((((w.alloc (.cells #[.bool na, .slice pa la ca] 25)).alloc (.cells #[.bool nb, .slice pb lb cb] 25)).alloc (.cells #[.bool nc, .slice pc lc cc] 25)).alloc (.cells #[.bool na, .slice pa la ca, .bool nb, .slice pb lb cb, .bool nc, .slice pc lc cc] 25) = w1) := ⟨_, rfl⟩
  rw [W1.out]
  have NL : NRl w1 (w.heap.size + 3) [a, b, c] := by
    rw [← W1.out]
    exact NRl_three _ (ha.ext bxx) (hb.ext bxx) (hc.ext bxx) (by simp)
  have hx1 : Ext w w1 := by rw [← W1.out]; exact bxx
  have a0 : w1.cell? ⟨w.heap.size, 0, none⟩ = some (.bool na) := by rw [← W1.out]; go_simp
  have a1 : w1.cell? ⟨w.heap.size, 1, none⟩ = some (.slice pa la ca) := by rw [← W1.out]; go_simp
  have b0 : w1.cell? ⟨w.heap.size + 1, 0, none⟩ = some (.bool nb) := by rw [← W1.out]; go_simp
  have b1 : w1.cell? ⟨w.heap.size + 1, 1, none⟩ = some (.slice pb lb cb) := by rw [← W1.out]; go_simp
  have c0 : w1.cell? ⟨w.heap.size + 2, 0, none⟩ = some (.bool nc) := by rw [← W1.out]; go_simp
  have c1 : w1.cell? ⟨w.heap.size + 2, 1, none⟩ = some (.slice pc lc cc) := by rw [← W1.out]; go_simp
  have hz1 : w.heap.size + 4 ≤ w1.heap.size := by rw [← W1.out]; simp
  have HNL := Lib.hid NL
  have A0 := Lib.hid a0
  have A1 := Lib.hid a1
  have B0 := Lib.hid b0
  have B1 := Lib.hid b1
  have C0 := Lib.hid c0
  have C1 := Lib.hid c1
  clear NL a0 a1 b0 b1 c0 c1
  go_loopw [14] (fun i wr => ∃ k : Nat, k ≤ 3 ∧ i = .int .i64 (k : Int) ∧ (∀ j x, j < k → [a, b, c][j]? = some x → goodB x = true) ∧ Ext w1 wr) (fun i _ => 3 - (intOf i).toNat)
  case atStart => exact ⟨0, by omega, rfl, fun j x hj _ => absurd hj (Nat.not_lt_zero j), Below.refl _ _⟩
  case round =>
    obtain ⟨k, hk, rfl, hgood, hx⟩ := hrel
    have GOOD := Lib.hid hgood
    clear hgood
    have hx2 := Ext.step hx1 hx
    have hzr : w.heap.size + 4 ≤ wr.heap.size := Nat.le_trans hz1 hx.size
    by_cases hlt : k < 3
    · obtain ⟨x, XX⟩ : ∃ x, Hid ([a, b, c][k]? = some x) := ⟨[a, b, c][k], List.getElem?_eq_getElem hlt⟩
      obtain ⟨n, p, l, cp, e0, e1, hnx⟩ := (HNL.out.ext hx).2 k x XX.out
      have hlen := hnx.2.1
      have hlc := hnx.2.2.le
      have hcm := hnx.2.2.max
      have HLEN := Lib.hid hlen
      have hl64 : l ≤ 9223372036854775807 := by omega
      clear hlen
      by_cases rx : x.right = true
      · by_cases hl : l ≤ 20
        · have GX : Hid (goodB x = true) := by
            show goodB x = true
            unfold goodB
            rw [rx, ← HLEN.out]
            simpa using hl
          go_wp2_with fail
          refine (num_Right x _ _ _ _ _ (hnx.ext bxx)).mono ?_
          rintro e w2 ⟨rfl, hx3⟩
          rw [rx]
          have hx4 : Ext wr w2 := Ext.step bxx hx3
          have hx5 : Ext w1 w2 := Ext.step hx hx4
          have q1 : w2.cell? ⟨wr.heap.size, 1, none⟩ = some (.slice p l cp) := (hx3.cell (p := ⟨wr.heap.size, 1, none⟩) (by simp)).trans (by go_simp)
          go_wp2
          refine ⟨⟨k + 1, by omega, rfl, fun j y hj hy => ?_, hx5⟩, by simp [intOf]; omega⟩
          rcases Nat.lt_or_ge j k with h | h
          · exact GOOD.out j y h hy
          · obtain rfl : j = k := by omega
            rw [XX.out] at hy
            cases hy
            exact GX.out
        · have GX : Hid (signP a b c = 0) := by
            refine signP_bad k x XX.out ?_
            unfold goodB
            rw [rx, ← HLEN.out]
            simpa using hl
          go_wp2_with fail
          refine (num_Right x _ _ _ _ _ (hnx.ext bxx)).mono ?_
          rintro e w2 ⟨rfl, hx3⟩
          rw [rx]
          have hx4 : Ext wr w2 := Ext.step bxx hx3
          have hx5 : Ext w w2 := Ext.step hx2 hx4
          have q1 : w2.cell? ⟨wr.heap.size, 1, none⟩ = some (.slice p l cp) := (hx3.cell (p := ⟨wr.heap.size, 1, none⟩) (by simp)).trans (by go_simp)
          go_wp2
          go_ret
          exact ⟨by rw [GX.out]; rfl, hx5⟩
      · have rx : x.right = false := by simpa using rx
        have GX : Hid (signP a b c = 0) := by
          refine signP_bad k x XX.out ?_
          unfold goodB
          rw [rx]
          rfl
        go_wp2_with fail
        refine (num_Right x _ _ _ _ _ (hnx.ext bxx)).mono ?_
        rintro e w2 ⟨rfl, hx3⟩
        rw [rx]
        have hx4 : Ext wr w2 := Ext.step bxx hx3
        have hx5 : Ext w w2 := Ext.step hx2 hx4
        go_wp2
        go_ret
        exact ⟨by rw [GX.out]; rfl, hx5⟩
    · obtain rfl : k = 3 := by omega
      have ga : goodB a = true := GOOD.out 0 a (by omega) rfl
      have gb : goodB b = true := GOOD.out 1 b (by omega) rfl
      have gc : goodB c = true := GOOD.out 2 c (by omega) rfl
      have hc0 : wr.cell? ⟨w.heap.size + 2, 0, none⟩ = some (.bool nc) := (hx.cell (p := ⟨w.heap.size + 2, 0, none⟩) (show w.heap.size + 2 < w1.heap.size by omega)).trans C0.out
      cases hneg : c.neg with
      | true =>
        have S : Hid (signP a b c = 0) := by
          show signP a b c = 0
          simp [signP, hneg]
        have hnc : nc = true := hc.1.trans hneg
        subst hnc
        clear hneg
        go_wp2
        go_ret
        exact ⟨by rw [S.out]; rfl, hx2⟩
      | false =>
        have S : Hid (signP a b c = sideZ a.z b.z c.z) := by
          show signP a b c = _
          simp [signP, hneg, ga, gb, gc]
        have hnc : nc = false := hc.1.trans hneg
        subst hnc
        have ra : a.right = true := by simp only [goodB, Bool.and_eq_true] at ga; exact ga.1
        have rb : b.right = true := by simp only [goodB, Bool.and_eq_true] at gb; exact gb.1
        have rc : c.right = true := by simp only [goodB, Bool.and_eq_true] at gc; exact gc.1
        have s1 := Lib.hid (small_two (good_lt ha.2.2.dig ga) (good_lt ha.2.2.dig ga) (by omega))
        have s2 := Lib.hid (small_three (good_lt hb.2.2.dig gb) (good_lt hb.2.2.dig gb) (good_lt hc.2.2.dig gc) (by omega))
        clear hneg ga gb gc
        go_wp2_with fail
        refine (root_guarded_sign a b c _ _ _ _ _ _ _ _ _ _ _ _ _ _ _ _ (ha.ext hx2) (hb.ext hx2) (hc.ext hx2) ra rb rc s1.out s2.out ((hx.cell (p := ⟨w.heap.size, 0, none⟩) (show w.heap.size < w1.heap.size by omega)).trans A0.out) ((hx.cell (p := ⟨w.heap.size, 1, none⟩) (show w.heap.size < w1.heap.size by omega)).trans A1.out) ((hx.cell (p := ⟨w.heap.size + 1, 0, none⟩) (show w.heap.size + 1 < w1.heap.size by omega)).trans B0.out) ((hx.cell (p := ⟨w.heap.size + 1, 1, none⟩) (show w.heap.size + 1 < w1.heap.size by omega)).trans B1.out) hc0 ((hx.cell (p := ⟨w.heap.size + 2, 1, none⟩) (show w.heap.size + 2 < w1.heap.size by omega)).trans C1.out)).mono ?_
        rintro e w2 ⟨rfl, hx3⟩
        have hx5 : Ext w w2 := Ext.step hx2 hx3
        go_wp2
        go_ret
        exact ⟨by rw [S.out]; rfl, hx5⟩
end Go.Proofs.YtghgggaimijcaaaDoor

namespace Go.Proofs.YtghgggaimijcaaaDoor
open Go.RowKit

/-- The value is the number x, in new memory. -/
def IsN (w0 W : World) (x : Nm) (v : Value) (w' : World) : Prop := ∃ n p l c, v = .agg #[.bool n, .slice p l c] ∧ NR w' n p l c x ∧ New w0 p ∧ Ext W w'
theorem RetN.isN {w0 W : World} {x : Nm} {e : Ending} {w' : World} (hz : w0.heap.size ≤ W.heap.size) (h : RetN W x e w') : ∃ v, e = .returned v ∧ IsN w0 W x v w' := by
  obtain ⟨n, p, l, c, rfl, h1, h2, h3⟩ := h
  exact ⟨_, rfl, n, p, l, c, rfl, h1, h2.mono hz, h3⟩
/-- A call that gives a number. -/
theorem F_num {P : Program} {ops : Array Oper} {S : World → Prop} {Q : Act → World → Prop} {o : Oper} {l : List Oper} {a : Act} {own : List Nat} {F : World → Prop} (w0 : World) (x : Nm) (hk : fkind o = 2) (hw : Region.wanted o (yielded ops a.tmps) = true)
    (hg : ∀ w, F w → Gives P o a w (IsN w0 w x))
    (h : ∀ n p l' c, New w0 p → WpF P ops S Q l (a.put o.dst (.agg #[.bool n, .slice p l' c])) own (fun w => F w ∧ NR w n p l' c x)) : WpF P ops S Q (o :: l) a own F :=
  F_callN w0 x hk hw hg h
end Go.Proofs.YtghgggaimijcaaaDoor

namespace Go.Proofs.YtghgggaimijcaaaDoor
open Go.RowKit

/-- The value is the number x and a bool, in new memory. -/
def IsNb (w0 W : World) (r : Nm × Bool) (v : Value) (w' : World) : Prop := ∃ n p l c, v = .tuple #[.agg #[.bool n, .slice p l c], .bool r.2] ∧ NR w' n p l c r.1 ∧ New w0 p ∧ Ext W w'
theorem RetNum.isNb {w0 W : World} {r : Nm × Bool} {e : Ending} {w' : World} (hz : w0.heap.size ≤ W.heap.size) (h : RetNum W r e w') : ∃ v, e = .returned v ∧ IsNb w0 W r v w' := by
  obtain ⟨n, p, l, c, rfl, h1, h2, h3⟩ := h
  exact ⟨_, rfl, n, p, l, c, rfl, h1, h2.mono hz, h3⟩
section
variable {P : Program} {ops : Array Oper} {S : World → Prop} {Q : Act → World → Prop} {o : Oper} {l : List Oper} {a : Act} {own : List Nat} {F : World → Prop}
/-- A call that gives a number and a bool. -/
theorem F_numB (w0 : World) (r : Nm × Bool) (hk : fkind o = 2) (hw : Region.wanted o (yielded ops a.tmps) = true)
    (hg : ∀ w, F w → Gives P o a w (IsNb w0 w r))
    (h : ∀ n p l' c, New w0 p → WpF P ops S Q l (a.put o.dst (.tuple #[.agg #[.bool n, .slice p l' c], .bool r.2])) own (fun w => F w ∧ NR w n p l' c r.1)) : WpF P ops S Q (o :: l) a own F := by
  refine .eff hk hw (Bool × Option Addr × Nat × Nat) (fun t => .tuple #[.agg #[.bool t.1, .slice t.2.1 t.2.2.1 t.2.2.2], .bool r.2]) (fun t w => New w0 t.2.1 ∧ NR w t.1 t.2.1 t.2.2.1 t.2.2.2 r.1) (fun t w w' h hb => ⟨h.1, h.2.ext hb⟩) (fun w hf => ?_) ?_
  · refine (hg w hf).imp ?_
    rintro v w' ⟨n, p, l, c, rfl, h1, h2, h3⟩
    exact ⟨(n, p, l, c), rfl, h3, h2, h1⟩
  · rintro ⟨n, p, l', c⟩ ⟨w1, hf, hn, hr⟩
    have e : (fun w => F w ∧ New w0 p ∧ NR w n p l' c r.1) = (fun w => F w ∧ NR w n p l' c r.1) := by
      funext w; exact propext ⟨fun ⟨a, _, b⟩ => ⟨a, b⟩, fun ⟨a, b⟩ => ⟨a, hn, b⟩⟩
    have := h n p l' c hn
    rw [← e] at this
    exact this
end
end Go.Proofs.YtghgggaimijcaaaDoor

namespace Go.Proofs.YtghgggaimijcaaaDoor

/-- A digit of a quotient is guessed: the invariant of the loop. -/
theorem guess_dec {U V P u0 u2 high v0 v1 v2 q r : Nat} (hu0 : u0 < P) (hU : U = u0 + P * (u2 + 4294967296 * high)) (hV : V = v0 + P * (v2 + 4294967296 * v1)) (hlt : U < 4294967296 * V)
    (hq : q * v1 + r = high) (hle : U / V ≤ q) (h : 4294967296 ≤ q ∨ r * 4294967296 + u2 < q * v2) : 1 ≤ q ∧ U / V ≤ q - 1 := by
  have hV0 : 0 < V := by
    rcases Nat.eq_zero_or_pos V with e | e
    · rw [e] at hlt; omega
    · exact e
  rcases h with h | h
  · have : U / V < 4294967296 := (Nat.div_lt_iff_lt_mul hV0).2 hlt
    omega
  · have h1 : 1 ≤ q := by
      rcases Nat.eq_zero_or_pos q with e | e
      · subst e; simp at h
      · exact e
    refine ⟨h1, ?_⟩
    have : ¬ q ≤ U / V := by
      intro hc
      rw [Nat.le_div_iff_mul_le hV0] at hc
      have e1 : q * V = q * v0 + P * (q * v2) + P * (4294967296 * (q * v1)) := by rw [hV]; grind
      have e2 : U = u0 + P * u2 + P * (4294967296 * (q * v1)) + P * (r * 4294967296) := by rw [hU, ← hq]; grind
      have h2 := Nat.mul_le_mul_left P (Nat.succ_le_of_lt h)
      have e3 : P * Nat.succ (r * 4294967296 + u2) = P * (r * 4294967296) + P * u2 + P := by rw [Nat.succ_eq_add_one]; grind
      rw [e3] at h2
      rw [e1, e2] at hc
      generalize P * (4294967296 * (q * v1)) = x1 at *
      generalize P * (q * v2) = x2 at *
      generalize P * (r * 4294967296) = x3 at *
      generalize P * u2 = x4 at *
      generalize q * v0 = x5 at *
      omega
    omega
theorem guess_start {U V P w high v1 vr : Nat} (hw : w < P) (hU : U = w + P * high) (hV : V = vr + P * v1) (hv1 : 0 < v1) : U / V ≤ high / v1 := by
  have hP : 0 < P := by omega
  have hV0 : 0 < V := by
    have := Nat.mul_pos hP hv1
    omega
  rw [Nat.le_div_iff_mul_le hv1]
  have h := Nat.div_mul_le_self U V
  generalize U / V = q at *
  have e1 : q * V = q * vr + P * (q * v1) := by rw [hV]; grind
  have : P * (q * v1) < P * (high + 1) := by
    have e2 : P * (high + 1) = P * high + P := by grind
    rw [e1] at h
    rw [e2]
    generalize P * (q * v1) = x1 at *
    generalize P * high = x2 at *
    generalize q * vr = x3 at *
    omega
  have := Nat.lt_of_mul_lt_mul_left this
  omega
theorem guess_end {U V P u0 u1 u2 ut v0 v1 v2 q r : Nat} (hv0 : v0 < P) (hv1 : 0 < v1) (hv2 : v2 < 4294967296) (hu0 : u0 < P) (hu1 : u1 < 4294967296) (hU : U = u0 + P * (u2 + 4294967296 * (u1 + 4294967296 * ut))) (hV : V = v0 + P * (v2 + 4294967296 * v1)) (hlt : U < 4294967296 * V)
    (hq : q * v1 + r = u1 + 4294967296 * ut) (h : 4294967296 ≤ r ∨ (q < 4294967296 ∧ q * v2 ≤ r * 4294967296 + u2)) : q < 4294967296 ∧ q ≤ U / V + 1 := by
  have hP : 0 < P := by omega
  have hV0 : 0 < V := by
    rcases Nat.eq_zero_or_pos V with e | e
    · rw [e] at hlt; omega
    · exact e
  have hut : ut ≤ v1 := by
    have : ¬ v1 + 1 ≤ ut := by
      intro hc
      have h1 := Nat.mul_le_mul_left (P * (4294967296 * 4294967296)) hc
      have e1 : P * (4294967296 * 4294967296) * (v1 + 1) = 4294967296 * (P * (4294967296 * v1)) + 4294967296 * (P * 4294967296) := by grind
      have e2 : U = u0 + P * u2 + P * (4294967296 * u1) + P * (4294967296 * 4294967296) * ut := by rw [hU]; grind
      have e3 : 4294967296 * V = 4294967296 * v0 + 4294967296 * (P * v2) + 4294967296 * (P * (4294967296 * v1)) := by rw [hV]; grind
      have h2 : P * v2 + P ≤ P * 4294967296 := by
        have h9 : P * (v2 + 1) ≤ P * 4294967296 := Nat.mul_le_mul_left P hv2
        have e9 : P * (v2 + 1) = P * v2 + P := by grind
        omega
      rw [e1] at h1
      rw [e3, e2] at hlt
      omega
    omega
  have hqb : q < 4294967296 := by
    rcases h with h | h
    · have : ¬ 4294967296 ≤ q := by
        intro hc
        have h1 := Nat.mul_le_mul_right v1 hc
        have h2 := Nat.mul_le_mul_left 4294967296 hut
        omega
      omega
    · exact h.1
  have h2 : q * v2 ≤ r * 4294967296 + u2 := by
    rcases h with h | h
    · have h1 : q * v2 ≤ 4294967296 * 4294967296 := Nat.mul_le_mul (by omega) (by omega)
      omega
    · exact h.2
  refine ⟨hqb, ?_⟩
  rcases Nat.eq_zero_or_pos q with e | e
  · rw [e]; exact Nat.zero_le _
  · obtain ⟨p, rfl⟩ : ∃ p, q = p + 1 := ⟨q - 1, by omega⟩
    have : p ≤ U / V := by
      rw [Nat.le_div_iff_mul_le hV0]
      have e1 : (p + 1) * V = (p + 1) * v0 + P * ((p + 1) * v2) + P * (4294967296 * ((p + 1) * v1)) := by rw [hV]; grind
      have e2 : U = u0 + P * u2 + P * (4294967296 * ((p + 1) * v1)) + P * (r * 4294967296) := by rw [hU, ← hq]; grind
      have e3 : (p + 1) * V = p * V + V := by grind
      have h3 := Nat.mul_le_mul_left P h2
      have e4 : P * (r * 4294967296 + u2) = P * (r * 4294967296) + P * u2 := by grind
      have h5 : (p + 1) * v0 ≤ V := by
        have h6 : (p + 1) * v0 ≤ 4294967296 * P := Nat.mul_le_mul (by omega) (by omega)
        have h7 : P * (4294967296 * 1) ≤ P * (4294967296 * v1) := Nat.mul_le_mul_left _ (Nat.mul_le_mul_left _ hv1)
        have e5 : V = v0 + P * v2 + P * (4294967296 * v1) := by rw [hV]; grind
        have e6 : P * (4294967296 * 1) = 4294967296 * P := by grind
        rw [e5]
        omega
      rw [e4] at h3
      rw [e3] at e1
      omega
    omega

/-- q times v is subtracted from u: k digits are done; c is carried, b borrowed. -/
def RedInv (q : Nat) (u v : List Nat) (o : List Nat) (c b : Nat) : Prop :=
  Dig o ∧ c ≤ q ∧ b ≤ 1 ∧ val (u.take o.length) + 4294967296 ^ o.length * (c + b) = val o + q * val (v.take o.length)
theorem val_snocK (o : List Nat) (x : Nat) : val (o ++ [x]) = val o + 4294967296 ^ o.length * x := by rw [val_append]; simp [val]
theorem val_take_K (d : List Nat) (k : Nat) : val (d.take (k + 1)) = val (d.take k) + 4294967296 ^ k * (d[k]?.getD 0) := by
  by_cases h : k < d.length
  · rw [List.take_succ_eq_append_getElem h, val_append, List.length_take, Nat.min_eq_left (by omega), List.getElem?_eq_getElem h]; simp [val]
  · rw [List.take_of_length_le (by omega), List.take_of_length_le (by omega), List.getElem?_eq_none (by omega)]; simp
theorem red_step {q : Nat} {u v o : List Nat} {c b x d : Nat} (hq : q < 4294967296) (h : RedInv q u v o c b) (hx : u[o.length]?.getD 0 = x) (hd : v[o.length]?.getD 0 = d) (hdb : d < 4294967296) (hxb : x < 4294967296) :
    RedInv q u v (o ++ [(x + 8589934592 - (c + q * d) % 4294967296 - b) % 4294967296]) ((c + q * d) / 4294967296) (if x < (c + q * d) % 4294967296 + b then 1 else 0) ∧ c + q * d < 18446744073709551616 := by
  obtain ⟨h1, h2, h3, h4⟩ := h
  have hqd : q * d ≤ q * 4294967295 := Nat.mul_le_mul_left _ (by omega)
  have hc : c + q * d < 18446744073709551616 := by omega
  refine ⟨⟨?_, by omega, by split <;> omega, ?_⟩, hc⟩
  · intro y hy
    rcases List.mem_append.1 hy with g | g
    · exact h1 y g
    · rw [List.mem_singleton] at g; subst g; exact Nat.mod_lt _ (by omega)
  · rw [List.length_append, List.length_singleton, val_take_K, val_take_K, val_snocK, hx, hd, Nat.pow_succ]
    have e1 : q * (val (v.take o.length) + 4294967296 ^ o.length * d) = q * val (v.take o.length) + 4294967296 ^ o.length * (q * d) := by grind
    rw [e1]
    generalize q * val (v.take o.length) = a1 at *
    generalize val (u.take o.length) = a2 at *
    generalize val o = a3 at *
    generalize 4294967296 ^ o.length = P at *
    generalize q * d = t at *
    have key : ∀ (b' y : Nat), x + 4294967296 * ((c + t) / 4294967296 + b') + (c + b) = y + t + (c + b) + 0 + (c + b) → a2 + P * x + P * 4294967296 * ((c + t) / 4294967296 + b') = a3 + P * y + (a1 + P * t) := by
      intro b' y hy
      have e2 : P * x + P * 4294967296 * ((c + t) / 4294967296 + b') = P * (y + t + (c + b)) := by
        have : x + 4294967296 * ((c + t) / 4294967296 + b') = y + t + (c + b) := by omega
        rw [← this]; grind
      have e3 : P * (y + t + (c + b)) = P * y + P * t + P * (c + b) := by grind
      rw [Nat.add_assoc, e2, e3]
      omega
    apply key
    split <;> omega
end Go.Proofs.YtghgggaimijcaaaDoor

namespace Go.Proofs.YtghgggaimijcaaaDoor

theorem val_pos_of {b : List Nat} {n x : Nat} (hl : b.length = n + 1) (hx : b[n]?.getD 0 = x) : val b = val (b.take n) + 4294967296 ^ n * x := by
  have h := val_take_K b n
  rw [hx, List.take_of_length_le (by omega)] at h
  exact h
theorem red_keep {q : Nat} {u v o : List Nat} {c b x : Nat} (h : RedInv q u v o c b) (ho : o.length = v.length) (hu : u.length = v.length + 1) (hx : u[v.length]?.getD 0 = x) (hle : c + b ≤ x) :
    val u = val (o ++ [x - c - b]) + q * val v := by
  obtain ⟨_, _, _, h4⟩ := h
  rw [ho, List.take_of_length_le (Nat.le_refl v.length)] at h4
  rw [val_pos_of hu hx, val_snocK, ho]
  generalize 4294967296 ^ v.length = P at *
  obtain ⟨t, rfl⟩ : ∃ t, x = t + (c + b) := ⟨x - (c + b), by omega⟩
  rw [show t + (c + b) - c - b = t by omega]
  have e : P * (t + (c + b)) = P * t + P * (c + b) := by grind
  omega
theorem red_borrow {q : Nat} {u v o : List Nat} {c b x : Nat} (h : RedInv q u v o c b) (hq : q < 4294967296) (ho : o.length = v.length) (hu : u.length = v.length + 1) (hx : u[v.length]?.getD 0 = x) (hlt : x < c + b) :
    val u + 4294967296 ^ (v.length + 1) = val (o ++ [x + 4294967296 - c - b]) + q * val v := by
  obtain ⟨_, h2, h3, h4⟩ := h
  rw [ho, List.take_of_length_le (Nat.le_refl v.length)] at h4
  rw [val_pos_of hu hx, val_snocK, ho, Nat.pow_succ]
  generalize 4294967296 ^ v.length = P at *
  obtain ⟨t, ht⟩ : ∃ t, x + 4294967296 = t + (c + b) := ⟨x + 4294967296 - (c + b), by omega⟩
  rw [show x + 4294967296 - c - b = t by omega]
  have e : P * (x + 4294967296) = P * t + P * (c + b) := by rw [ht]; grind
  have e2 : P * (x + 4294967296) = P * x + P * 4294967296 := by grind
  omega
theorem quot_of {U V W q : Nat} (hV : 0 < V) (h : U = W + q * V) (hq : U / V ≤ q) : q = U / V ∧ W = U % V := by
  have h1 : q ≤ U / V := by rw [Nat.le_div_iff_mul_le hV]; omega
  obtain rfl : q = U / V := by omega
  refine ⟨rfl, ?_⟩
  have := Nat.div_add_mod U V
  rw [Nat.mul_comm V] at this
  omega
theorem red_back {q : Nat} {u v o o2 : List Nat} {y c2 : Nat} (h : val u + 4294967296 ^ (v.length + 1) = val (o ++ [y]) + q * val v) (ho : o.length = v.length) (ho2 : o2.length = v.length) (hs : sumInv (o ++ [y]) v o2 c2)
    (hy : y < 4294967296) (dd : Dig o) (du : Dig u) (hu : u.length = v.length + 1) (hV : 0 < val v) (hq : q ≤ val u / val v + 1) : y + c2 = 4294967296 ∧ q - 1 = val u / val v ∧ 1 ≤ q ∧ val o2 = val u % val v := by
  obtain ⟨d2, hc2, hs2⟩ := hs
  have hlu := val_lt du
  rw [hu] at hlu
  have hlo2 := val_lt d2
  have hlo : val (o ++ [y]) < 4294967296 ^ (v.length + 1) := by
    have := val_lt (dd.append (Dig.cons hy Dig.nil))
    rwa [List.length_append, List.length_singleton, ho] at this
  have hqV : val u < q * val v := by omega
  have hq1 : val u / val v < q := (Nat.div_lt_iff_lt_mul hV).2 hqV
  obtain rfl : q = val u / val v + 1 := by omega
  have hm := Nat.div_add_mod (val u) (val v)
  rw [Nat.mul_comm] at hm
  have hmlt := Nat.mod_lt (val u) hV
  rw [Nat.add_mul, Nat.one_mul] at h
  rw [ho2, List.take_of_length_le (Nat.le_refl v.length), ← ho, List.take_left, ho] at hs2
  rw [val_snocK, ho, Nat.pow_succ] at h
  rw [ho2] at hlo2
  have key : val o2 + 4294967296 ^ v.length * (c2 + y) = val u % val v + 4294967296 ^ v.length * 4294967296 := by
    have e : 4294967296 ^ v.length * (c2 + y) = 4294967296 ^ v.length * c2 + 4294967296 ^ v.length * y := by grind
    omega
  have hvl : val u % val v < 4294967296 ^ v.length * (c2 + y + 1) := by
    have e : 4294967296 ^ v.length * (c2 + y + 1) = 4294967296 ^ v.length * (c2 + y) + 4294967296 ^ v.length := by grind
    rw [e]
    omega
  have hb : ¬ c2 + y < 4294967296 := by
    intro hc
    have h9 : 4294967296 ^ v.length * (c2 + y + 1) ≤ 4294967296 ^ v.length * 4294967296 := Nat.mul_le_mul_left _ hc
    have e : 4294967296 ^ v.length * (c2 + y + 1) = 4294967296 ^ v.length * (c2 + y) + 4294967296 ^ v.length := by grind
    omega
  have hb2 : y + c2 = 4294967296 := by omega
  refine ⟨hb2, Nat.add_sub_cancel _ _, Nat.le_add_left _ _, ?_⟩
  rw [show c2 + y = 4294967296 by omega] at key
  omega
theorem sum_take {a v o : List Nat} {s n : Nat} (h : sumInv a v o s) (hl : o.length = n) : o.length = n := hl

/-- Digits are moved up by less than a digit: s times a number. -/
def ShInv (s : Nat) (a o : List Nat) (c : Nat) : Prop := Dig o ∧ c < s ∧ val o + 4294967296 ^ o.length * c = s * val (a.take o.length)
theorem sh_step {s e : Nat} (hse : s * e = 4294967296) {a o : List Nat} {c d : Nat} (h : ShInv s a o c) (hd : a[o.length]?.getD 0 = d) (hdb : d < 4294967296) :
    ShInv s a (o ++ [d % e * s + c]) (d / e) ∧ d % e * s + c < 4294967296 := by
  obtain ⟨h1, h2, h3⟩ := h
  have he : 0 < e := by
    rcases Nat.eq_zero_or_pos e with g | g
    · subst g; simp at hse
    · exact g
  have hm := Nat.mod_lt d he
  have hlt : d % e * s + c < 4294967296 := by
    have h4 : (d % e + 1) * s ≤ e * s := Nat.mul_le_mul_right _ hm
    rw [Nat.mul_comm e, hse, Nat.add_mul, Nat.one_mul] at h4
    omega
  refine ⟨⟨h1.append (Dig.cons hlt Dig.nil), ?_, ?_⟩, hlt⟩
  · rw [Nat.div_lt_iff_lt_mul he, hse]; exact hdb
  · rw [List.length_append, List.length_singleton, val_snocK, val_take_K, hd, Nat.pow_succ]
    have e1 : s * (val (a.take o.length) + 4294967296 ^ o.length * d) = s * val (a.take o.length) + 4294967296 ^ o.length * (s * d) := by grind
    have e2 : s * d = d % e * s + 4294967296 * (d / e) := by
      have := Nat.div_add_mod d e
      rw [← hse]
      conv => lhs; rw [← this]
      grind
    rw [e1, e2, ← h3]
    generalize 4294967296 ^ o.length = P
    grind
theorem sh_end {s : Nat} {a o : List Nat} {c : Nat} (h : ShInv s a o c) (hl : o.length = a.length) : val (o ++ [c]) = s * val a := by
  obtain ⟨_, _, h3⟩ := h
  rw [hl, List.take_of_length_le (Nat.le_refl a.length)] at h3
  rw [val_snocK, hl]
  exact h3
/-- A digit of what is moved down again. -/
theorem shr_digit {s e : Nat} (hse : s * e = 4294967296) {u1 u0 : Nat} (h0 : u0 < 4294967296) :
    s * ((u1 * 4294967296 + u0) / s % 4294967296) = u1 % s * 4294967296 + s * (u0 / s) := by
  have hs : 0 < s := by
    rcases Nat.eq_zero_or_pos s with g | g
    · subst g; simp at hse
    · exact g
  have he : 0 < e := by
    rcases Nat.eq_zero_or_pos e with g | g
    · subst g; simp at hse
    · exact g
  have e1 : (u1 * 4294967296 + u0) / s = u1 * e + u0 / s := by
    rw [← hse, show u1 * (s * e) + u0 = s * (u1 * e) + u0 by grind, Nat.mul_add_div hs]
  have e2 : u1 * e = u1 % s * e + 4294967296 * (u1 / s) := by
    have := Nat.div_add_mod u1 s
    rw [← hse]
    conv => lhs; rw [← this]
    grind
  have h3 : u0 / s < e := by rw [Nat.div_lt_iff_lt_mul hs, Nat.mul_comm, hse]; exact h0
  have h4 : (u1 % s + 1) * e ≤ s * e := Nat.mul_le_mul_right _ (Nat.mod_lt u1 hs)
  rw [hse, Nat.add_mul, Nat.one_mul] at h4
  have e3 : (u1 * 4294967296 + u0) / s % 4294967296 = u1 % s * e + u0 / s := by
    rw [e1, e2]
    rw [show u1 % s * e + 4294967296 * (u1 / s) + u0 / s = (u1 % s * e + u0 / s) + 4294967296 * (u1 / s) by omega, Nat.add_mul_mod_self_left, Nat.mod_eq_of_lt]
    generalize u0 / s = g at *
    omega
  rw [e3, ← hse]
  grind
def ShrInv (s : Nat) (u o : List Nat) : Prop := Dig o ∧ s * val o + val u % s = val (u.take o.length) + 4294967296 ^ o.length * (u[o.length]?.getD 0 % s)
theorem shr_start {s e : Nat} (hse : s * e = 4294967296) (u : List Nat) (h0 : 0 < u.length) : ShrInv s u [] := by
  refine ⟨Dig.nil, ?_⟩
  cases u with
  | nil => simp at h0
  | cons x r =>
    simp only [val_nil, List.length_nil, List.take_zero, List.getElem?_cons_zero, Option.getD_some, val_cons]
    rw [← hse, Nat.mul_assoc, Nat.add_mul_mod_self_left]
    simp
theorem shr_step {s e : Nat} (hse : s * e = 4294967296) {u o : List Nat} (h : ShrInv s u o) {u0 u1 : Nat} (h0 : u[o.length]?.getD 0 = u0) (h1 : u[o.length + 1]?.getD 0 = u1) (hb : u0 < 4294967296) :
    ShrInv s u (o ++ [(u1 * 4294967296 + u0) / s % 4294967296]) := by
  obtain ⟨d, h2⟩ := h
  refine ⟨d.append (Dig.cons (Nat.mod_lt _ (by omega)) Dig.nil), ?_⟩
  rw [List.length_append, List.length_singleton, val_snocK, val_take_K, h0, h1, Nat.pow_succ]
  rw [h0] at h2
  have k := shr_digit hse (u1 := u1) hb
  generalize (u1 * 4294967296 + u0) / s % 4294967296 = r at *
  have e1 : s * (val o + 4294967296 ^ o.length * r) = s * val o + 4294967296 ^ o.length * (s * r) := by grind
  rw [e1, k]
  have e2 : u0 = s * (u0 / s) + u0 % s := (Nat.div_add_mod u0 s).symm
  generalize 4294967296 ^ o.length = P at *
  generalize u0 / s = g at *
  generalize u0 % s = g2 at *
  rw [e2]
  grind
theorem shr_end {s : Nat} {u o : List Nat} (h : ShrInv s u o) {n R : Nat} (hs : 0 < s) (hl : o.length = n) (hu : val u < 4294967296 ^ n) (hd : Dig u) (hul : n < u.length) (hR : val u = s * R) : val o = R := by
  obtain ⟨_, h2⟩ := h
  rw [hl] at h2
  have h3 := val_take_drop u n (by omega)
  have h4 : val (u.drop n) = 0 := by
    rcases Nat.eq_zero_or_pos (val (u.drop n)) with g | g
    · exact g
    · have := Nat.mul_le_mul_left (4294967296 ^ n) g
      omega
  have h5 : u[n]?.getD 0 = 0 := by
    rw [List.drop_eq_getElem_cons hul, val_cons] at h4
    rw [List.getElem?_eq_getElem hul, Option.getD_some]
    omega
  rw [h5, Nat.zero_mod, Nat.mul_zero, Nat.add_zero] at h2
  rw [h4, Nat.mul_zero, Nat.add_zero] at h3
  rw [← h3, hR, Nat.mul_mod_right, Nat.add_zero] at h2
  exact Nat.eq_of_mul_eq_mul_left hs h2

/-- The loop of the long division: of A, k digits of the quotient by V are still to be found. -/
structure LongInv (A V k : Nat) (u qs : List Nat) : Prop where
  du : Dig u
  dq : Dig qs
  eq : val u + 4294967296 ^ k * (val qs * V) = A
  lt : val u < 4294967296 ^ k * V
theorem long_part {A V k n : Nat} {pre part post qs : List Nat} (hl : pre.length = k) (hp : part.length = n + 1) (hV : V < 4294967296 ^ n) (h : LongInv A V (k + 1) (pre ++ (part ++ post)) qs) :
    val post = 0 ∧ val part < 4294967296 * V := by
  have h1 := h.lt
  have ek : (4294967296 : Nat) ^ (k + 1) = 4294967296 ^ k * 4294967296 := Nat.pow_succ _ _
  rw [val_append, val_append, hl, hp, ek] at h1
  have h2 : val part + 4294967296 ^ (n + 1) * val post < 4294967296 * V := by
    have : 4294967296 ^ k * (val part + 4294967296 ^ (n + 1) * val post) < 4294967296 ^ k * (4294967296 * V) := by
      rw [← Nat.mul_assoc]; omega
    exact Nat.lt_of_mul_lt_mul_left this
  refine ⟨?_, by omega⟩
  rcases Nat.eq_zero_or_pos (val post) with g | g
  · exact g
  · have h3 : 4294967296 ^ (n + 1) * 1 ≤ 4294967296 ^ (n + 1) * val post := Nat.mul_le_mul_left _ g
    rw [Nat.mul_one, Nat.pow_succ] at h3
    rw [Nat.pow_succ] at h2
    omega
theorem long_step {A V k n : Nat} {pre part post qs part' : List Nat} (hl : pre.length = k) (hp : part.length = n + 1) (hp' : part'.length = n + 1) (hV : V < 4294967296 ^ n) (hV0 : 0 < V) (h : LongInv A V (k + 1) (pre ++ (part ++ post)) qs)
    (d' : Dig part') (he : val part' = val part % V) : LongInv A V k (pre ++ (part' ++ post)) (val part / V :: qs) := by
  obtain ⟨h1, h2⟩ := long_part hl hp hV h
  have dpre : Dig pre := fun x hx => h.du x (List.mem_append_left _ hx)
  have dpost : Dig post := fun x hx => h.du x (List.mem_append_right _ (List.mem_append_right _ hx))
  refine ⟨dpre.append (d'.append dpost), Dig.cons ((Nat.div_lt_iff_lt_mul hV0).2 h2) h.dq, ?_, ?_⟩
  · have h3 := h.eq
    rw [val_append, val_append, h1, hl, Nat.mul_zero, Nat.add_zero, Nat.pow_succ] at h3
    rw [val_append, val_append, h1, hl, Nat.mul_zero, Nat.add_zero, he, val_cons, ← h3]
    have h4 := Nat.div_add_mod (val part) V
    conv => rhs; rw [← h4]
    generalize val part % V = m
    generalize val part / V = g
    generalize 4294967296 ^ k = P
    grind
  · rw [val_append, val_append, h1, hl, Nat.mul_zero, Nat.add_zero, he]
    have h3 := val_lt dpre
    rw [hl] at h3
    have h4 := Nat.mul_le_mul_left (4294967296 ^ k) (Nat.succ_le_of_lt (Nat.mod_lt (val part) hV0))
    have e : 4294967296 ^ k * (val part % V).succ = 4294967296 ^ k * (val part % V) + 4294967296 ^ k := by rw [Nat.succ_eq_add_one]; grind
    omega
theorem long_end {A V : Nat} {u qs : List Nat} (hV0 : 0 < V) (h : LongInv A V 0 u qs) : val qs = A / V ∧ val u = A % V := by
  have h1 := h.eq
  have h2 := h.lt
  rw [Nat.pow_zero, Nat.one_mul] at h1 h2
  refine quot_of hV0 h1.symm ?_
  rw [← Nat.lt_succ_iff, Nat.div_lt_iff_lt_mul hV0, ← h1, Nat.succ_eq_add_one]
  have : (val qs + 1) * V = val qs * V + V := by grind
  omega
end Go.Proofs.YtghgggaimijcaaaDoor
