/- Contract: root.Sign. | Steps: calls that give numbers. | Contracts: the sums and products of meet and etchantref07, for numbers that are small enough. | XRegion's rule in the body of a range over a function (a round's frame, at the wide fence). -/
import Derived.Test.YtighahcllmoajaaGreatJ18
import Derived.Test.YtighahcllmoajaaGreatJ05
import Derived.OrdersIn
import Derived.RangeFuncNested
import Derived.RangeFuncBound
import Derived.RangeFuncCalls
import Derived.RangeFuncLeaves
import Derived.OwnWalkIn
import Derived.TacticsInMore
import Derived.LoopNIn
import Derived.LoopIn
set_option linter.unusedVariables false
set_option linter.unusedSimpArgs false

namespace Go.Proofs.YtighahcllmoajaaGreat
open Go.RowKit

/-- A number that root.Sign takes. -/
def goodB (a : Nm) : Bool := a.right && decide (a.d.length ≤ 20)
def signP (a b c : Nm) : Int := if goodB a && (goodB b && goodB c) && !c.neg then sideZ a.z b.z c.z else 0

theorem natAbs_val (a : Nm) : a.z.natAbs = val a.d := by unfold Nm.z; split <;> omega
theorem small_one : small 1 = true := by
  unfold small
  rw [decide_eq_true_eq]
  exact Nat.one_lt_pow (by decide) (by decide)
theorem small_of_lt {z : Int} {k : Nat} (h : z.natAbs < 4294967296 ^ k) (hk : k ≤ 64) : small z = true := by
  unfold small
  rw [decide_eq_true_eq]
  exact Nat.lt_of_lt_of_le h (Nat.pow_le_pow_right (by decide) hk)
theorem good_lt {a : Nm} (hd : Dig a.d) (h : goodB a = true) : a.z.natAbs < 4294967296 ^ 20 := by
  simp only [goodB, Bool.and_eq_true, decide_eq_true_eq] at h
  rw [natAbs_val]
  exact Nat.lt_of_lt_of_le (val_lt hd) (Nat.pow_le_pow_right (by decide) h.2)
theorem mul_lt_pow {x y : Int} {m n : Nat} (hx : x.natAbs < 4294967296 ^ m) (hy : y.natAbs < 4294967296 ^ n) : (x * y).natAbs < 4294967296 ^ (m + n) := by
  rw [Int.natAbs_mul, Nat.pow_add]
  exact Nat.mul_lt_mul'' hx hy
theorem small_two {a b : Nm} {m n : Nat} (ha : a.z.natAbs < 4294967296 ^ m) (hb : b.z.natAbs < 4294967296 ^ n) (hk : m + n ≤ 64) : ∀ k, small (prodZ ([a, b].take k)) = true := by
  intro k
  match k with
  | 0 => exact small_one
  | 1 =>
    have e : prodZ ([a, b].take 1) = a.z := by simp [prodZ]
    rw [e]; exact small_of_lt ha (by omega)
  | k + 2 =>
    have e : prodZ ([a, b].take (k + 2)) = a.z * b.z := by simp [prodZ]
    rw [e]; exact small_of_lt (mul_lt_pow ha hb) hk
theorem small_three {a b c : Nm} {m n o : Nat} (ha : a.z.natAbs < 4294967296 ^ m) (hb : b.z.natAbs < 4294967296 ^ n) (hc : c.z.natAbs < 4294967296 ^ o) (hk : m + n + o ≤ 64) : ∀ k, small (prodZ ([a, b, c].take k)) = true := by
  intro k
  match k with
  | 0 => exact small_one
  | 1 =>
    have e : prodZ ([a, b, c].take 1) = a.z := by simp [prodZ]
    rw [e]; exact small_of_lt ha (by omega)
  | 2 =>
    have e : prodZ ([a, b, c].take 2) = a.z * b.z := by simp [prodZ]
    rw [e]; exact small_of_lt (mul_lt_pow ha hb) (by omega)
  | k + 3 =>
    have e : prodZ ([a, b, c].take (k + 3)) = a.z * b.z * c.z := by simp [prodZ]
    rw [e]; exact small_of_lt (mul_lt_pow (mul_lt_pow ha hb) hc) hk

/-- Numbers that lie one behind the other in a block, right or not. -/
def NRl (w : World) (b : Nat) (l : List Nm) : Prop :=
  b < w.heap.size ∧ ∀ i a, l[i]? = some a → ∃ n p li c, w.cell? ⟨b, i * 2, none⟩ = some (.bool n) ∧ w.cell? ⟨b, i * 2 + 1, none⟩ = some (.slice p li c) ∧ NR w n p li c a
theorem NRl.ext {w w' : World} {b : Nat} {l : List Nm} (h : NRl w b l) (hx : Ext w w') : NRl w' b l := by
  refine ⟨Nat.lt_of_lt_of_le h.1 hx.size, fun i a hi => ?_⟩
  obtain ⟨n, p, li, c, h1, h2, h3⟩ := h.2 i a hi
  exact ⟨n, p, li, c, by rw [hx.cell (p := ⟨b, i * 2, none⟩) h.1]; exact h1, by rw [hx.cell (p := ⟨b, i * 2 + 1, none⟩) h.1]; exact h2, h3.ext hx⟩
theorem NRl_three {W : World} {n1 n2 n3 : Bool} {p1 p2 p3 : Option Addr} {l1 c1 l2 c2 l3 c3 B : Nat} {a b c : Nm} (T : TypeId) (h1 : NR W n1 p1 l1 c1 a) (h2 : NR W n2 p2 l2 c2 b) (h3 : NR W n3 p3 l3 c3 c) (hB : B = W.heap.size) :
    NRl (W.alloc (.cells #[.bool n1, .slice p1 l1 c1, .bool n2, .slice p2 l2 c2, .bool n3, .slice p3 l3 c3] T)) B [a, b, c] := by
  subst hB
  have hh := heap_alloc_new W (.cells #[.bool n1, .slice p1 l1 c1, .bool n2, .slice p2 l2 c2, .bool n3, .slice p3 l3 c3] T)
  refine ⟨by simp, fun i x hi => ?_⟩
  match i, hi with
  | 0, hi =>
    simp only [List.getElem?_cons_zero, Option.some.injEq] at hi
    subst hi
    exact ⟨n1, p1, l1, c1, by rw [cell_of_row _ _ _ _ _ _ hh]; rfl, by rw [cell_of_row _ _ _ _ _ _ hh]; rfl, h1.alloc _⟩
  | 1, hi =>
    simp only [List.getElem?_cons_succ, List.getElem?_cons_zero, Option.some.injEq] at hi
    subst hi
    exact ⟨n2, p2, l2, c2, by rw [cell_of_row _ _ _ _ _ _ hh]; rfl, by rw [cell_of_row _ _ _ _ _ _ hh]; rfl, h2.alloc _⟩
  | 2, hi =>
    simp only [List.getElem?_cons_succ, List.getElem?_cons_zero, Option.some.injEq] at hi
    subst hi
    exact ⟨n3, p3, l3, c3, by rw [cell_of_row _ _ _ _ _ _ hh]; rfl, by rw [cell_of_row _ _ _ _ _ _ hh]; rfl, h3.alloc _⟩
  | i + 3, hi => simp at hi

theorem signP_bad {a b c : Nm} (k : Nat) (x : Nm) (hx : [a, b, c][k]? = some x) (h : goodB x = false) : signP a b c = 0 := by
  unfold signP
  match k, hx with
  | 0, hx => simp only [List.getElem?_cons_zero, Option.some.injEq] at hx; subst hx; simp [h]
  | 1, hx => simp only [List.getElem?_cons_succ, List.getElem?_cons_zero, Option.some.injEq] at hx; subst hx; simp [h]
  | 2, hx => simp only [List.getElem?_cons_succ, List.getElem?_cons_zero, Option.some.injEq] at hx; subst hx; simp [h]
  | k + 3, hx => simp at hx

set_option maxRecDepth 100000 in
set_option maxHeartbeats 2000000 in
theorem root_Sign (a b c : Nm) (na nb nc : Bool) (pa pb pc : Option Addr) (la ca lb cb lc cc : Nat) (w : World) (ha : NR w na pa la ca a) (hb : NR w nb pb lb cb b) (hc : NR w nc pc lc cc c) :
    Calls Tryz.prog 178 #[.agg #[.bool na, .slice pa la ca], .agg #[.bool nb, .slice pb lb cb], .agg #[.bool nc, .slice pc lc cc]] w fun e w' => e = .returned (.int .i64 (signP a b c)) ∧ Ext w w' := by
  have hmf : ∀ (fn : Fn) (first cap : Array Value) (w : World), (Instr.makeFunc fn first cap).run Tryz.prog w = .ok (.func fn first cap) w := fun _ _ _ _ => rfl
  go_enter Tryz.func178, Tryz.ntmps178
  go_wp2_with fail
  obtain ⟨w1, W1⟩ : ∃ w1, Hid ((((w.alloc (.cells #[.bool na, .slice pa la ca] 36)).alloc (.cells #[.bool nb, .slice pb lb cb] 36)).alloc (.cells #[.bool nc, .slice pc lc cc] 36)).alloc (.cells #[.bool na, .slice pa la ca, .bool nb, .slice pb lb cb, .bool nc, .slice pc lc cc] 36) = w1) := ⟨_, rfl⟩
  rw [W1.out]
  have NL : NRl w1 (w.heap.size + 3) [a, b, c] := by
    rw [← W1.out]
    exact NRl_three _ (ha.ext bxx) (hb.ext bxx) (hc.ext bxx) (by simp)
  have hx1 : Ext w w1 := by rw [← W1.out]; exact bxx
  have a0 : w1.cell? ⟨w.heap.size, 0, none⟩ = some (.bool na) := by rw [← W1.out]; go_simp
  have a1 : w1.cell? ⟨w.heap.size, 1, none⟩ = some (.slice pa la ca) := by rw [← W1.out]; go_simp
  have b0 : w1.cell? ⟨w.heap.size + 1, 0, none⟩ = some (.bool nb) := by rw [← W1.out]; go_simp
  have b1 : w1.cell? ⟨w.heap.size + 1, 1, none⟩ = some (.slice pb lb cb) := by rw [← W1.out]; go_simp
  have c0 : w1.cell? ⟨w.heap.size + 2, 0, none⟩ = some (.bool nc) := by rw [← W1.out]; go_simp
  have c1 : w1.cell? ⟨w.heap.size + 2, 1, none⟩ = some (.slice pc lc cc) := by rw [← W1.out]; go_simp
  have hz1 : w.heap.size + 4 ≤ w1.heap.size := by rw [← W1.out]; simp
  have HNL := Lib.hid NL
  have A0 := Lib.hid a0
  have A1 := Lib.hid a1
  have B0 := Lib.hid b0
  have B1 := Lib.hid b1
  have C0 := Lib.hid c0
  have C1 := Lib.hid c1
  clear NL a0 a1 b0 b1 c0 c1
  go_loopw [14] (fun i wr => ∃ k : Nat, k ≤ 3 ∧ i = .int .i64 (k : Int) ∧ (∀ j x, j < k → [a, b, c][j]? = some x → goodB x = true) ∧ Ext w1 wr) (fun i _ => 3 - (intOf i).toNat)
  case atStart => exact ⟨0, by omega, rfl, fun j x hj _ => absurd hj (Nat.not_lt_zero j), Below.refl _ _⟩
  case round =>
    obtain ⟨k, hk, rfl, hgood, hx⟩ := hrel
    have GOOD := Lib.hid hgood
    clear hgood
    have hx2 := Ext.step hx1 hx
    have hzr : w.heap.size + 4 ≤ wr.heap.size := Nat.le_trans hz1 hx.size
    by_cases hlt : k < 3
    · obtain ⟨x, XX⟩ : ∃ x, Hid ([a, b, c][k]? = some x) := ⟨[a, b, c][k], List.getElem?_eq_getElem hlt⟩
      obtain ⟨n, p, l, cp, e0, e1, hnx⟩ := (HNL.out.ext hx).2 k x XX.out
      have hlen := hnx.2.1
      have hlc := hnx.2.2.le
      have hcm := hnx.2.2.max
      have HLEN := Lib.hid hlen
      have hl64 : l ≤ 9223372036854775807 := by omega
      clear hlen
      by_cases rx : x.right = true
      · by_cases hl : l ≤ 20
        · have GX : Hid (goodB x = true) := by
            show goodB x = true
            unfold goodB
            rw [rx, ← HLEN.out]
            simpa using hl
          go_wp2_with fail
          refine (num_Right x _ _ _ _ _ (hnx.ext bxx)).mono ?_
          rintro e w2 ⟨rfl, hx3⟩
          rw [rx]
          have hx4 : Ext wr w2 := Ext.step bxx hx3
          have hx5 : Ext w1 w2 := Ext.step hx hx4
          have q1 : w2.cell? ⟨wr.heap.size, 1, none⟩ = some (.slice p l cp) := (hx3.cell (p := ⟨wr.heap.size, 1, none⟩) (by simp)).trans (by go_simp)
          go_wp2
          refine ⟨⟨k + 1, by omega, rfl, fun j y hj hy => ?_, hx5⟩, by simp [intOf]; omega⟩
          rcases Nat.lt_or_ge j k with h | h
          · exact GOOD.out j y h hy
          · obtain rfl : j = k := by omega
            rw [XX.out] at hy
            cases hy
            exact GX.out
        · have GX : Hid (signP a b c = 0) := by
            refine signP_bad k x XX.out ?_
            unfold goodB
            rw [rx, ← HLEN.out]
            simpa using hl
          go_wp2_with fail
          refine (num_Right x _ _ _ _ _ (hnx.ext bxx)).mono ?_
          rintro e w2 ⟨rfl, hx3⟩
          rw [rx]
          have hx4 : Ext wr w2 := Ext.step bxx hx3
          have hx5 : Ext w w2 := Ext.step hx2 hx4
          have q1 : w2.cell? ⟨wr.heap.size, 1, none⟩ = some (.slice p l cp) := (hx3.cell (p := ⟨wr.heap.size, 1, none⟩) (by simp)).trans (by go_simp)
          go_wp2
          go_ret
          exact ⟨by rw [GX.out]; rfl, hx5⟩
      · have rx : x.right = false := by simpa using rx
        have GX : Hid (signP a b c = 0) := by
          refine signP_bad k x XX.out ?_
          unfold goodB
          rw [rx]
          rfl
        go_wp2_with fail
        refine (num_Right x _ _ _ _ _ (hnx.ext bxx)).mono ?_
        rintro e w2 ⟨rfl, hx3⟩
        rw [rx]
        have hx4 : Ext wr w2 := Ext.step bxx hx3
        have hx5 : Ext w w2 := Ext.step hx2 hx4
        go_wp2
        go_ret
        exact ⟨by rw [GX.out]; rfl, hx5⟩
    · obtain rfl : k = 3 := by omega
      have ga : goodB a = true := GOOD.out 0 a (by omega) rfl
      have gb : goodB b = true := GOOD.out 1 b (by omega) rfl
      have gc : goodB c = true := GOOD.out 2 c (by omega) rfl
      have hc0 : wr.cell? ⟨w.heap.size + 2, 0, none⟩ = some (.bool nc) := (hx.cell (p := ⟨w.heap.size + 2, 0, none⟩) (show w.heap.size + 2 < w1.heap.size by omega)).trans C0.out
      cases hneg : c.neg with
      | true =>
        have S : Hid (signP a b c = 0) := by
          show signP a b c = 0
          simp [signP, hneg]
        have hnc : nc = true := hc.1.trans hneg
        subst hnc
        clear hneg
        go_wp2
        go_ret
        exact ⟨by rw [S.out]; rfl, hx2⟩
      | false =>
        have S : Hid (signP a b c = sideZ a.z b.z c.z) := by
          show signP a b c = _
          simp [signP, hneg, ga, gb, gc]
        have hnc : nc = false := hc.1.trans hneg
        subst hnc
        have ra : a.right = true := by simp only [goodB, Bool.and_eq_true] at ga; exact ga.1
        have rb : b.right = true := by simp only [goodB, Bool.and_eq_true] at gb; exact gb.1
        have rc : c.right = true := by simp only [goodB, Bool.and_eq_true] at gc; exact gc.1
        have s1 := Lib.hid (small_two (good_lt ha.2.2.dig ga) (good_lt ha.2.2.dig ga) (by omega))
        have s2 := Lib.hid (small_three (good_lt hb.2.2.dig gb) (good_lt hb.2.2.dig gb) (good_lt hc.2.2.dig gc) (by omega))
        clear hneg ga gb gc
        go_wp2_with fail
        refine (root_guarded_sign a b c _ _ _ _ _ _ _ _ _ _ _ _ _ _ _ _ (ha.ext hx2) (hb.ext hx2) (hc.ext hx2) ra rb rc s1.out s2.out ((hx.cell (p := ⟨w.heap.size, 0, none⟩) (show w.heap.size < w1.heap.size by omega)).trans A0.out) ((hx.cell (p := ⟨w.heap.size, 1, none⟩) (show w.heap.size < w1.heap.size by omega)).trans A1.out) ((hx.cell (p := ⟨w.heap.size + 1, 0, none⟩) (show w.heap.size + 1 < w1.heap.size by omega)).trans B0.out) ((hx.cell (p := ⟨w.heap.size + 1, 1, none⟩) (show w.heap.size + 1 < w1.heap.size by omega)).trans B1.out) hc0 ((hx.cell (p := ⟨w.heap.size + 2, 1, none⟩) (show w.heap.size + 2 < w1.heap.size by omega)).trans C1.out)).mono ?_
        rintro e w2 ⟨rfl, hx3⟩
        have hx5 : Ext w w2 := Ext.step hx2 hx3
        go_wp2
        go_ret
        exact ⟨by rw [S.out]; rfl, hx5⟩
end Go.Proofs.YtighahcllmoajaaGreat

namespace Go.Proofs.YtighahcllmoajaaGreat
open Go.RowKit

/-- The value is the number x, in new memory. -/
def IsN (w0 W : World) (x : Nm) (v : Value) (w' : World) : Prop := ∃ n p l c, v = .agg #[.bool n, .slice p l c] ∧ NR w' n p l c x ∧ New w0 p ∧ Ext W w'
theorem RetN.isN {w0 W : World} {x : Nm} {e : Ending} {w' : World} (hz : w0.heap.size ≤ W.heap.size) (h : RetN W x e w') : ∃ v, e = .returned v ∧ IsN w0 W x v w' := by
  obtain ⟨n, p, l, c, rfl, h1, h2, h3⟩ := h
  exact ⟨_, rfl, n, p, l, c, rfl, h1, h2.mono hz, h3⟩
/-- A call that gives a number. -/
theorem F_num {P : Program} {ops : Array Oper} {S : World → Prop} {Q : Act → World → Prop} {o : Oper} {l : List Oper} {a : Act} {own : List Nat} {F : World → Prop} (w0 : World) (x : Nm) (hk : fkind o = 2) (hw : Region.wanted o (yielded ops a.tmps) = true)
    (hg : ∀ w, F w → Gives P o a w (IsN w0 w x))
    (h : ∀ n p l' c, New w0 p → WpF P ops S Q l (a.put o.dst (.agg #[.bool n, .slice p l' c])) own (fun w => F w ∧ NR w n p l' c x)) : WpF P ops S Q (o :: l) a own F :=
  F_callN w0 x hk hw hg h
section
variable {P : Program} {ops : Array Oper} {S : World → Prop} {Q : Act → World → Prop} {o : Oper} {l : List Oper} {a : Act} {own : List Nat} {F : World → Prop}
/-- A call that gives a number. -/
theorem F_n (b : World) (x : Nm) {f : FuncId} {args : Array Value} {a' : Bool → Option Addr → Nat → Nat → Act} (hc : ∀ W, F W → Calls P f args W (RetN W x))
    (h : ∀ n p l' c, New b p → WpF P ops S Q l (a' n p l' c) own (fun w => F w ∧ NR w n p l' c x))
    (hk : fkind o = 2 := by rfl) (hw : Region.wanted o (yielded ops a.tmps) = true := by rfl) (hx : ∀ W, (execOp a.eval o).run P W = .ok (.enter f args) W := by (intro W; go_simp; try with_reducible rfl))
    (hz : ∀ W, F W → b.heap.size ≤ W.heap.size := by (intro W hzz; (try dsimp only at hzz); (repeat (first | exact hzz.size | exact hzz.1.size | replace hzz := hzz.1))))
    (ha : ∀ n p l' c, a.put o.dst (.agg #[.bool n, .slice p l' c]) = a' n p l' c := by (intro n p l' c; simp only [Act.put, List.setIfInBounds_toArray, List.set_cons_zero, List.set_cons_succ]; rfl)) : WpF P ops S Q (o :: l) a own F := by
  refine F_num b x hk hw (fun W hf => gives_enter (hx W) ((hc W hf).mono fun e w' h => RetN.isN (hz W hf) h)) (fun n p l' c hn => ?_)
  rw [ha]
  exact h n p l' c hn
end
end Go.Proofs.YtighahcllmoajaaGreat

namespace Go.Proofs.YtighahcllmoajaaGreat
open Go.RowKit
attribute [local go_sem] Gives givesU

theorem subP_small {x y : Int} (hx : small x = true) (hy : small y = true) (hs : small (x - y) = true) : subP (ofZ x) (ofZ y) = (ofZ (x - y), true) := by
  unfold subP fit
  rw [ofZ_right hx, ofZ_right hy, ofZ_z, ofZ_z, hs]
  rfl
theorem mulP_small' {x y : Int} (hx : small x = true) (hy : small y = true) (hs : small (x * y) = true) : mulP (ofZ x) (ofZ y) = (ofZ (x * y), true) :=
  mulP_small (ofZ_right hx) (ofZ_right hy) (by rw [ofZ_z, ofZ_z]) hs

set_option maxRecDepth 100000 in
set_option maxHeartbeats 1000000 in
theorem meet_of (n : Int) (w : World) (h : -9223372036854775808 ≤ n ∧ n ≤ 9223372036854775807) :
    Calls Tryz.prog 142 #[.int .i64 n] w (RetN w (ofZ n)) := by
  go_enter Tryz.func142, Tryz.ntmps142
  go_wp2_with fail
  refine (num_Of n _ h.1 h.2).mono ?_
  rintro e w1 ⟨n1, p1, l1, c1, rfl, hnr, hnew, hx⟩
  have hx0 : Ext w w1 := Ext.step bxx hx
  have hz_w1 : w.heap.size + 1 ≤ w1.heap.size := Nat.le_trans omm hx.size
  obtain ⟨hl_w1_0, hk_w1_0, hf_w1_0⟩ := extK hx (w.heap.size)
  go_wp2_with fail
  refine bodyPost_ret (v := .agg #[.bool n1, .slice p1 l1 c1]) (by simp [results, Tryz.results142, go_sem, *]) rfl ?_
  exact ⟨n1, p1, l1, c1, rfl, (by repeat (first | assumption | refine NR.set ?_ (by assumption) _ (by first | (simp; done) | (simp; omega) | omega) _ | refine NR.alloc ?_ _)), hnew.mono (by simp), bxx⟩
set_option maxRecDepth 100000 in
set_option maxHeartbeats 1000000 in
theorem meet_mul (x y : Int) (na nb : Bool) (pa pb : Option Addr) (la ca lb cb : Nat) (w : World) (ha : NR w na pa la ca (ofZ x)) (hb : NR w nb pb lb cb (ofZ y)) (hx : small x = true) (hy : small y = true) (z : Int) (hz : x * y = z) (hs : small z = true) :
    Calls Tryz.prog 144 #[.agg #[.bool na, .slice pa la ca], .agg #[.bool nb, .slice pb lb cb]] w (RetN w (ofZ z)) := by
  subst hz
  have MP := Lib.hid (mulP_small' hx hy hs)
  clear hx hy hs
  go_enter Tryz.func144, Tryz.ntmps144
  go_wp2_with fail
  refine (num_Mul (ofZ x) (ofZ y) _ _ _ _ _ _ _ _ _ (ha.ext bxx) (hb.ext bxx)).mono ?_
  rintro e w1 ⟨n1, p1, l1, c1, rfl, hnr, hnew, hx⟩
  rw [MP.out] at hnr ⊢
  have hx0 : Ext w w1 := Ext.step bxx hx
  have hz_w1 : w.heap.size + 3 ≤ w1.heap.size := Nat.le_trans omm hx.size
  obtain ⟨hl_w1_0, hk_w1_0, hf_w1_0⟩ := extK hx (w.heap.size)
  obtain ⟨hl_w1_1, hk_w1_1, hf_w1_1⟩ := extK hx (w.heap.size + 1)
  obtain ⟨hl_w1_2, hk_w1_2, hf_w1_2⟩ := extK hx (w.heap.size + 2)
  go_wp2_with fail
  refine bodyPost_ret (v := .agg #[.bool n1, .slice p1 l1 c1]) (by simp [results, Tryz.results144, go_sem, *]) rfl ?_
  exact ⟨n1, p1, l1, c1, rfl, (by repeat (first | assumption | refine NR.set ?_ (by assumption) _ (by first | (simp; done) | (simp; omega) | omega) _ | refine NR.alloc ?_ _)), hnew.mono (by simp; omega), bxx⟩
set_option maxRecDepth 100000 in
set_option maxHeartbeats 1000000 in
theorem meet_sub (x y : Int) (na nb : Bool) (pa pb : Option Addr) (la ca lb cb : Nat) (w : World) (ha : NR w na pa la ca (ofZ x)) (hb : NR w nb pb lb cb (ofZ y)) (hx : small x = true) (hy : small y = true) (z : Int) (hz : x - y = z) (hs : small z = true) :
    Calls Tryz.prog 143 #[.agg #[.bool na, .slice pa la ca], .agg #[.bool nb, .slice pb lb cb]] w (RetN w (ofZ z)) := by
  subst hz
  have MP := Lib.hid (subP_small hx hy hs)
  clear hx hy hs
  go_enter Tryz.func143, Tryz.ntmps143
  go_wp2_with fail
  refine (num_Sub (ofZ x) (ofZ y) _ _ _ _ _ _ _ _ _ (ha.ext bxx) (hb.ext bxx)).mono ?_
  rintro e w1 ⟨n1, p1, l1, c1, rfl, hnr, hnew, hx⟩
  rw [MP.out] at hnr ⊢
  have hx0 : Ext w w1 := Ext.step bxx hx
  have hz_w1 : w.heap.size + 3 ≤ w1.heap.size := Nat.le_trans omm hx.size
  obtain ⟨hl_w1_0, hk_w1_0, hf_w1_0⟩ := extK hx (w.heap.size)
  obtain ⟨hl_w1_1, hk_w1_1, hf_w1_1⟩ := extK hx (w.heap.size + 1)
  obtain ⟨hl_w1_2, hk_w1_2, hf_w1_2⟩ := extK hx (w.heap.size + 2)
  go_wp2_with fail
  refine bodyPost_ret (v := .agg #[.bool n1, .slice p1 l1 c1]) (by simp [results, Tryz.results143, go_sem, *]) rfl ?_
  exact ⟨n1, p1, l1, c1, rfl, (by repeat (first | assumption | refine NR.set ?_ (by assumption) _ (by first | (simp; done) | (simp; omega) | omega) _ | refine NR.alloc ?_ _)), hnew.mono (by simp; omega), bxx⟩
set_option maxRecDepth 100000 in
set_option maxHeartbeats 1000000 in
theorem r07_of (n : Int) (w : World) (h : -9223372036854775808 ≤ n ∧ n ≤ 9223372036854775807) :
    Calls Tryz.prog 170 #[.int .i64 n] w (RetN w (ofZ n)) := by
  go_enter Tryz.func170, Tryz.ntmps170
  go_wp2_with fail
  refine (r01_Of n _ h.1 h.2).mono ?_
  rintro e w1 ⟨n1, p1, l1, c1, rfl, hnr, hnew, hx⟩
  have hx0 : Ext w w1 := Ext.step bxx hx
  have hz_w1 : w.heap.size + 1 ≤ w1.heap.size := Nat.le_trans omm hx.size
  obtain ⟨hl_w1_0, hk_w1_0, hf_w1_0⟩ := extK hx (w.heap.size)
  go_wp2_with fail
  refine bodyPost_ret (v := .agg #[.bool n1, .slice p1 l1 c1]) (by simp [results, Tryz.results170, go_sem, *]) rfl ?_
  exact ⟨n1, p1, l1, c1, rfl, (by repeat (first | assumption | refine NR.set ?_ (by assumption) _ (by first | (simp; done) | (simp; omega) | omega) _ | refine NR.alloc ?_ _)), hnew.mono (by simp), bxx⟩
set_option maxRecDepth 100000 in
set_option maxHeartbeats 1000000 in
theorem r07_mul (x y : Int) (na nb : Bool) (pa pb : Option Addr) (la ca lb cb : Nat) (w : World) (ha : NR w na pa la ca (ofZ x)) (hb : NR w nb pb lb cb (ofZ y)) (hx : small x = true) (hy : small y = true) (z : Int) (hz : x * y = z) (hs : small z = true) :
    Calls Tryz.prog 171 #[.agg #[.bool na, .slice pa la ca], .agg #[.bool nb, .slice pb lb cb]] w (RetN w (ofZ z)) := by
  subst hz
  have MP := Lib.hid (mulP_small' hx hy hs)
  clear hx hy hs
  go_enter Tryz.func171, Tryz.ntmps171
  go_wp2_with fail
  refine (r01_Mul (ofZ x) (ofZ y) _ _ _ _ _ _ _ _ _ (ha.ext bxx) (hb.ext bxx)).mono ?_
  rintro e w1 ⟨n1, p1, l1, c1, rfl, hnr, hnew, hx⟩
  rw [MP.out] at hnr ⊢
  have hx0 : Ext w w1 := Ext.step bxx hx
  have hz_w1 : w.heap.size + 3 ≤ w1.heap.size := Nat.le_trans omm hx.size
  obtain ⟨hl_w1_0, hk_w1_0, hf_w1_0⟩ := extK hx (w.heap.size)
  obtain ⟨hl_w1_1, hk_w1_1, hf_w1_1⟩ := extK hx (w.heap.size + 1)
  obtain ⟨hl_w1_2, hk_w1_2, hf_w1_2⟩ := extK hx (w.heap.size + 2)
  go_wp2_with fail
  refine bodyPost_ret (v := .agg #[.bool n1, .slice p1 l1 c1]) (by simp [results, Tryz.results171, go_sem, *]) rfl ?_
  exact ⟨n1, p1, l1, c1, rfl, (by repeat (first | assumption | refine NR.set ?_ (by assumption) _ (by first | (simp; done) | (simp; omega) | omega) _ | refine NR.alloc ?_ _)), hnew.mono (by simp; omega), bxx⟩
set_option maxRecDepth 100000 in
set_option maxHeartbeats 1000000 in
theorem r07_sub (x y : Int) (na nb : Bool) (pa pb : Option Addr) (la ca lb cb : Nat) (w : World) (ha : NR w na pa la ca (ofZ x)) (hb : NR w nb pb lb cb (ofZ y)) (hx : small x = true) (hy : small y = true) (z : Int) (hz : x - y = z) (hs : small z = true) :
    Calls Tryz.prog 172 #[.agg #[.bool na, .slice pa la ca], .agg #[.bool nb, .slice pb lb cb]] w (RetN w (ofZ z)) := by
  subst hz
  have MP := Lib.hid (subP_small hx hy hs)
  clear hx hy hs
  go_enter Tryz.func172, Tryz.ntmps172
  go_wp2_with fail
  refine (r01_Sub (ofZ x) (ofZ y) _ _ _ _ _ _ _ _ _ (ha.ext bxx) (hb.ext bxx)).mono ?_
  rintro e w1 ⟨n1, p1, l1, c1, rfl, hnr, hnew, hx⟩
  rw [MP.out] at hnr ⊢
  have hx0 : Ext w w1 := Ext.step bxx hx
  have hz_w1 : w.heap.size + 3 ≤ w1.heap.size := Nat.le_trans omm hx.size
  obtain ⟨hl_w1_0, hk_w1_0, hf_w1_0⟩ := extK hx (w.heap.size)
  obtain ⟨hl_w1_1, hk_w1_1, hf_w1_1⟩ := extK hx (w.heap.size + 1)
  obtain ⟨hl_w1_2, hk_w1_2, hf_w1_2⟩ := extK hx (w.heap.size + 2)
  go_wp2_with fail
  refine bodyPost_ret (v := .agg #[.bool n1, .slice p1 l1 c1]) (by simp [results, Tryz.results172, go_sem, *]) rfl ?_
  exact ⟨n1, p1, l1, c1, rfl, (by repeat (first | assumption | refine NR.set ?_ (by assumption) _ (by first | (simp; done) | (simp; omega) | omega) _ | refine NR.alloc ?_ _)), hnew.mono (by simp; omega), bxx⟩

set_option maxRecDepth 100000 in
set_option maxHeartbeats 2000000 in
theorem meet_minus (x : Int) (na : Bool) (pa : Option Addr) (la ca : Nat) (w : World) (ha : NR w na pa la ca (ofZ x)) (hx : small x = true) (z : Int) (hz : 0 - x = z) (hs : small z = true) :
    Calls Tryz.prog 145 #[.agg #[.bool na, .slice pa la ca]] w (RetN w (ofZ z)) := by
  have HZ := Lib.hid hz
  clear hz
  have H0 : Hid (small 0 = true) := by show small 0 = true; decide
  go_enter Tryz.func145, Tryz.ntmps145
  go_wp2_with fail
  refine wp_GR (w.heap.size + 1) (.cells #[.bool false, .slice none 0 0] 36) (fun W => Ext w W ∧ w.heap.size + 1 + 1 ≤ W.heap.size ∧ W.cell? ⟨w.heap.size, 0, none⟩ = some (.bool na) ∧ W.cell? ⟨w.heap.size, 1, none⟩ = some (.slice pa la ca)) ?_
  intro hSM hRKS
  refine F_num w (ofZ 0) (by rfl) (by rfl) (by intro W hW; (try dsimp only at hW); have hwW := (show w.heap.size ≤ W.heap.size by have hzz := hW; (repeat (first | exact hzz.size | exact hzz.1.size | replace hzz := hzz.1))); go_simp; exact (meet_of 0 _ (by omega)).mono fun _ _ h => RetN.isN hwW h) ?_; intro n1 p1 l1 c1 hn1; refine F_put ?_
  repeat (first | refine F_s ?_ | refine F_r ?_)
  refine F_num w (ofZ z) (by rfl) (by rfl) (by intro W hW; (try dsimp only at hW); have hwW := (show w.heap.size ≤ W.heap.size by have hzz := hW; (repeat (first | exact hzz.size | exact hzz.1.size | replace hzz := hzz.1))); go_simp; exact (meet_sub 0 x _ _ _ _ _ _ _ _ _ hW.2 (ha.ext hW.1.1.1) H0.out hx z HZ.out hs).mono fun _ _ h => RetN.isN hwW h) ?_; intro n2 p2 l2 c2 hn2; refine F_put ?_
  refine F_w (fun W => _ ∧ NR W n2 p2 l2 c2 (ofZ z)) (fun W hW => ⟨⟨hW.1.1.1, hW.2⟩, hW.1.1.2⟩) ?_
  repeat (first | refine F_s ?_ | refine F_r ?_)
  rintro W ⟨⟨⟨⟨hx, hz, hc⟩, hn⟩, hb⟩, _⟩
  obtain ⟨c0, c1, _, hl⟩ := pt_block hb
  clear hc hb
  go_wp2
  refine bodyPost_ret (v := .agg #[.bool n2, .slice p2 l2 c2]) (by simp [results, Tryz.results145, go_sem, *]) rfl ?_
  exact ⟨n2, p2, l2, c2, rfl, hn, hn2, hx⟩
end Go.Proofs.YtighahcllmoajaaGreat

namespace Go.Proofs.YtighahcllmoajaaGreat
open Go.RowKit

def noDeferB (ops : Array Oper) : Bool := ops.toList.all fun o => match o.op with | .defer _ => false | _ => true
section
variable {P : Program} {ops : Array Oper} {S : World → Prop}
theorem noDefer_spec (h : noDeferB ops = true) {i : Nat} {o : Oper} (ho : ops[i]? = some o) : ∀ c, o.op ≠ .defer c := by
  intro c e
  have hm : o ∈ ops.toList := by
    obtain ⟨hlt, rfl⟩ := Array.getElem?_eq_some_iff.1 ho
    simp
  have := List.all_eq_true.1 h o hm
  simp [e] at this
theorem Gives.wpIn {o : Oper} {a : Act} {w : World} {R : Value → World → Prop} {K : Act → World → Prop} {Q : Exit → Act → World → Prop} {r m : Nat}
    (h : Gives P o a w R) (hnd : ∀ c, o.op ≠ .defer c) (hk : ∀ v w', R v w' → K (a.put o.dst v) w') : o.wpIn (Fence.wide.inRound r) m P a w K Q := by
  refine ⟨fun _ _ => trivial, ?_⟩
  rw [Oper.semAt_eq _ _ _ hnd]
  unfold Gives at h
  generalize (execOp a.eval o).run P w = x at *
  cases x with
  | ok n w' =>
    cases n <;> simp only [givesU] at h <;> simp only [Oper.uponIn]
    case value u => exact hk _ _ h
    case skip => exact hk _ _ h
    case enter f args =>
      refine ⟨fun hd => by simp [Fence.wide] at hd, ?_⟩
      exact (CallsIn.inRound r (callsIn_wide.2 h)).mono fun e w'' ⟨v, he, hr⟩ => by subst he; exact hk _ _ hr
  | halt x w' => simp only [givesU] at h
theorem wpAnyIn_of_F {Q : Exit → Act → World → Prop} {r m : Nat} (hB : floatB ops = true) (hD : noDeferB ops = true) : ∀ (n : Nat) (zs : List (Nat × Oper)) (listed : Array Bool) (a : Act) (own : List Nat) (F : World → Prop) (w : World), zs.length = n → LeftF ops listed zs → Closed ops listed →
    InvF S own F → F w → WpF P ops S (fun a w => Q .normal a w) (zs.map (·.2)) a own F → wpAnyIn (Fence.wide.inRound r) m P .any ops Q n listed a w := by
  have hB' := hB
  simp only [floatB, Bool.and_eq_true, List.all_eq_true, List.mem_range, decide_eq_true_eq] at hB'
  obtain ⟨hsel, hall⟩ := hB'
  intro n
  induction n with
  | zero =>
    intro zs listed a own F w hn hl hc hi hw h
    have : zs = [] := List.eq_nil_of_length_eq_zero hn
    subst this
    refine ⟨?_, h w hw⟩
    rw [List.eq_nil_iff_forall_not_mem]
    intro i hr
    have h1 := mem_ready.1 hr
    obtain ⟨hu, o, ho, _⟩ := h1
    have := (hl.mem i (Array.getElem?_eq_some_iff.1 ho).1).1 hu
    simp at this
  | succ n ih =>
    intro zs listed a own F w hn hl hc hi hw h
    have hget (i : Nat) (hlt : i < ops.size) (hu : ¬ listed.getD i true = false) : listed.getD i false = true := by
      have hlt' : i < listed.size := by rw [hl.size]; exact hlt
      simp [hlt'] at hu ⊢
      exact hu
    refine ⟨fun h0 => ?_, fun i hr => ?_⟩
    · exfalso
      obtain ⟨⟨i, o⟩, rest, rfl⟩ : ∃ z rest, zs = z :: rest := by
        cases zs with
        | nil => simp at hn
        | cons z rest => exact ⟨z, rest, rfl⟩
      have ho := hl.here (i, o) (by simp)
      have hlt : i < ops.size := (Array.getElem?_eq_some_iff.1 ho).1
      have hr : i ∈ Region.ready .any ops listed := by
        refine mem_ready.2 ⟨(hl.mem i hlt).2 (by simp), o, ho, fun e he hb => ?_⟩
        have hd : e.on ∈ depsOf ops i := (mem_depsOf ho).2 ⟨e, he, hb, rfl⟩
        have hei := (hall i hlt).1 _ hd
        refine hget _ (by omega) fun hu => ?_
        have hm := (hl.mem e.on (by omega)).1 hu
        simp only [List.map_cons, List.mem_cons] at hm
        rcases hm with hm | hm
        · omega
        · obtain ⟨p, hp, he'⟩ := List.mem_map.1 hm
          have := (List.pairwise_cons.1 hl.sorted).1 p hp
          simp at this
          omega
      rw [h0] at hr
      cases hr
    · obtain ⟨hu, o, ho, _⟩ := mem_ready.1 hr
      have hlt : i < ops.size := (Array.getElem?_eq_some_iff.1 ho).1
      have hm := (hl.mem i hlt).1 hu
      obtain ⟨⟨i', o'⟩, hp, hei⟩ := List.mem_map.1 hm
      simp only at hei
      subst hei
      have ho' := hl.here _ hp
      simp only at ho'
      rw [ho] at ho'
      simp only [Option.some.injEq] at ho'
      subst ho'
      obtain ⟨pre, post, rfl⟩ := List.append_of_mem hp
      have hpre : ∀ k ∈ pre.map (·.2), Apart ops k o ∧ Before k o := by
        intro k hk
        obtain ⟨⟨j, k'⟩, hj, rfl⟩ := List.mem_map.1 hk
        have hji : j < i' := ((List.pairwise_append.1 hl.sorted).2.2) _ hj (i', o) (List.mem_cons_self ..)
        have hjk := hl.here (j, k') (by simp [hj])
        simp only at hjk
        have hju : listed.getD j true = false := (hl.mem j (by omega)).2 (by simp only [List.map_append, List.mem_append, List.mem_map]; exact .inl ⟨_, hj, rfl⟩)
        have hno (f : Nat) : reach ops f i' j = false := by
          cases hx : reach ops f i' j with
          | false => rfl
          | true =>
            have h1 := reach_listed hc f i' j (ready_deps hr) hx
            have hlt' : j < listed.size := by rw [hl.size]; omega
            simp [hlt'] at h1 hju
            rw [h1] at hju
            cases hju
        have hpair := (hall i' hlt).2 j hji
        simp only [pairB, ho, hjk, hno, Bool.or_false, Bool.false_or, Bool.and_eq_true] at hpair
        obtain ⟨hbe, hap⟩ := hpair
        obtain ⟨a1, a2, a3⟩ := Oper.apart_spec hap
        refine ⟨⟨a1, a3, a2, fun cs b => Region.noSelect_spec hsel j k' cs b hjk, fun cs b => Region.noSelect_spec hsel i' o cs b ho⟩, ?_⟩
        simp only [beforeB, Bool.or_eq_true, beq_iff_eq, Bool.and_eq_true, bne_iff_ne] at hbe
        rcases hbe with (hbe | hbe) | hbe
        · exact .inl hbe
        · exact .inr (.inl hbe)
        · exact .inr (.inr hbe)
      have hst := pull (post := post.map (·.2)) hpre hi (by simpa using h)
      have hlen : (pre ++ post).length = n := by simp at hn ⊢; omega
      have next {a' : Act} {own' : List Nat} {F' : World → Prop} {w' : World} (hi' : InvF S own' F') (hw' : F' w') (h' : WpF P ops S (fun a w => Q .normal a w) (pre.map (·.2) ++ post.map (·.2)) a' own' F') : wpAnyIn (Fence.wide.inRound r) m P .any ops Q n (listed.setIfInBounds i' true) a' w' :=
        ih (pre ++ post) _ a' own' F' w' hlen hl.take (hc.set hr) hi' hw' (by simpa using h')
      have hnd : ∀ c, o.op ≠ .defer c := noDefer_spec hD ho
      cases hst with
      | pure v hy h =>
        unfold wpOpIn
        simp only [ho]
        rcases hy with ⟨hwant, hv⟩ | ⟨hwant, rfl⟩
        · rw [if_pos hwant]
          refine ⟨fun _ _ => trivial, ?_⟩
          rw [Oper.semAt_eq _ _ _ hnd, hv w (hi.held w hw)]
          exact next hi hw h
        · rw [if_neg (by rw [hwant]; exact Bool.false_ne_true)]
          exact ⟨fun _ _ => trivial, next hi hw h⟩
      | flo hk hwant obj hrun h =>
        unfold wpOpIn
        simp only [ho, hwant, if_true]
        refine ⟨fun _ _ => trivial, ?_⟩
        rw [Oper.semAt_eq _ _ _ hnd, hrun w (hi.held w hw)]
        have hs : ∃ w' : World, F w' ∧ w'.heap[w.heap.size]? = some obj := ⟨{ w with heap := w.heap.push obj }, hi.mono _ _ hw (below_push w obj), by simp⟩
        exact next (hi.flo obj _ hs) ⟨hi.mono _ _ hw (below_push w obj), by simp⟩ (h _ (fun hx => Nat.lt_irrefl _ (hi.own w hw _ hx)) hs)
      | eff hk hwant I sh T hm' hg h =>
        unfold wpOpIn
        simp only [ho, hwant, if_true]
        refine (hg w hw).wpIn hnd ?_
        rintro v w' ⟨t, rfl, hb, ht⟩
        have hs : ∃ w, F w ∧ T t w := ⟨w', hi.mono _ _ hw hb, ht⟩
        exact next (hi.eff (hm' t) hs) ⟨hi.mono _ _ hw hb, ht⟩ (h t hs)
      | sto hk hwant I sh T hm' hs hg h =>
        unfold wpOpIn
        simp only [ho, hwant, if_true]
        refine (hg w hw).wpIn hnd ?_
        rintro v w' ⟨t, rfl, hb, ht⟩
        have hx : T t w' ∧ ∀ g ∈ own, g < w'.heap.size := ⟨ht, fun g hg => Nat.lt_of_lt_of_le (hi.own w hw g hg) hb⟩
        exact next (InvF.sto (hm' t) (hs t) ⟨w', hx⟩) hx (h t ⟨w', hx⟩)
      | mu hk hwant B hB I sh T hm' hs hg h =>
        unfold wpOpIn
        simp only [ho, hwant, if_true]
        refine (hg w hw).wpIn hnd ?_
        rintro v w' ⟨t, rfl, hb, ht⟩
        have hx : T t w' ∧ ∀ g ∈ own, g < w'.heap.size := ⟨ht, fun g hg => Nat.lt_of_lt_of_le (hi.own w hw g hg) hb.1⟩
        exact next (InvF.sto (hm' t) (hs t) ⟨w', hx⟩) hx (h t ⟨w', hx⟩)
end

theorem wpIn_region_FC {P : Program} {id r m : Nat} {l : List Oper} {Q : Exit → Act → World → Prop} {a : Act} {w : World} (C : World → Prop) (hm : P.follows .mixedOrders = true) (hB : floatB l.toArray = true) (hD : noDeferB l.toArray = true) (hC : C w)
    (hmono : ∀ W W', C W → Below w.heap.size w W → Below W.heap.size W W' → C W')
    (h : WpF P l.toArray (fun W => Below w.heap.size w W ∧ C W) (fun a w => Q .normal a w) l a (List.range w.heap.size) (fun W => Below w.heap.size w W ∧ C W)) : (Code.region id l.toArray true).wpIn (Fence.wide.inRound r) m P Q a w := by
  refine wpIn_region_any hm ?_
  have hd : Below w.heap.size w { w with drawn := w.drawn + 1 } := ⟨rfl, rfl, rfl, Nat.le_refl _, fun _ _ => rfl⟩
  have hmono' : FMono (fun W => Below w.heap.size w W ∧ C W) := fun W W' h hb => ⟨h.1.trans (hb.mono h.1.size), hmono W W' h.2 h.1 hb⟩
  have hlen : (l.zipIdx.map fun p => (p.2, p.1)).length = l.toArray.size := by simp
  have hw0 := hmono' w _ ⟨Below.refl _ _, hC⟩ hd
  refine wpAnyIn_of_F (S := fun W => Below w.heap.size w W ∧ C W) hB hD _ (l.zipIdx.map fun p => (p.2, p.1)) _ a (List.range w.heap.size) _ _ hlen ⟨by simp, ?_, ?_, ?_⟩ ?_ ⟨hmono', fun _ h => h, fun W h g hg => Nat.lt_of_lt_of_le (List.mem_range.1 hg) h.1.size, ⟨_, hw0⟩⟩ hw0 ?_
  · intro p hp
    obtain ⟨⟨o, i⟩, hx, rfl⟩ := List.mem_map.1 hp
    have := List.mem_zipIdx' hx
    simp [this.1, this.2]
  · intro i hi
    have hi' : i < l.length := by simpa using hi
    simp only [List.map_map]
    constructor
    · intro _
      refine List.mem_map.2 ⟨(l[i], i), ?_, rfl⟩
      rw [List.mem_zipIdx_iff_getElem?]
      simp [hi']
    · intro _
      simp [hi']
  · rw [List.pairwise_map, List.pairwise_iff_getElem]
    intro i j hi hj hij
    simpa using hij
  · intro j hj
    rcases Nat.lt_or_ge j l.length with h' | h' <;> simp [h'] at hj
  · have : (l.zipIdx.map fun p => (p.2, p.1)).map (·.2) = l := by simp [List.map_map, Function.comp_def, List.zipIdx_map_fst]
    rw [this]
    exact h
end Go.Proofs.YtighahcllmoajaaGreat
