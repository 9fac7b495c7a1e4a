/- Contracts: r05.Right, r06.Check, r06.Radius, by the kernel's walker. | Contract: root.CmpInt. | Plain: roots of ints, compared with ints. | Contracts for the kernel's walker: near.least, root.CmpInt, root.Cmp, meet.Edges. | Contracts of the reference for the kernel's walker. -/
import Derived.Test.YtighahcllmoajaaGreatJ21
import Derived.Test.YtighahcllmoajaaGreatJ35
import Derived.Test.YtighahcllmoajaaGreatJ27
import Derived.Test.YtighahcllmoajaaGreatJ34
import Derived.Test.YtighahcllmoajaaGreatJ36
set_option linter.unusedVariables false
set_option linter.unusedSimpArgs false

namespace Go.Proofs.YtighahcllmoajaaGreat
open Go.RowKit

def d05Right : Con where
  f := 45
  g := fun | [⟨true, [.i x _, .i y _]⟩] => some (.one (blV (coordB x y)), []) | _ => none
  ok := by
    intro args res ps h _
    split at h <;> cases h
    intro W vals hv
    simp only [rvs_cons, rvs_nil, rv_t, rl_i, rl_nil] at hv
    obtain ⟨_, ⟨_, ⟨_, _, rfl, _, _, rfl, rfl⟩, rfl⟩, _, rfl, rfl⟩ := hv
    exact (r05_Right _ _ W).mono fun _ _ h => gv_bl h
theorem nok {e : Ed} (h : ¬ (e.k = 1 ∨ e.k = 2 ∨ e.k = 3)) : e.ok = false := by
  cases ho : e.ok with
  | false => rfl
  | true => exact absurd (kind_of ho) h
theorem lt_T {a b : Int} (h : a < b) : decide (a < b) = true := by simpa using h
theorem lt_F {a b : Int} (h : ¬ a < b) : decide (a < b) = false := by simpa using h
theorem beq_ne {a b c d : Int} {x : Bool} (h : (a == c && b == d) = x) : (!eqZ [.i a, .i b] [.i c, .i d]) = !x := by rw [← h]; rfl
/-- A right edge is valid. -/
theorem okk {e : Ed} (hr : e.right = true) : e.ok = (if e.k = 1 then e.lone else if e.k = 2 then e.quarter 1 else if e.k = 3 then e.quarter 3 else false) := by unfold Ed.ok; rw [hr, Bool.true_and]
theorem chk_b {e : Ed} {b : Bool} (hA : coordB e.ax e.ay = true) (hB : coordB e.bx e.by' = true) (hC : coordB e.cx e.cy = true) (h : e.ok = b) : checkZ e = cond b 0 11 := by
  cases b with
  | true => exact checkZ_z h
  | false => exact checkZ_11c h hA hB hC
def K6 : List Con := [d05Right]
set_option maxRecDepth 100000 in
theorem dchk_2 (e : Ed) (hk : e.k = 2) (hA : coordB e.ax e.ay = true) (hB : coordB e.bx e.by' = true) (hC : coordB e.cx e.cy = true) (k0 : decide (e.k < 1) = false) (k9 : decide (e.k > 3) = false) : Fok Tryz.prog 46 [edV e lim c26] (.one (inV (checkZ e) lim)) := by
  have k1 : (e.k == 1) = false := by simp [hk]
  have k3 : (e.k == 3) = false := by simp [hk]
  have E : e.ok = ((!((e.ax - e.cx == 0) == (e.ay - e.cy == 0))) && (e.bx - e.cx == 0 - (e.ay - e.cy) && e.by' - e.cy == e.ax - e.cx)) := by
    simp [Ed.ok, Ed.right, Ed.quarter, quarterB, rot, hA, hB, hC, hk, bne]
  cases hq : ((e.ax - e.cx == 0) == (e.ay - e.cy == 0)) with
  | true =>
    rw [chk_b hA hB hC (b := false) (by rw [E, hq]; rfl)]
    exact fok K6 [false, false, false, false, false, false, false, true] [pF k0, pF k9, pF (not_F hA), pF (not_F hB), pF (not_F hC), pF k1, pF k3, pT hq] (by kernel_rfl)
  | false =>
    cases hz : (e.bx - e.cx == 0 - (e.ay - e.cy) && e.by' - e.cy == e.ax - e.cx) with
    | true =>
      rw [chk_b hA hB hC (b := true) (by rw [E, hq, hz]; rfl)]
      exact fok K6 [false, false, false, false, false, false, false, false, false] [pF k0, pF k9, pF (not_F hA), pF (not_F hB), pF (not_F hC), pF k1, pF k3, pF hq, pF (beq_ne hz)] (by kernel_rfl)
    | false =>
      rw [chk_b hA hB hC (b := false) (by rw [E, hq, hz]; rfl)]
      exact fok K6 [false, false, false, false, false, false, false, false, true] [pF k0, pF k9, pF (not_F hA), pF (not_F hB), pF (not_F hC), pF k1, pF k3, pF hq, pT (beq_ne hz)] (by kernel_rfl)
set_option maxRecDepth 100000 in
theorem dchk_3 (e : Ed) (hk : e.k = 3) (hA : coordB e.ax e.ay = true) (hB : coordB e.bx e.by' = true) (hC : coordB e.cx e.cy = true) (k0 : decide (e.k < 1) = false) (k9 : decide (e.k > 3) = false) : Fok Tryz.prog 46 [edV e lim c26] (.one (inV (checkZ e) lim)) := by
  have k1 : (e.k == 1) = false := by simp [hk]
  have k3 : (e.k == 3) = true := by simp [hk]
  have E : e.ok = ((!((e.ax - e.cx == 0) == (e.ay - e.cy == 0))) && (e.bx - e.cx == e.ay - e.cy && e.by' - e.cy == 0 - (e.ax - e.cx))) := by
    simp [Ed.ok, Ed.right, Ed.quarter, quarterB, rot, hA, hB, hC, hk, bne]
  cases hq : ((e.ax - e.cx == 0) == (e.ay - e.cy == 0)) with
  | true =>
    rw [chk_b hA hB hC (b := false) (by rw [E, hq]; rfl)]
    exact fok K6 [false, false, false, false, false, false, true, true] [pF k0, pF k9, pF (not_F hA), pF (not_F hB), pF (not_F hC), pF k1, pT k3, pT hq] (by kernel_rfl)
  | false =>
    cases hz : (e.bx - e.cx == e.ay - e.cy && e.by' - e.cy == 0 - (e.ax - e.cx)) with
    | true =>
      rw [chk_b hA hB hC (b := true) (by rw [E, hq, hz]; rfl)]
      exact fok K6 [false, false, false, false, false, false, true, false, false] [pF k0, pF k9, pF (not_F hA), pF (not_F hB), pF (not_F hC), pF k1, pT k3, pF hq, pF (beq_ne hz)] (by kernel_rfl)
    | false =>
      rw [chk_b hA hB hC (b := false) (by rw [E, hq, hz]; rfl)]
      exact fok K6 [false, false, false, false, false, false, true, false, true] [pF k0, pF k9, pF (not_F hA), pF (not_F hB), pF (not_F hC), pF k1, pT k3, pF hq, pT (beq_ne hz)] (by kernel_rfl)
set_option maxRecDepth 100000 in
theorem dchk_1 (e : Ed) (hk : e.k = 1) (hA : coordB e.ax e.ay = true) (hB : coordB e.bx e.by' = true) (hC : coordB e.cx e.cy = true) (k0 : decide (e.k < 1) = false) (k9 : decide (e.k > 3) = false) : Fok Tryz.prog 46 [edV e lim c26] (.one (inV (checkZ e) lim)) := by
  have k1 : (e.k == 1) = true := by simp [hk]
  have E : e.ok = (e.cx == 0 && e.cy == 0) := by simp [Ed.ok, Ed.right, Ed.lone, hA, hB, hC, hk]
  cases hz : (e.cx == 0 && e.cy == 0) with
  | true =>
    rw [chk_b hA hB hC (b := true) (by rw [E, hz])]
    exact fok K6 [false, false, false, false, false, true, false] [pF k0, pF k9, pF (not_F hA), pF (not_F hB), pF (not_F hC), pT k1, pF (beq_ne hz)] (by kernel_rfl)
  | false =>
    rw [chk_b hA hB hC (b := false) (by rw [E, hz])]
    exact fok K6 [false, false, false, false, false, true, true] [pF k0, pF k9, pF (not_F hA), pF (not_F hB), pF (not_F hC), pT k1, pT (beq_ne hz)] (by kernel_rfl)
theorem c26_rt {e : Ed} (hA : coordB e.ax e.ay = true) (hB : coordB e.bx e.by' = true) (hC : coordB e.cx e.cy = true) (W : World) (vals : List Value) (hv : RepVs W W (fun _ => 0) 0 [edV e lim lim] vals) : RepVs W W (fun _ => 0) 0 [edV e lim c26] vals :=
  rvs_1 (ed_rt (toEd_V e lim lim) (by simp [Ed.right, hA, hB, hC])) rvs_0 vals hv
set_option maxRecDepth 100000 in
theorem dchk_ok (e : Ed) : Fok Tryz.prog 46 [edV e lim lim] (.one (inV (checkZ e) lim)) := by
  by_cases h1 : e.k < 1
  · rw [checkZ_11a (nok (by omega)) (by omega)]
    exact fok K6 [true] [pT (lt_T h1)] (by kernel_rfl)
  by_cases h3 : 3 < e.k
  · rw [checkZ_11b (nok (by omega)) (by omega)]
    exact fok K6 [false, true] [pF (lt_F h1), pT (gt_T h3)] (by kernel_rfl)
  have k0 := lt_F h1
  have k9 := gt_F h3
  cases hA : coordB e.ax e.ay with
  | false =>
    rw [checkZ_10 (okA hA) (by omega) (by omega) (.inl hA)]
    exact fok K6 [false, false, true] [pF k0, pF k9, pT (not_T hA)] (by kernel_rfl)
  | true =>
    cases hB : coordB e.bx e.by' with
    | false =>
      rw [checkZ_10 (okB hB) (by omega) (by omega) (.inr (.inl hB))]
      exact fok K6 [false, false, false, true] [pF k0, pF k9, pF (not_F hA), pT (not_T hB)] (by kernel_rfl)
    | true =>
      cases hC : coordB e.cx e.cy with
      | false =>
        rw [checkZ_10 (okC hC) (by omega) (by omega) (.inr (.inr hC))]
        exact fok K6 [false, false, false, false, true] [pF k0, pF k9, pF (not_F hA), pF (not_F hB), pT (not_T hC)] (by kernel_rfl)
      | true =>
        refine Fok.pre ?_ (c26_rt hA hB hC)
        obtain hk | hk | hk : e.k = 1 ∨ e.k = 2 ∨ e.k = 3 := by omega
        · exact dchk_1 e hk hA hB hC k0 k9
        · exact dchk_2 e hk hA hB hC k0 k9
        · exact dchk_3 e hk hA hB hC k0 k9
def d06Chk : Con where
  f := 46
  g := fun | [⟨true, l⟩] => (toEd l).map fun e => (.one (inV (checkZ e) 11), []) | _ => none
  ok := by
    intro args res ps h _
    split at h <;> try cases h
    rename_i l
    cases he : toEd l with
    | none => simp [he] at h
    | some e =>
      simp only [he, Option.map_some, Option.some.injEq, Prod.mk.injEq] at h
      obtain ⟨rfl, rfl⟩ := h
      exact ((dchk_ok e).bd (checkZ_64 e).1).pre fun W => rvs_1 (ed_lim he) rvs_0
/-- One of two differences is nothing. -/
theorem radZ_sum {e : Ed} (h : e.ok = true) (hk : (e.k == 1) = false) : radZ e = max (e.ax - e.cx) (0 - (e.ax - e.cx)) + max (e.ay - e.cy) (0 - (e.ay - e.cy)) := by
  rw [radZ_arc h hk]
  have hk' : ¬ e.k = 1 := by simpa using hk
  have hq : ((e.ax - e.cx == 0) != (e.ay - e.cy == 0)) = true := by
    simp only [Ed.ok, Bool.and_eq_true, if_neg hk'] at h
    have h2 := h.2
    split at h2
    · simp only [Ed.quarter, quarterB, Bool.and_eq_true] at h2; exact h2.1
    · split at h2
      · simp only [Ed.quarter, quarterB, Bool.and_eq_true] at h2; exact h2.1
      · cases h2
  by_cases h1 : e.ax - e.cx = 0
  · omega
  · by_cases h2 : e.ay - e.cy = 0
    · omega
    · exfalso
      rw [beq_false_of_ne h1, beq_false_of_ne h2] at hq
      cases hq
set_option maxRecDepth 100000 in
theorem drad_ok (e : Ed) (ho : e.ok = true) : Fok Tryz.prog 40 [edV e 3 c26] (.one (inV (radZ e) lim)) := by
  cases hk : (e.k == 1) with
  | true =>
    rw [radZ_line (by simpa using hk)]
    exact fok [d06Chk] [true] [pT hk] (by kernel_rfl)
  | false =>
    rw [radZ_sum ho hk]
    exact fok [d06Chk] [false, false] [pF hk, pF (chk_F ho)] (by kernel_rfl)
def d06Rad : Con where
  f := 40
  g := fun | [⟨true, l⟩] => (toEd l).map fun e => (.one (inV (radZ e) 134217728), [e.ok = true]) | _ => none
  ok := by
    intro args res ps h hp
    split at h <;> try cases h
    rename_i l
    cases he : toEd l with
    | none => simp [he] at h
    | some e =>
      simp only [he, Option.map_some, Option.some.injEq, Prod.mk.injEq] at h
      obtain ⟨rfl, rfl⟩ := h
      exact ((drad_ok e hp.1).bd (rad_b hp.1).1).pre fun W => rvs_1 (ed_ok he hp.1) rvs_0
end Go.Proofs.YtighahcllmoajaaGreat

namespace Go.Proofs.YtighahcllmoajaaGreat
open Go.RowKit
attribute [local go_sem] Gives givesU

set_option maxRecDepth 100000 in
set_option maxHeartbeats 1000000 in
theorem root_CmpInt (add s i : Int) (x y : Nm) (n m : Bool) (p q : Option Addr) (l c k d : Nat) (w : World) (hn : NR w n p l c x) (hd : NR w m q k d y)
    (i1 : -9223372036854775808 ≤ add ∧ add ≤ 9223372036854775807) (i2 : -9223372036854775808 ≤ i ∧ i ≤ 9223372036854775807) :
    Calls Tryz.prog 23 #[.agg #[.int .i64 add, .int .i64 s, .bool n, .slice p l c, .bool m, .slice q k d], .int .i64 i] w fun e w' => e = .returned (.int .i64 (cmpRt ⟨add, s, x, y⟩ ⟨i, 0, zero, ofZ 1⟩)) ∧ Ext w w' := by
  have X := Lib.hid hn
  have Y := Lib.hid hd
  clear hn hd
  have CM := Lib.hid (fun W (h : Ext w W) n2 p2 l2 c2 (h2 : NR W n2 p2 l2 c2 (ofZ 1)) => root_Cmp add s i 0 x y zero (ofZ 1) n m false n2 p q none p2 l c k d 0 0 l2 c2 W (X.out.ext h) (Y.out.ext h) (NR.zero W) h2 i1 i2)
  obtain ⟨v, V⟩ : ∃ v, Hid (cmpRt ⟨add, s, x, y⟩ ⟨i, 0, zero, ofZ 1⟩ = v) := ⟨_, Lib.hid rfl⟩
  rw [V.out] at CM ⊢
  clear i1 i2
  go_enter Tryz.func23, Tryz.ntmps23
  go_upto_region 1 with (fail)
  refine wp_know (fun W => Ext w W ∧ RB W w.heap.size add s n p l c m q k d) ?_ ?_
  · exact ⟨bxx, RB.heap (heap_new rfl)⟩
  rintro W0 ⟨ex, rb⟩
  obtain ⟨e0, e1, e2, ⟨e3, e4⟩, ⟨e5, e6⟩, ef⟩ := id rb
  clear rb ef
  refine wp_KBc W0 (W0.heap.size) (fun W => W.cell? ⟨w.heap.size, 0, none⟩ = some (.int .i64 add) ∧ W.cell? ⟨w.heap.size, 1, none⟩ = some (.int .i64 s) ∧ cn W w.heap.size 2 n p l c ∧ cn W w.heap.size 4 m q k d) ?_
  intro hKeep
  repeat (first | refine F_s ?_ | refine F_r ?_)
  refine F_n W0 (ofZ 1) (fun W hW => num_Of 1 _ (by decide) (by decide)) ?_; intro n11 p11 l11 c11 hn11
  repeat (first | refine F_s ?_ | refine F_r ?_)
  refine F_c (.int .i64 v) (fun W hW => CM.out W (Ext.step ex hW.1.1) _ _ _ _ hW.2) ?_
  repeat (first | refine F_s ?_ | refine F_r ?_)
  rintro W1 ⟨hS, _⟩
  have E1 : Ext w W1 := Ext.step ex hS.1
  clear hS
  go_wp2
  go_ret
  exact ⟨rfl, E1⟩
end Go.Proofs.YtighahcllmoajaaGreat

namespace Go.Proofs.YtighahcllmoajaaGreat
open Go.RowKit

theorem sideZ_neg (a b : Int) (c : Nat) : sideZ (-a) (-b) (c : Int) = -sideZ a b (c : Int) := Sg.uniq (side_sg (-a) (-b) c) (Sg.eq (side_sg a b c).neg fun k => (lin_neg a b c k).symm)
theorem sgn_mul {g : Int} (h : 0 < g) (a : Int) : sgn (g * a) = sgn a := by
  rcases sgn_cases a with ⟨h1, h2⟩ | ⟨h1, h2⟩ | ⟨h1, h2⟩
  · have := Int.mul_pos h h2
    rcases sgn_cases (g * a) with ⟨h3, h4⟩ | ⟨h3, h4⟩ | ⟨h3, h4⟩ <;> omega
  · rw [h2, Int.mul_zero]
  · have := Int.mul_neg_of_pos_of_neg h h2
    rcases sgn_cases (g * a) with ⟨h3, h4⟩ | ⟨h3, h4⟩ | ⟨h3, h4⟩ <;> omega
theorem cmpZ_sub (a b : Int) : cmpZ a b = sgn (a - b) := by
  rcases cmpZ_case a b with ⟨h1, h2⟩ | ⟨h1, h2⟩ | ⟨h1, h2⟩ <;> rcases sgn_cases (a - b) with ⟨h3, h4⟩ | ⟨h3, h4⟩ | ⟨h3, h4⟩ <;> omega
theorem cmpZ_mul {g : Int} (h : 0 < g) (a b : Int) : cmpZ (g * a) (g * b) = cmpZ a b := by
  rw [cmpZ_sub, cmpZ_sub, ← Int.mul_sub, sgn_mul h]
theorem sideZ_scale {g : Int} (h : 0 < g) (a b c : Int) : sideZ (g * a) b (g * g * c) = sideZ a b c := by
  have h2 := Int.mul_pos h h
  unfold sideZ
  rw [sgn_mul h, sgn_mul h2]
  have e1 : g * a * (g * a) = g * g * (a * a) := by grind
  have e2 : b * b * (g * g * c) = g * g * (b * b * c) := by grind
  rw [e1, e2, cmpZ_mul h2]
theorem sideZ_bd (a b c : Int) : -1 ≤ sideZ a b c ∧ sideZ a b c ≤ 1 := by
  unfold sideZ
  split
  · omega
  · rcases sgn_cases a with ⟨h1, h2⟩ | ⟨h1, h2⟩ | ⟨h1, h2⟩ <;> rcases cmpZ_case (a * a) (b * b * c) with ⟨h3, h4⟩ | ⟨h3, h4⟩ | ⟨h3, h4⟩ <;> rw [h1, h3] <;> decide
/-- Compared with a whole number. -/
theorem cmpR_whole (A s n d : Int) : cmpR A s n d 0 0 1 = sideZ (A * d) s (n * d) := by
  have := sideZ_bd (A * d) s (n * d)
  unfold cmpR
  split
  · omega
  · rename_i h
    have : sideZ (A * d) s (n * d) = 0 := by omega
    rw [this, Int.zero_mul]
theorem side_whole {f d n : Int} (hf : 0 ≤ f) (hd : 0 < d) (hn : 0 ≤ n) : sideZ (-f * d) 1 (n * d) = sgn (n - d * f * f) := by
  have s1 : sgn 1 = 1 := rfl
  unfold sideZ
  rw [s1, Int.one_mul, Int.mul_comm n d, sgn_mul hd, Int.mul_comm (-f) d, sgn_mul hd]
  rcases sgn_cases n with ⟨h1, h2⟩ | ⟨h1, h2⟩ | ⟨h1, h2⟩
  · rcases sgn_cases (-f) with ⟨h3, h4⟩ | ⟨h3, h4⟩ | ⟨h3, h4⟩
    · omega
    · obtain rfl : f = 0 := by omega
      rw [h1, h3, if_pos (by decide), Int.mul_zero, Int.sub_zero, h1]
      decide
    · rw [h1, h3, if_neg (by decide)]
      have e : d * -f * (d * -f) = d * (d * f * f) := by grind
      rw [e, Int.mul_one, Int.one_mul, cmpZ_mul hd, cmpZ_sub]
      have e2 : n - d * f * f = -(d * f * f - n) := by omega
      rw [e2]
      rcases sgn_cases (d * f * f - n) with ⟨h5, h6⟩ | ⟨h5, h6⟩ | ⟨h5, h6⟩ <;> rcases sgn_cases (-(d * f * f - n)) with ⟨h7, h8⟩ | ⟨h7, h8⟩ | ⟨h7, h8⟩ <;> omega
  · subst h2
    rw [h1, Int.mul_zero, if_pos (Int.le_refl 0), Int.zero_sub]
    have e : -(d * f * f) = d * (f * -f) := by grind
    rw [e, sgn_mul hd]
    rcases sgn_cases (-f) with ⟨h3, h4⟩ | ⟨h3, h4⟩ | ⟨h3, h4⟩
    · omega
    · obtain rfl : f = 0 := by omega
      rfl
    · rw [h3, sgn_mul (show 0 < f by omega), h3]
      decide
  · omega
/-- The root that ints make. -/
def rootOf (add s : Int) (n d : Nat) : Rt := if s = 0 ∨ n = 0 then ⟨add, 0, zero, ofZ 1⟩ else ⟨add, s, ofZ ((n / Nat.gcd n d : Nat) : Int), ofZ ((d / Nat.gcd n d : Nat) : Int)⟩
theorem small_nat {n k : Nat} (h : n < 4294967296 ^ k) (hk : k ≤ 64) : small (n : Int) = true := small_of_lt (k := k) (by rw [Int.natAbs_natCast]; exact h) hk
theorem ofZ_len {n k : Nat} (h : n < 4294967296 ^ k) : (ofZ (n : Int)).d.length ≤ k := by
  simp only [ofZ, Int.natAbs_natCast]
  exact (digs_length_le _ _).2 h
theorem ofP_nat {add s : Int} {n d : Nat} (hs : -1 ≤ s ∧ s ≤ 1) (hn : n < 4294967296 ^ 8) (hd : d < 4294967296 ^ 8) (h0 : 0 < d) : ofP add s (ofZ (n : Int)) (ofZ (d : Int)) = (rootOf add s n d, true) := by
  have sn := small_nat hn (by decide)
  have sd := small_nat hd (by decide)
  have vn : val (ofZ (n : Int)).d = n := by rw [val_ofZ]; rfl
  have vd : val (ofZ (d : Int)).d = d := by rw [val_ofZ]; rfl
  have hb : ofBad s (ofZ (n : Int)) (ofZ (d : Int)) = false := ofBad_of hs.1 hs.2 (ofZ_right sn) (ofZ_right sd) neg_ofZ (by rw [ofZ_z]; omega)
  unfold rootOf
  by_cases hz : s = 0 ∨ n = 0
  · rw [if_pos hz]
    unfold ofP
    rw [hb, if_neg (by simp), if_pos (by rw [ofZ_z]; omega)]
  · rw [if_neg hz, ofP_main neg_ofZ (by rw [ofZ_z]; omega) hb (by rw [ofZ_z]; omega), vn, vd, if_neg]
    have h1 := ofZ_len (Nat.lt_of_le_of_lt (Nat.div_le_self n (Nat.gcd n d)) hn)
    have h2 := ofZ_len (Nat.lt_of_le_of_lt (Nat.div_le_self d (Nat.gcd n d)) hd)
    omega
theorem whole_ok {add s : Int} {n d : Nat} (hs : -1 ≤ s ∧ s ≤ 1) (hn : n < 4294967296 ^ 8) (hd : d < 4294967296 ^ 8) (h0 : 0 < d) : (rootOf add s n d).Ok ∧ (rootOf add s n d).right = true := by
  have dg : ∀ z, Dig (ofZ z).d := fun z => dig_digs _
  obtain ⟨h1, h2, _⟩ := ofP_ok (dg n) (dg d) (ofP_nat (add := add) hs hn hd h0)
  exact ⟨h1, right_of h2 h1.nr h1.dr⟩
/-- A root of ints, compared with an int. -/
theorem cmp_int {add s x : Int} {n d : Nat} (h0 : 0 < d) (hs : s = 0 → n = 0) : cmpR ((rootOf add s n d).add - x) (rootOf add s n d).s (rootOf add s n d).n.z (rootOf add s n d).d.z 0 0 1 = sideZ ((add - x) * d) s ((n : Int) * d) := by
  rw [cmpR_whole]
  unfold rootOf
  by_cases hz : s = 0 ∨ n = 0
  · have hn : n = 0 := by rcases hz with h | h; exact hs h; exact h
    rw [if_pos hz, hn]
    simp only
    rw [ofZ_z, zero_z]
    have e : ∀ y t : Int, sideZ y t 0 = sgn y := fun y t => by
      have : sgn 0 = 0 := rfl
      unfold sideZ
      rw [this, Int.mul_zero, Int.mul_zero, if_pos (Int.le_refl 0)]
      rcases sgn_cases y with ⟨h, _⟩ | ⟨h, _⟩ | ⟨h, _⟩ <;> rw [h] <;> decide
    rw [Int.zero_mul, e, show ((0 : Nat) : Int) * (d : Int) = 0 by simp, e, Int.mul_one, Int.mul_comm, sgn_mul (by omega)]
  · rw [if_neg hz]
    simp only
    rw [ofZ_z, ofZ_z]
    have hg : 0 < Nat.gcd n d := Nat.gcd_pos_of_pos_right _ h0
    have e1 : Nat.gcd n d * (n / Nat.gcd n d) = n := Nat.mul_div_cancel' (Nat.gcd_dvd_left _ _)
    have e2 : Nat.gcd n d * (d / Nat.gcd n d) = d := Nat.mul_div_cancel' (Nat.gcd_dvd_right _ _)
    have e1' : (n : Int) = (Nat.gcd n d : Int) * ((n / Nat.gcd n d : Nat) : Int) := by rw [← Int.natCast_mul, e1]
    have e2' : (d : Int) = (Nat.gcd n d : Int) * ((d / Nat.gcd n d : Nat) : Int) := by rw [← Int.natCast_mul, e2]
    have hg2 : (0 : Int) < (Nat.gcd n d : Int) := by omega
    generalize (Nat.gcd n d : Int) = g at *
    generalize ((n / Nat.gcd n d : Nat) : Int) = N at *
    generalize ((d / Nat.gcd n d : Nat) : Int) = D at *
    rw [e1', e2', show (add - x) * (g * D) = g * ((add - x) * D) by grind, show g * N * (g * D) = g * g * (N * D) by grind, sideZ_scale hg2]
end Go.Proofs.YtighahcllmoajaaGreat

namespace Go.Proofs.YtighahcllmoajaaGreat
open Go.RowKit

theorem sg3 {x : Int} (h : -1 ≤ x ∧ x ≤ 1) : x = -1 ∨ x = 0 ∨ x = 1 := by omega
theorem cmpRt_bd (a b : Rt) : (cmpRt a b).natAbs ≤ 1 ∧ I64 (cmpRt a b) := by
  have key : -1 ≤ cmpRt a b ∧ cmpRt a b ≤ 1 := by
    unfold cmpRt
    split
    · unfold cmpR
      split
      · omega
      · have h := sg3 (sideZ_bd ((a.add - b.add) * a.d.z) a.s (a.n.z * a.d.z))
        have g := sg3 (sideZ_bd ((a.add - b.add) * (a.add - b.add) * a.d.z * b.d.z + a.n.z * b.d.z - b.n.z * a.d.z) (2 * (a.add - b.add) * a.s * b.d.z) (a.n.z * a.d.z))
        generalize sideZ ((a.add - b.add) * a.d.z) a.s (a.n.z * a.d.z) = u at h
        generalize sideZ ((a.add - b.add) * (a.add - b.add) * a.d.z * b.d.z + a.n.z * b.d.z - b.n.z * a.d.z) (2 * (a.add - b.add) * a.s * b.d.z) (a.n.z * a.d.z) = v at g
        rcases h with rfl | rfl | rfl <;> rcases g with rfl | rfl | rfl <;> decide
    · decide
  exact ⟨by omega, by unfold I64; omega⟩
def toRt : List It → Option (Rt × List It)
  | a :: s :: .d (.num n) :: .d (.num d) :: l => match asI a, asI s with | some (a, _), some (s, _) => some (⟨a, s, n, d⟩, l) | _, _ => none
  | _ => none
theorem asI_F {V : World} {i : It} {z : Int} {B : Nat} {cs : List Value} (h : asI i = some (z, B)) (hr : Rep0 V i cs) : cs = [.int .i64 z] ∧ I64 z := by
  unfold asI at h
  split at h <;> cases h
  · exact ⟨hr.1, hr.2.2⟩
  · exact hr
theorem toRt_rep {V : World} {l m : List It} {a : Rt} {cs : List Value} (h : toRt l = some (a, m)) (hr : RepF V l cs) : ∃ n p k c b q j d r, cs = .int .i64 a.add :: .int .i64 a.s :: .bool n :: .slice p k c :: .bool b :: .slice q j d :: r ∧ NR V n p k c a.n ∧ NR V b q j d a.d ∧ (I64 a.add ∧ I64 a.s) ∧ RepF V m r := by
  unfold toRt at h
  split at h
  · split at h
    · cases h
      rename_i h1 h2
      obtain ⟨c1, d1, rfl, r1, c2, d2, rfl, r2, c3, d3, rfl, ⟨n, p, k, c, rfl, h3⟩, c4, d4, rfl, ⟨b, q, j, d, rfl, h4⟩, r5⟩ := hr
      obtain ⟨rfl, i1⟩ := asI_F h1 r1
      obtain ⟨rfl, i2⟩ := asI_F h2 r2
      exact ⟨n, p, k, c, b, q, j, d, d4, rfl, h3, h4, ⟨i1, i2⟩, r5⟩
    · cases h
  · cases h
def intsN : Nat → List It → Option (List Int × List It)
  | 0, l => some ([], l)
  | _ + 1, [] => none
  | n + 1, i :: l => match asI i, intsN n l with | some (z, _), some (r, m) => some (z :: r, m) | _, _ => none
theorem intsN_rep {V : World} : ∀ {n : Nat} {l m : List It} {zs : List Int} {cs : List Value}, intsN n l = some (zs, m) → RepF V l cs → zs.length = n ∧ (∀ z ∈ zs, I64 z) ∧ ∃ r, cs = zs.map (Value.int .i64) ++ r ∧ RepF V m r
  | 0, _, _, _, cs, h, hr => by unfold intsN at h; cases h; exact ⟨rfl, nofun, cs, rfl, hr⟩
  | n + 1, [], _, _, _, h, _ => by unfold intsN at h; cases h
  | n + 1, i :: l, m, zs, cs, h, ⟨c, d, e, h1, h2⟩ => by
    unfold intsN at h
    split at h
    · rename_i z _ r m' hz hr
      cases h
      obtain ⟨k1, k2, q, k3, k4⟩ := intsN_rep hr h2
      obtain ⟨rfl, hi⟩ := asI_F hz h1
      refine ⟨by simp [k1], fun x hx => ?_, q, by rw [e, k3]; rfl, k4⟩
      rcases List.mem_cons.1 hx with rfl | hx
      · exact hi
      · exact k2 x hx
    · cases h
def Sp.of : List Int → Sp
  | [x, y, dx, dy, p, q, len] => ⟨x, y, dx, dy, p, q, len⟩
  | _ => Sp.no
def toPr (l : List It) : Option (Pr × List It) :=
  match toRt l with
  | some (d, l) => (match intsN 7 l with
    | some (a, l) => (match intsN 7 l with
      | some (b, l) => some (⟨d, Sp.of a, Sp.of b⟩, l)
      | none => none)
    | none => none)
  | none => none
def toPrs : Nat → List It → Option (List Pr)
  | 0, _ => some []
  | n + 1, l => match toPr l with
    | some (x, l) => (match toPrs n l with | some r => some (x :: r) | none => none)
    | none => none
def Sp.i64 (s : Sp) : Prop := I64 s.x ∧ I64 s.y ∧ I64 s.dx ∧ I64 s.dy ∧ I64 s.p ∧ I64 s.q ∧ I64 s.len
def Pr.i64 (x : Pr) : Prop := (I64 x.d.add ∧ I64 x.d.s) ∧ x.a.i64 ∧ x.b.i64
theorem seven {zs : List Int} (h : zs.length = 7) : ∃ a b c d e f g, zs = [a, b, c, d, e, f, g] := by
  match zs, h with
  | [a, b, c, d, e, f, g], _ => exact ⟨a, b, c, d, e, f, g, rfl⟩
theorem sp_of {zs : List Int} (h : zs.length = 7) (hi : ∀ z ∈ zs, I64 z) : (Sp.of zs).i64 ∧ zs = [(Sp.of zs).x, (Sp.of zs).y, (Sp.of zs).dx, (Sp.of zs).dy, (Sp.of zs).p, (Sp.of zs).q, (Sp.of zs).len] := by
  obtain ⟨a, b, c, d, e, f, g, rfl⟩ := seven h
  exact ⟨⟨hi a (by simp), hi b (by simp), hi c (by simp), hi d (by simp), hi e (by simp), hi f (by simp), hi g (by simp)⟩, rfl⟩
/-- The cells of a candidate. -/
def prV (e : Pr) (n : Bool) (p : Option Addr) (l c : Nat) (m : Bool) (q : Option Addr) (k d : Nat) : List Value :=
  [.int .i64 e.d.add, .int .i64 e.d.s, .bool n, .slice p l c, .bool m, .slice q k d, .int .i64 e.a.x, .int .i64 e.a.y, .int .i64 e.a.dx, .int .i64 e.a.dy, .int .i64 e.a.p, .int .i64 e.a.q, .int .i64 e.a.len,
    .int .i64 e.b.x, .int .i64 e.b.y, .int .i64 e.b.dx, .int .i64 e.b.dy, .int .i64 e.b.p, .int .i64 e.b.q, .int .i64 e.b.len]
theorem toPr_rep {V : World} {l m : List It} {x : Pr} {cs : List Value} (hx : toPr l = some (x, m)) (hr : RepF V l cs) : ∃ n p k c b q j d r, cs = prV x n p k c b q j d ++ r ∧ NR V n p k c x.d.n ∧ NR V b q j d x.d.d ∧ x.i64 ∧ RepF V m r := by
  unfold toPr at hx
  split at hx <;> (try (cases hx; done))
  rename_i d l1 h1
  split at hx <;> (try (cases hx; done))
  rename_i a l2 h2
  split at hx <;> (try (cases hx; done))
  rename_i b l3 h3
  cases hx
  obtain ⟨n1, p1, k1, c1, m1, q1, j1, d1, r1, e1, nr1, nr2, i1, rf1⟩ := toRt_rep h1 hr
  obtain ⟨la, ia, r2, e2, rf2⟩ := intsN_rep h2 rf1
  obtain ⟨lb, ib, r3, e3, rf3⟩ := intsN_rep h3 rf2
  refine ⟨n1, p1, k1, c1, m1, q1, j1, d1, r3, ?_, nr1, nr2, ⟨i1, (sp_of la ia).1, (sp_of lb ib).1⟩, rf3⟩
  obtain ⟨a0, a1, a2, a3, a4, a5, a6, rfl⟩ := seven la
  obtain ⟨b0, b1, b2, b3, b4, b5, b6, rfl⟩ := seven lb
  rw [e1, e2, e3]
  rfl
/-- A candidate's items. -/
def prL (x : Pr) : List It := (rtV x.d).l ++ ((spV x.a).l ++ (spV x.b).l)
theorem rf_i {V : World} {z : Int} {l : List It} {cs : List Value} (h : I64 z) (h2 : RepF V l cs) : RepF V (.i z lim :: l) (.int .i64 z :: cs) := ⟨[_], cs, rfl, ⟨rfl, lim64 h⟩, h2⟩
theorem rf_n {V : World} {x : Nm} {n : Bool} {p : Option Addr} {k c : Nat} {l : List It} {cs : List Value} (h : NR V n p k c x) (h2 : RepF V l cs) : RepF V (.d (.num x) :: l) (.bool n :: .slice p k c :: cs) := ⟨[_, _], cs, rfl, ⟨n, p, k, c, rfl, h⟩, h2⟩
theorem pr_low {V : World} {x : Pr} {n b : Bool} {p q : Option Addr} {k c j d : Nat} {m : List It} {cs : List Value} (hi : x.i64) (h1 : NR V n p k c x.d.n) (h2 : NR V b q j d x.d.d) (h : RepF V m cs) : RepF V (prL x ++ m) (prV x n p k c b q j d ++ cs) := by
  obtain ⟨⟨i1, i2⟩, ⟨a1, a2, a3, a4, a5, a6, a7⟩, ⟨b1, b2, b3, b4, b5, b6, b7⟩⟩ := hi
  exact rf_i i1 (rf_i i2 (rf_n h1 (rf_n h2 (rf_i a1 (rf_i a2 (rf_i a3 (rf_i a4 (rf_i a5 (rf_i a6 (rf_i a7 (rf_i b1 (rf_i b2 (rf_i b3 (rf_i b4 (rf_i b5 (rf_i b6 (rf_i b7 h)))))))))))))))))
theorem toPrs_low {V : World} : ∀ {n : Nat} {l : List It} {L : List Pr} {cs : List Value}, toPrs n l = some L → RepF V l cs → cs.length = n * 20 → L.length = n ∧ RepF V (L.map prL).flatten cs
  | 0, l, L, cs, h, _, hl => by
    unfold toPrs at h
    cases h
    have : cs = [] := List.eq_nil_of_length_eq_zero (by simpa using hl)
    subst this
    exact ⟨rfl, rfl⟩
  | n + 1, l, L, cs, h, hr, hl => by
    unfold toPrs at h
    split at h <;> (try (cases h; done))
    rename_i x l' hx
    split at h <;> (try (cases h; done))
    rename_i r hr'
    cases h
    obtain ⟨n1, p1, k1, c1, m1, q1, j1, d1, r3, e1, nr1, nr2, i1, rf⟩ := toPr_rep hx hr
    have hl3 : r3.length = n * 20 := by
      rw [e1, List.length_append] at hl
      have : (prV x n1 p1 k1 c1 m1 q1 j1 d1).length = 20 := rfl
      omega
    obtain ⟨z1, z2⟩ := toPrs_low hr' rf hl3
    refine ⟨by simp [z1], ?_⟩
    rw [e1, List.map_cons, List.flatten_cons]
    exact pr_low i1 nr1 nr2 z2
/-- A candidate as a value. -/
def prI (x : Pr) : V1 := ⟨true, (rtV x.d).l ++ ((spV x.a).l ++ (spV x.b).l)⟩
def cCmpInt : Con where
  f := 23
  g := fun | [⟨true, [.i a _, .i s _, .d (.num n), .d (.num d)]⟩, ⟨false, [.i z _]⟩] => some (.one (inV (cmpRt ⟨a, s, n, d⟩ ⟨z, 0, zero, ofZ 1⟩) 1), []) | _ => none
  ok := by
    intro args res ps h hp
    split at h <;> cases h
    intro W vals hv
    simp only [rvs_cons, rvs_nil, rv_t, rv_i, rl_i, rl_num, rl_nil] at hv
    obtain ⟨_, ⟨_, ⟨⟨_, i1⟩, _, rfl, ⟨_, i2⟩, _, rfl, n1, p1, l1, c1, h1, _, rfl, m1, q1, k1, d1, h2, _, rfl, rfl⟩, rfl⟩, _, rfl, _, ⟨⟨_, i3⟩, rfl⟩, _, rfl, rfl⟩ := hv
    exact (root_CmpInt _ _ _ _ _ _ _ _ _ _ _ _ _ W h1 h2 i1 i3).mono fun _ _ h => gv_in (cmpRt_bd _ _) h
def cCmp : Con where
  f := 20
  g := fun | [⟨true, [.i a _, .i s _, .d (.num n), .d (.num d)]⟩, ⟨true, [.i b _, .i t _, .d (.num m), .d (.num e)]⟩] => some (.one (inV (cmpRt ⟨a, s, n, d⟩ ⟨b, t, m, e⟩) 1), []) | _ => none
  ok := by
    intro args res ps h hp
    split at h <;> cases h
    intro W vals hv
    simp only [rvs_cons, rvs_nil, rv_t, rl_i, rl_num, rl_nil] at hv
    obtain ⟨_, ⟨_, ⟨⟨_, i1⟩, _, rfl, ⟨_, i2⟩, _, rfl, n1, p1, l1, c1, h1, _, rfl, m1, q1, k1, d1, h2, _, rfl, rfl⟩, rfl⟩, _, rfl, _, ⟨_, ⟨⟨_, i3⟩, _, rfl, ⟨_, i4⟩, _, rfl, n2, p2, l2, c2, h3, _, rfl, m2, q2, k2, d2, h4, _, rfl, rfl⟩, rfl⟩, _, rfl, rfl⟩ := hv
    exact (root_Cmp _ _ _ _ _ _ _ _ _ _ _ _ _ _ _ _ _ _ _ _ _ _ _ _ W h1 h2 h3 h4 i1 i3).mono fun _ _ h => gv_in (cmpRt_bd _ _) h
def lessP (x y : Pr) : Bool := decide (cmpRt y.d x.d < 0)
theorem betterP_T {x y : Pr} (h : lessP x y = true) : betterP x y = y := if_pos (of_decide_eq_true h)
theorem betterP_F {x y : Pr} (h : lessP x y = false) : betterP x y = x := if_neg (of_decide_eq_false h)
def lsA (L : List Pr) : List V1 := [⟨false, [.fs 0 (L.map prL).flatten L.length 20]⟩, ⟨false, [.v (.func (.func 54) #[] #[])]⟩]
set_option maxRecDepth 100000 in
set_option maxHeartbeats 1000000 in
theorem least_4 (p1 p2 p3 p4 : Pr) : Fok Tryz.prog 53 (lsA [p1, p2, p3, p4]) (.one (prI (leastP [p1, p2, p3, p4]))) := by
  cases H2 : lessP p1 p2 with
  | true =>
    cases H3 : lessP p2 p3 with
    | true =>
      cases H4 : lessP p3 p4 with
      | true =>
        rw [show leastP [p1, p2, p3, p4] = p4 by simp only [leastP, List.foldl_cons, List.foldl_nil, betterP_T H2, betterP_T H3, betterP_T H4]]
        exact fok [cCmp] [true, true, true] [pT H2, pT H3, pT H4] (by kernel_rfl)
      | false =>
        rw [show leastP [p1, p2, p3, p4] = p3 by simp only [leastP, List.foldl_cons, List.foldl_nil, betterP_T H2, betterP_T H3, betterP_F H4]]
        exact fok [cCmp] [true, true, false] [pT H2, pT H3, pF H4] (by kernel_rfl)
    | false =>
      cases H4 : lessP p2 p4 with
      | true =>
        rw [show leastP [p1, p2, p3, p4] = p4 by simp only [leastP, List.foldl_cons, List.foldl_nil, betterP_T H2, betterP_F H3, betterP_T H4]]
        exact fok [cCmp] [true, false, true] [pT H2, pF H3, pT H4] (by kernel_rfl)
      | false =>
        rw [show leastP [p1, p2, p3, p4] = p2 by simp only [leastP, List.foldl_cons, List.foldl_nil, betterP_T H2, betterP_F H3, betterP_F H4]]
        exact fok [cCmp] [true, false, false] [pT H2, pF H3, pF H4] (by kernel_rfl)
  | false =>
    cases H3 : lessP p1 p3 with
    | true =>
      cases H4 : lessP p3 p4 with
      | true =>
        rw [show leastP [p1, p2, p3, p4] = p4 by simp only [leastP, List.foldl_cons, List.foldl_nil, betterP_F H2, betterP_T H3, betterP_T H4]]
        exact fok [cCmp] [false, true, true] [pF H2, pT H3, pT H4] (by kernel_rfl)
      | false =>
        rw [show leastP [p1, p2, p3, p4] = p3 by simp only [leastP, List.foldl_cons, List.foldl_nil, betterP_F H2, betterP_T H3, betterP_F H4]]
        exact fok [cCmp] [false, true, false] [pF H2, pT H3, pF H4] (by kernel_rfl)
    | false =>
      cases H4 : lessP p1 p4 with
      | true =>
        rw [show leastP [p1, p2, p3, p4] = p4 by simp only [leastP, List.foldl_cons, List.foldl_nil, betterP_F H2, betterP_F H3, betterP_T H4]]
        exact fok [cCmp] [false, false, true] [pF H2, pF H3, pT H4] (by kernel_rfl)
      | false =>
        rw [show leastP [p1, p2, p3, p4] = p1 by simp only [leastP, List.foldl_cons, List.foldl_nil, betterP_F H2, betterP_F H3, betterP_F H4]]
        exact fok [cCmp] [false, false, false] [pF H2, pF H3, pF H4] (by kernel_rfl)
set_option maxRecDepth 100000 in
set_option maxHeartbeats 1000000 in
theorem least_5T (p1 p2 p3 p4 p5 : Pr) (H2 : lessP p1 p2 = true) : Fok Tryz.prog 53 (lsA [p1, p2, p3, p4, p5]) (.one (prI (leastP [p1, p2, p3, p4, p5]))) := by
  cases H3 : lessP p2 p3 with
  | true =>
    cases H4 : lessP p3 p4 with
    | true =>
      cases H5 : lessP p4 p5 with
      | true =>
        rw [show leastP [p1, p2, p3, p4, p5] = p5 by simp only [leastP, List.foldl_cons, List.foldl_nil, betterP_T H2, betterP_T H3, betterP_T H4, betterP_T H5]]
        exact fok [cCmp] [true, true, true, true] [pT H2, pT H3, pT H4, pT H5] (by kernel_rfl)
      | false =>
        rw [show leastP [p1, p2, p3, p4, p5] = p4 by simp only [leastP, List.foldl_cons, List.foldl_nil, betterP_T H2, betterP_T H3, betterP_T H4, betterP_F H5]]
        exact fok [cCmp] [true, true, true, false] [pT H2, pT H3, pT H4, pF H5] (by kernel_rfl)
    | false =>
      cases H5 : lessP p3 p5 with
      | true =>
        rw [show leastP [p1, p2, p3, p4, p5] = p5 by simp only [leastP, List.foldl_cons, List.foldl_nil, betterP_T H2, betterP_T H3, betterP_F H4, betterP_T H5]]
        exact fok [cCmp] [true, true, false, true] [pT H2, pT H3, pF H4, pT H5] (by kernel_rfl)
      | false =>
        rw [show leastP [p1, p2, p3, p4, p5] = p3 by simp only [leastP, List.foldl_cons, List.foldl_nil, betterP_T H2, betterP_T H3, betterP_F H4, betterP_F H5]]
        exact fok [cCmp] [true, true, false, false] [pT H2, pT H3, pF H4, pF H5] (by kernel_rfl)
  | false =>
    cases H4 : lessP p2 p4 with
    | true =>
      cases H5 : lessP p4 p5 with
      | true =>
        rw [show leastP [p1, p2, p3, p4, p5] = p5 by simp only [leastP, List.foldl_cons, List.foldl_nil, betterP_T H2, betterP_F H3, betterP_T H4, betterP_T H5]]
        exact fok [cCmp] [true, false, true, true] [pT H2, pF H3, pT H4, pT H5] (by kernel_rfl)
      | false =>
        rw [show leastP [p1, p2, p3, p4, p5] = p4 by simp only [leastP, List.foldl_cons, List.foldl_nil, betterP_T H2, betterP_F H3, betterP_T H4, betterP_F H5]]
        exact fok [cCmp] [true, false, true, false] [pT H2, pF H3, pT H4, pF H5] (by kernel_rfl)
    | false =>
      cases H5 : lessP p2 p5 with
      | true =>
        rw [show leastP [p1, p2, p3, p4, p5] = p5 by simp only [leastP, List.foldl_cons, List.foldl_nil, betterP_T H2, betterP_F H3, betterP_F H4, betterP_T H5]]
        exact fok [cCmp] [true, false, false, true] [pT H2, pF H3, pF H4, pT H5] (by kernel_rfl)
      | false =>
        rw [show leastP [p1, p2, p3, p4, p5] = p2 by simp only [leastP, List.foldl_cons, List.foldl_nil, betterP_T H2, betterP_F H3, betterP_F H4, betterP_F H5]]
        exact fok [cCmp] [true, false, false, false] [pT H2, pF H3, pF H4, pF H5] (by kernel_rfl)
set_option maxRecDepth 100000 in
set_option maxHeartbeats 1000000 in
theorem least_5F (p1 p2 p3 p4 p5 : Pr) (H2 : lessP p1 p2 = false) : Fok Tryz.prog 53 (lsA [p1, p2, p3, p4, p5]) (.one (prI (leastP [p1, p2, p3, p4, p5]))) := by
  cases H3 : lessP p1 p3 with
  | true =>
    cases H4 : lessP p3 p4 with
    | true =>
      cases H5 : lessP p4 p5 with
      | true =>
        rw [show leastP [p1, p2, p3, p4, p5] = p5 by simp only [leastP, List.foldl_cons, List.foldl_nil, betterP_F H2, betterP_T H3, betterP_T H4, betterP_T H5]]
        exact fok [cCmp] [false, true, true, true] [pF H2, pT H3, pT H4, pT H5] (by kernel_rfl)
      | false =>
        rw [show leastP [p1, p2, p3, p4, p5] = p4 by simp only [leastP, List.foldl_cons, List.foldl_nil, betterP_F H2, betterP_T H3, betterP_T H4, betterP_F H5]]
        exact fok [cCmp] [false, true, true, false] [pF H2, pT H3, pT H4, pF H5] (by kernel_rfl)
    | false =>
      cases H5 : lessP p3 p5 with
      | true =>
        rw [show leastP [p1, p2, p3, p4, p5] = p5 by simp only [leastP, List.foldl_cons, List.foldl_nil, betterP_F H2, betterP_T H3, betterP_F H4, betterP_T H5]]
        exact fok [cCmp] [false, true, false, true] [pF H2, pT H3, pF H4, pT H5] (by kernel_rfl)
      | false =>
        rw [show leastP [p1, p2, p3, p4, p5] = p3 by simp only [leastP, List.foldl_cons, List.foldl_nil, betterP_F H2, betterP_T H3, betterP_F H4, betterP_F H5]]
        exact fok [cCmp] [false, true, false, false] [pF H2, pT H3, pF H4, pF H5] (by kernel_rfl)
  | false =>
    cases H4 : lessP p1 p4 with
    | true =>
      cases H5 : lessP p4 p5 with
      | true =>
        rw [show leastP [p1, p2, p3, p4, p5] = p5 by simp only [leastP, List.foldl_cons, List.foldl_nil, betterP_F H2, betterP_F H3, betterP_T H4, betterP_T H5]]
        exact fok [cCmp] [false, false, true, true] [pF H2, pF H3, pT H4, pT H5] (by kernel_rfl)
      | false =>
        rw [show leastP [p1, p2, p3, p4, p5] = p4 by simp only [leastP, List.foldl_cons, List.foldl_nil, betterP_F H2, betterP_F H3, betterP_T H4, betterP_F H5]]
        exact fok [cCmp] [false, false, true, false] [pF H2, pF H3, pT H4, pF H5] (by kernel_rfl)
    | false =>
      cases H5 : lessP p1 p5 with
      | true =>
        rw [show leastP [p1, p2, p3, p4, p5] = p5 by simp only [leastP, List.foldl_cons, List.foldl_nil, betterP_F H2, betterP_F H3, betterP_F H4, betterP_T H5]]
        exact fok [cCmp] [false, false, false, true] [pF H2, pF H3, pF H4, pT H5] (by kernel_rfl)
      | false =>
        rw [show leastP [p1, p2, p3, p4, p5] = p1 by simp only [leastP, List.foldl_cons, List.foldl_nil, betterP_F H2, betterP_F H3, betterP_F H4, betterP_F H5]]
        exact fok [cCmp] [false, false, false, false] [pF H2, pF H3, pF H4, pF H5] (by kernel_rfl)
theorem len4 {L : List Pr} (h : L.length = 4) : ∃ a b c d, L = [a, b, c, d] := by
  obtain ⟨a, _, rfl, h1⟩ := len_s h
  obtain ⟨b, _, rfl, h2⟩ := len_s h1
  obtain ⟨c, _, rfl, h3⟩ := len_s h2
  obtain ⟨d, _, rfl, h4⟩ := len_s h3
  obtain rfl := List.eq_nil_of_length_eq_zero h4
  exact ⟨a, b, c, d, rfl⟩
theorem least_ok {L : List Pr} {n : Nat} (hn : n = 4 ∨ n = 5) (hl : L.length = n) : Fok Tryz.prog 53 (lsA L) (.one (prI (leastP L))) := by
  rcases hn with h | h
  · obtain ⟨a, b, c, d, rfl⟩ := len4 (hl.trans h)
    exact least_4 a b c d
  · obtain ⟨a, M, rfl, hM⟩ := len_s (hl.trans h)
    obtain ⟨b, c, d, e, rfl⟩ := len4 hM
    cases H2 : lessP a b with
    | true => exact least_5T a b c d e H2
    | false => exact least_5F a b c d e H2
def cLeast : Con where
  f := 53
  g := fun | [⟨false, [.fs o l n z]⟩, ⟨false, [.v (.func (.func k) a b)]⟩] => if (o = 0 ∧ z = 20 ∧ (n = 4 ∨ n = 5)) ∧ (k = 54 ∧ a.size = 0 ∧ b.size = 0) then (toPrs n l).map fun L => (.one (prI (leastP L)), []) else none | _ => none
  ok := by
    intro args res ps h hp
    split at h <;> try cases h
    rename_i o l n z k a b
    split at h <;> try cases h
    rename_i hb
    obtain ⟨⟨rfl, rfl, hn⟩, rfl, ha, hb⟩ := hb
    cases hL : toPrs n l with
    | none => simp [hL] at h
    | some L =>
      simp only [hL, Option.map_some, Option.some.injEq, Prod.mk.injEq] at h
      obtain ⟨rfl, rfl⟩ := h
      rw [Array.eq_empty_of_size_eq_zero ha, Array.eq_empty_of_size_eq_zero hb]
      intro W vals hv
      have hv2 := hv
      simp only [rvs_cons, rvs_nil] at hv2
      obtain ⟨x, hx, _, rfl, y, hy, _, rfl, rfl⟩ := hv2
      obtain ⟨g, q, xs, T, e1, e2, e3, e4, e5, c, d, e6, e7, e8⟩ := hx.scal
      obtain ⟨l1, l2⟩ := toPrs_low hL e7 e8
      have hA : RepVs W W (fun _ => 0) 0 (lsA L) [x, y] := by
        refine rvs_cons.2 ⟨x, ?_, _, rfl, rvs_cons.2 ⟨y, hy, _, rfl, rfl⟩⟩
        rw [l1]
        exact RepI.val (i := .fs 0 _ n 20) ⟨g, q, xs, T, e1, e2, e3, e4, e5, c, d, e6, l2, e8⟩
      exact least_ok hn l1 W _ hA
end Go.Proofs.YtighahcllmoajaaGreat

namespace Go.Proofs.YtighahcllmoajaaGreat
open Go.RowKit

def d01Of : Con where
  f := 26
  g := fun | [⟨false, [.i z _]⟩] => some (.one (nmV (ofZ z)), []) | _ => none
  ok := by
    intro args res ps h _
    split at h <;> cases h
    intro W vals hv
    simp only [rvs_cons, rvs_nil, rv_i] at hv
    obtain ⟨_, ⟨⟨_, h1, h2⟩, rfl⟩, _, rfl, rfl⟩ := hv
    exact (r01_Of _ W h1 h2).mono fun _ _ h => gv_nm h
def d01Mul : Con where
  f := 128
  g := fun | [⟨true, [.d (.num a)]⟩, ⟨true, [.d (.num b)]⟩] => some (.tup [nmV (mulP a b).1, blV (mulP a b).2], []) | _ => none
  ok := by
    intro args res ps h _
    split at h <;> cases h
    intro W vals hv
    simp only [rvs_cons, rvs_nil, rv_t, rl_num, rl_nil] at hv
    obtain ⟨_, ⟨_, ⟨n, p, l, c, h1, _, rfl, rfl⟩, rfl⟩, _, rfl, _, ⟨_, ⟨m, q, k, d, h2, _, rfl, rfl⟩, rfl⟩, _, rfl, rfl⟩ := hv
    exact (r01_Mul _ _ _ _ _ _ _ _ _ _ W h1 h2).mono fun _ _ h => gv_nb h
theorem cmpP_b (a b : Nm) : (cmpP a b).natAbs ≤ 1 ∧ I64 (cmpP a b) := by
  have h : -1 ≤ cmpP a b ∧ cmpP a b ≤ 1 := by
    unfold cmpP
    split
    · exact cmpZ_bd _ _
    · omega
  exact ⟨by omega, by unfold I64; omega⟩
def d01Cmp : Con where
  f := 120
  g := fun | [⟨true, [.d (.num a)]⟩, ⟨true, [.d (.num b)]⟩] => some (.one (inV (cmpP a b) 1), []) | _ => none
  ok := by
    intro args res ps h _
    split at h <;> cases h
    intro W vals hv
    simp only [rvs_cons, rvs_nil, rv_t, rl_num, rl_nil] at hv
    obtain ⟨_, ⟨_, ⟨n, p, l, c, h1, _, rfl, rfl⟩, rfl⟩, _, rfl, _, ⟨_, ⟨m, q, k, d, h2, _, rfl, rfl⟩, rfl⟩, _, rfl, rfl⟩ := hv
    exact (r01_Cmp _ _ _ _ _ _ _ _ _ _ W h1 h2).mono fun _ _ h => gv_in (cmpP_b _ _) h
def d02Of : Con where
  f := 77
  g := fun | [⟨false, [.i a _]⟩, ⟨false, [.i s _]⟩, ⟨true, [.d (.num n)]⟩, ⟨true, [.d (.num d)]⟩] => some (.tup [rtV (ofP a s n d).1, blV (ofP a s n d).2], []) | _ => none
  ok := by
    intro args res ps h _
    split at h <;> cases h
    intro W vals hv
    simp only [rvs_cons, rvs_nil, rv_t, rv_i, rl_num, rl_nil] at hv
    obtain ⟨_, ⟨⟨_, i1⟩, rfl⟩, _, rfl, _, ⟨_, rfl⟩, _, rfl, _, ⟨_, ⟨n, p, l, c, h1, _, rfl, rfl⟩, rfl⟩, _, rfl, _, ⟨_, ⟨m, q, k, d, h2, _, rfl, rfl⟩, rfl⟩, _, rfl, rfl⟩ := hv
    refine (r02_Of _ _ _ _ _ _ _ _ _ _ _ _ W h1 h2).mono fun e w' h => ?_
    obtain ⟨n, p, l, c, m, q, k, d, rfl, h1, h2, h3⟩ := h
    exact ⟨_, rfl, ⟨[_, _], rfl, rvs_cons.2 ⟨_, rtV_rep (ofP_add _ _ _ _ i1) h1 h2, _, rfl, rvs_cons.2 ⟨_, rv_v.2 ⟨rfl, rfl⟩, _, rfl, rfl⟩⟩⟩, h3⟩
def d02Cmp : Con where
  f := 58
  g := fun | [⟨true, [.i a _, .i s _, .d (.num n), .d (.num d)]⟩, ⟨true, [.i b _, .i t _, .d (.num m), .d (.num e)]⟩] => some (.one (inV (cmpRt ⟨a, s, n, d⟩ ⟨b, t, m, e⟩) 1), []) | _ => none
  ok := by
    intro args res ps h hp
    split at h <;> cases h
    intro W vals hv
    simp only [rvs_cons, rvs_nil, rv_t, rl_i, rl_num, rl_nil] at hv
    obtain ⟨_, ⟨_, ⟨⟨_, i1⟩, _, rfl, ⟨_, i2⟩, _, rfl, n1, p1, l1, c1, h1, _, rfl, m1, q1, k1, d1, h2, _, rfl, rfl⟩, rfl⟩, _, rfl, _, ⟨_, ⟨⟨_, i3⟩, _, rfl, ⟨_, i4⟩, _, rfl, n2, p2, l2, c2, h3, _, rfl, m2, q2, k2, d2, h4, _, rfl, rfl⟩, rfl⟩, _, rfl, rfl⟩ := hv
    exact (r02_Cmp _ _ _ _ _ _ _ _ _ _ _ _ _ _ _ _ _ _ _ _ _ _ _ _ W h1 h2 h3 h4 i1 i3).mono fun _ _ h => gv_in (cmpRt_bd _ _) h
def KR : List Con := [d01Of, d01Mul, d01Cmp, d02Of, d02Cmp, d06Chk, d06Rad, d05Right]
end Go.Proofs.YtighahcllmoajaaGreat
