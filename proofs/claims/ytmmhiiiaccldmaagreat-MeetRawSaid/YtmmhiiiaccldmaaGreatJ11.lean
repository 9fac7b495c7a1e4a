/- Contracts: motions (vec.turns, vec.Apply; etchantref05.Turns, turned, mirrored, Apply, Side). | Contracts: the families of edges, whether an edge is valid (edge.lone, quarter, leftwards, rightwards, families, of, Check). -/
import Derived.Test.YtmmhiiiaccldmaaGreatJ10
import Derived.Laws.EntriesVeiled
set_option linter.unusedVariables false
set_option linter.unusedSimpArgs false

namespace Go.Proofs.YtmmhiiiaccldmaaGreat
open Go.RowKit
attribute [local go_sem] Gives givesU

set_option maxRecDepth 100000 in
set_option maxHeartbeats 1000000 in
theorem r05_Side (ax ay bx by' px py : Int) (w : World) (h1 : I64 (bx - ax)) (h2 : I64 (by' - ay)) (h3 : I64 (px - ax)) (h4 : I64 (py - ay))
    (h5 : I64 ((bx - ax) * (py - ay))) (h6 : I64 ((by' - ay) * (px - ax))) (h7 : I64 ((bx - ax) * (py - ay) - (by' - ay) * (px - ax))) :
    Calls Tryz.prog 49 #[.agg #[.int .i64 ax, .int .i64 ay], .agg #[.int .i64 bx, .int .i64 by'], .agg #[.int .i64 px, .int .i64 py]] w fun e w' => e = .returned (.int .i64 (sideI ((bx - ax) * (py - ay) - (by' - ay) * (px - ax)))) ∧ Ext w w' := by
  go_enter Tryz.func49, Tryz.ntmps49
  go_wp2
  refine wp_FS (fun W => W.cell? ⟨w.heap.size, 0, none⟩ = some (.int .i64 ax) ∧ W.cell? ⟨w.heap.size, 1, none⟩ = some (.int .i64 ay) ∧ W.cell? ⟨w.heap.size + 1, 0, none⟩ = some (.int .i64 bx) ∧ W.cell? ⟨w.heap.size + 1, 1, none⟩ = some (.int .i64 by') ∧ W.cell? ⟨w.heap.size + 1 + 1, 0, none⟩ = some (.int .i64 px) ∧ W.cell? ⟨w.heap.size + 1 + 1, 1, none⟩ = some (.int .i64 py)) ?_
  repeat (first | refine F_s ?_ | refine F_r ?_)
  (refine F_call (v := .agg #[.int .i64 (bx-ax), .int .i64 (by'-ay)]) (by rfl) (by rfl) ?_ ?_; (· (intro W hW; (try dsimp only at hW); go_simp; refine (r05_Sub _ _ _ _ _ h1 h2).mono ?_; rintro e w' ⟨rfl, hx⟩; exact ⟨_, rfl, rfl, hx⟩))); refine F_put ?_
  repeat (first | refine F_s ?_ | refine F_r ?_)
  (refine F_call (v := .agg #[.int .i64 (px-ax), .int .i64 (py-ay)]) (by rfl) (by rfl) ?_ ?_; (· (intro W hW; (try dsimp only at hW); go_simp; refine (r05_Sub _ _ _ _ _ h3 h4).mono ?_; rintro e w' ⟨rfl, hx⟩; exact ⟨_, rfl, rfl, hx⟩))); refine F_put ?_
  (refine F_call (v := .int .i64 ((bx - ax) * (py - ay) - (by' - ay) * (px - ax))) (by rfl) (by rfl) ?_ ?_; (· (intro W hW; (try dsimp only at hW); go_simp; refine (r05_Cross _ _ _ _ _ h5 h6 h7).mono ?_; rintro e w' ⟨rfl, hx⟩; exact ⟨_, rfl, rfl, hx⟩))); refine F_put ?_
  repeat (first | refine F_s ?_ | refine F_r ?_)
  rintro W ⟨hx, hc⟩
  have hx0 : Ext w W := Ext.step bxx hx
  clear hx hc
  obtain ⟨h7a, h7b⟩ := h7
  go_wp2
  all_goals
    go_ret
    exact ⟨ret_int (by unfold sideI; (repeat' split) <;> omega), hx0⟩

/-- A vector turned by so many quarters, to the left. -/
def rot : Nat → Int × Int → Int × Int
  | 0, p => p
  | n + 1, p => (-(rot n p).2, (rot n p).1)
def mir (b : Bool) (p : Int × Int) : Int × Int := if b then (-p.1, p.2) else p
def applyP (ax ay t : Int) (m : Bool) (x y : Int) : Int × Int := ((rot t.toNat (mir m (x, y))).1 + ax, (rot t.toNat (mir m (x, y))).2 + ay)
/-- A bound that leaves room. -/
def Lo (x : Int) : Prop := -1152921504606846976 ≤ x ∧ x ≤ 1152921504606846976
theorem mir_lo {b : Bool} {p : Int × Int} (h1 : Lo p.1) (h2 : Lo p.2) : Lo (mir b p).1 ∧ Lo (mir b p).2 := by
  unfold Lo mir at *
  cases b
  · exact ⟨h1, h2⟩
  · exact ⟨by simp; omega, h2⟩
theorem rot_lo {p : Int × Int} (h1 : Lo p.1) (h2 : Lo p.2) (n : Nat) : Lo (rot n p).1 ∧ Lo (rot n p).2 := by
  induction n with
  | zero => exact ⟨h1, h2⟩
  | succ n ih =>
    obtain ⟨a, b⟩ := ih
    unfold Lo at *
    simp only [rot]
    exact ⟨by omega, a⟩

set_option maxRecDepth 100000 in
set_option maxHeartbeats 1000000 in
theorem vec_turns (ax ay t : Int) (m : Bool) (w : World) (h : 0 ≤ t ∧ t ≤ 3) :
    Calls Tryz.prog 114 #[.agg #[.int .i64 ax, .int .i64 ay, .int .i64 t, .bool m]] w fun e w' => e = .returned (.int .i64 t) ∧ Ext w w' := by
  obtain rfl | rfl | rfl | rfl : t = 0 ∨ t = 1 ∨ t = 2 ∨ t = 3 := by omega
  all_goals
    go_enter Tryz.func114, Tryz.ntmps114
    go_wp2
    go_ret
    exact ⟨rfl, bxx⟩

set_option maxRecDepth 100000 in
set_option maxHeartbeats 2000000 in
theorem vec_Apply (ax ay t x y : Int) (m : Bool) (w : World) (ht : 0 ≤ t ∧ t ≤ 3) (h1 : Lo ax) (h2 : Lo ay) (h3 : Lo x) (h4 : Lo y) :
    Calls Tryz.prog 110 #[.agg #[.int .i64 ax, .int .i64 ay, .int .i64 t, .bool m], .agg #[.int .i64 x, .int .i64 y]] w fun e w' => e = .returned (.agg #[.int .i64 (applyP ax ay t m x y).1, .int .i64 (applyP ax ay t m x y).2]) ∧ Ext w w' := by
  obtain ⟨n, rfl⟩ := Int.eq_ofNat_of_zero_le ht.1
  have hn : n ≤ 3 := by omega
  obtain ⟨l1, l2⟩ := mir_lo (b := m) (p := (x, y)) h3 h4
  obtain ⟨q, MQ⟩ : ∃ q, Hid (mir m (x, y) = q) := ⟨_, rfl⟩
  rw [MQ.out] at l1 l2
  have RL := Lib.hid (rot_lo l1 l2)
  have RES : Hid (applyP ax ay n m x y = ((rot n q).1 + ax, (rot n q).2 + ay)) := by show applyP ax ay n m x y = _; unfold applyP; rw [MQ.out]; rfl
  clear l1 l2
  unfold Lo at h3 h4
  cases m
  all_goals
    go_enter Tryz.func110, Tryz.ntmps110
    go_wp2_with fail
    refine (vec_turns _ _ _ _ _ ht).mono ?_
    rintro e w1 ⟨rfl, hx⟩
    have hx0 : Ext w w1 := Ext.step bxx hx
    have hs := hx.size
    simp at hs
    have hbc : ∀ b o, b < w.heap.size + 3 → w1.cell? ⟨b, o, none⟩ = _ := fun b o h => hx.cell (p := ⟨b, o, none⟩) (by simp; omega)
    have hbf : ∀ b o, b < w.heap.size + 3 → w1.frozen? ⟨b, o, none⟩ = _ := fun b o h => hx.frozen (p := ⟨b, o, none⟩) (by simp; omega)
    have m0 : w1.cell? ⟨w.heap.size, 0, none⟩ = some (.int .i64 ax) := (hbc _ _ (by omega)).trans (by go_simp)
    have m1 : w1.cell? ⟨w.heap.size, 1, none⟩ = some (.int .i64 ay) := (hbc _ _ (by omega)).trans (by go_simp)
    have p0 : w1.cell? ⟨w.heap.size + 1, 0, none⟩ = some (.int .i64 (rot 0 q).1) := (hbc _ _ (by omega)).trans (by rw [← MQ.out]; go_simp; rfl)
    have p1 : w1.cell? ⟨w.heap.size + 1, 1, none⟩ = some (.int .i64 (rot 0 q).2) := (hbc _ _ (by omega)).trans (by rw [← MQ.out]; go_simp; rfl)
    have pf : ∀ o, w1.frozen? ⟨w.heap.size + 1, o, none⟩ = false := fun o => (hbf _ _ (by omega)).trans (by go_simp)
    have r0 : w1.cell? ⟨w.heap.size + 1 + 1, 0, none⟩ = some (.int .i64 0) := (hbc _ _ (by omega)).trans (by go_simp)
    have r1 : w1.cell? ⟨w.heap.size + 1 + 1, 1, none⟩ = some (.int .i64 0) := (hbc _ _ (by omega)).trans (by go_simp)
    have rf : ∀ o, w1.frozen? ⟨w.heap.size + 1 + 1, o, none⟩ = false := fun o => (hbf _ _ (by omega)).trans (by go_simp)
    clear hx hbc hbf
    go_wp2_with fail
    go_loopw [13] (fun i wr => ∃ k : Nat, k ≤ n ∧ i = .int .i64 (k : Int) ∧ wr.cell? ⟨w.heap.size, 0, none⟩ = some (.int .i64 ax) ∧ wr.cell? ⟨w.heap.size, 1, none⟩ = some (.int .i64 ay) ∧ wr.cell? ⟨w.heap.size + 1, 0, none⟩ = some (.int .i64 (rot k q).1) ∧ wr.cell? ⟨w.heap.size + 1, 1, none⟩ = some (.int .i64 (rot k q).2) ∧ (∀ o, wr.frozen? ⟨w.heap.size + 1, o, none⟩ = false) ∧ wr.cell? ⟨w.heap.size + 1 + 1, 0, none⟩ = some (.int .i64 0) ∧ wr.cell? ⟨w.heap.size + 1 + 1, 1, none⟩ = some (.int .i64 0) ∧ (∀ o, wr.frozen? ⟨w.heap.size + 1 + 1, o, none⟩ = false) ∧ w.heap.size + 3 ≤ wr.heap.size ∧ Ext w wr) (fun i _ => n - (intOf i).toNat)
    case atStart => exact ⟨0, Nat.zero_le _, rfl, m0, m1, p0, p1, pf, r0, r1, rf, hs, hx0⟩
    case round =>
      clear m0 m1 p0 p1 pf r0 r1 rf hs hx0
      obtain ⟨k, hk, rfl, m0, m1, p0, p1, pf, r0, r1, rf, hs, hx0⟩ := hrel
      by_cases hlt : k < n
      · have l1 := (RL.out k).1
        have l2 := (RL.out k).2
        unfold Lo at l1 l2
        go_wp2
        exact ⟨⟨k + 1, by omega, rfl, by go_simp, by go_simp, by go_simp; rfl, by go_simp; rfl, fun o => by go_simp, by go_simp, by go_simp, fun o => by go_simp, by simp; omega, bxx⟩, by simp [intOf]; omega⟩
      · obtain rfl : k = n := by omega
        have l1 := (RL.out k).1
        have l2 := (RL.out k).2
        obtain ⟨u, U⟩ : ∃ u, Hid ((rot k q).1 = u) := ⟨_, rfl⟩
        obtain ⟨v, V⟩ : ∃ v, Hid ((rot k q).2 = v) := ⟨_, rfl⟩
        rw [U.out] at p0 l1
        rw [V.out] at p1 l2
        unfold Lo at l1 l2 h1 h2
        go_wp2_with fail
        refine (vec_Add _ _ _ _ _ ⟨by omega, by omega⟩ ⟨by omega, by omega⟩).mono ?_
        rintro e w2 ⟨rfl, hx⟩
        have hs2 := hx.size
        have hx2 : Ext w w2 := Ext.step hx0 hx
        have hbf : ∀ b o, b < w.heap.size + 3 → w2.frozen? ⟨b, o, none⟩ = _ := fun b o h => hx.frozen (p := ⟨b, o, none⟩) (by simp; omega)
        have hbc : ∀ b o, b < w.heap.size + 3 → w2.cell? ⟨b, o, none⟩ = _ := fun b o h => hx.cell (p := ⟨b, o, none⟩) (by simp; omega)
        have r0' : w2.cell? ⟨w.heap.size + 1 + 1, 0, none⟩ = some (.int .i64 0) := (hbc _ _ (by omega)).trans (by go_simp)
        have r1' : w2.cell? ⟨w.heap.size + 1 + 1, 1, none⟩ = some (.int .i64 0) := (hbc _ _ (by omega)).trans (by go_simp)
        have rf' : ∀ o, w2.frozen? ⟨w.heap.size + 1 + 1, o, none⟩ = false := fun o => (hbf _ _ (by omega)).trans (by go_simp)
        clear hbf hbc m0 m1 p0 p1 pf r0 r1 rf hx
        go_wp2
        refine bodyPost_ret (v := .agg #[.int .i64 (u+ax), .int .i64 (v+ay)]) (by simp [results, Tryz.results110, go_sem, *]) rfl ⟨?_, bxx⟩
        rw [RES.out, U.out, V.out]
end Go.Proofs.YtmmhiiiaccldmaaGreat

namespace Go.Proofs.YtmmhiiiaccldmaaGreat
open Go.RowKit
attribute [local go_sem] Gives givesU

/-- An edge. -/
structure Ed where
  k : Int
  ax : Int
  ay : Int
  bx : Int
  by' : Int
  cx : Int
  cy : Int
  deriving DecidableEq

/-- A coordinate within the bounds. -/
def Co (x : Int) : Prop := -67108864 ≤ x ∧ x ≤ 67108864
theorem coordB_iff {x y : Int} : coordB x y = true ↔ Co x ∧ Co y := by
  simp [coordB, Co]; constructor
  · intro h; omega
  · intro h; omega

/-- Whether u is d, turned by t quarters, and d lies on an axis. -/
def quarterB (dx dy ux uy : Int) (t : Nat) : Bool := ((dx == 0) != (dy == 0)) && (ux == (rot t (dx, dy)).1 && uy == (rot t (dx, dy)).2)
def Ed.right (e : Ed) : Bool := coordB e.ax e.ay && coordB e.bx e.by' && coordB e.cx e.cy
def Ed.lone (e : Ed) : Bool := e.cx == 0 && e.cy == 0
def Ed.quarter (e : Ed) (t : Nat) : Bool := quarterB (e.ax - e.cx) (e.ay - e.cy) (e.bx - e.cx) (e.by' - e.cy) t
def Ed.ok (e : Ed) : Bool := e.right && (if e.k = 1 then e.lone else if e.k = 2 then e.quarter 1 else if e.k = 3 then e.quarter 3 else false)

/-- == on points. -/
theorem eql_pt (w : World) (a b c d : Int) : (binOp .eql 25 (.agg #[.int .i64 a, .int .i64 b]) (.agg #[.int .i64 c, .int .i64 d])).run Tryz.prog w = .ok (.bool (a == c && b == d)) w := by
  by_cases h : a = c
  · by_cases h2 : b = d
    · subst h h2; go_simp
    · have h3 : (b == d) = false := by simpa using h2
      subst h
      go_simp
  · have h3 : (a == c) = false := by simpa using h
    go_simp
set_option maxRecDepth 100000 in
set_option maxHeartbeats 1000000 in
theorem edge_lone (k ax ay bx by' cx cy : Int) (w : World) :
    Calls Tryz.prog 72 #[.agg #[.int .i64 k, .int .i64 ax, .int .i64 ay, .int .i64 bx, .int .i64 by', .int .i64 cx, .int .i64 cy]] w fun e w' => e = .returned (.bool (Ed.mk k ax ay bx by' cx cy).lone) ∧ Ext w w' := by
  have heq := eql_pt
  go_enter Tryz.func72, Tryz.ntmps72
  go_wp2
  go_ret
  exact ⟨rfl, bxx⟩

set_option maxRecDepth 100000 in
set_option maxHeartbeats 2000000 in
theorem edge_quarter (k ax ay bx by' cx cy : Int) (t : Int) (w : World) (ht : 0 ≤ t ∧ t ≤ 3) (hax : Co ax) (hay : Co ay) (hbx : Co bx) (hby : Co by') (hcx : Co cx) (hcy : Co cy) :
    Calls Tryz.prog 93 #[.agg #[.int .i64 k, .int .i64 ax, .int .i64 ay, .int .i64 bx, .int .i64 by', .int .i64 cx, .int .i64 cy], .int .i64 t] w fun e w' => e = .returned (.bool ((Ed.mk k ax ay bx by' cx cy).quarter t.toNat)) ∧ Ext w w' := by
  unfold Co at *
  obtain ⟨n, rfl⟩ := Int.eq_ofNat_of_zero_le ht.1
  obtain ⟨q, AP⟩ : ∃ q, Hid (applyP 0 0 (n : Int) false (ax - cx) (ay - cy) = q) := ⟨_, rfl⟩
  have APC := fun w => vec_Apply 0 0 (n : Int) (ax - cx) (ay - cy) false w ht (by unfold Lo; omega) (by unfold Lo; omega) (by unfold Lo; omega) (by unfold Lo; omega)
  rw [AP.out] at APC
  have SB := fun w => vec_Sub bx by' cx cy w ⟨by omega, by omega⟩ ⟨by omega, by omega⟩
  have APC := Lib.hid APC
  have SB := Lib.hid SB
  have RES : Hid ((Ed.mk k ax ay bx by' cx cy).quarter (n : Int).toNat = ((((ax - cx) == 0) != ((ay - cy) == 0)) && (bx - cx == q.1 && by' - cy == q.2))) := by
    show (Ed.mk k ax ay bx by' cx cy).quarter _ = _
    rw [← AP.out]
    simp [Ed.quarter, quarterB, applyP, mir]
  have heq := eql_pt
  go_enter Tryz.func93, Tryz.ntmps93
  go_wp2_with fail
  refine (vec_Sub ax ay cx cy _ ⟨by omega, by omega⟩ ⟨by omega, by omega⟩).mono ?_
  rintro e w1 ⟨rfl, hx⟩
  have hs := hx.size
  simp at hs
  have hx0 : Ext w w1 := Ext.step bxx hx
  have hbc : ∀ b o, b < w.heap.size + 1 → w1.cell? ⟨b, o, none⟩ = _ := fun b o h => hx.cell (p := ⟨b, o, none⟩) (by simp; omega)
  have e0 : ∀ o, w1.cell? ⟨w.heap.size, o, none⟩ = _ := fun o => hbc w.heap.size o (by omega)
  have hl : w.heap.size < w1.heap.size := by omega
  clear hbc hx
  go_wp2_with fail
  rw [bne] at RES
  have CASE : ((((ax - cx) == 0) == ((ay - cy) == 0)) = false) ∨ ((((ax - cx) == 0) == ((ay - cy) == 0)) = true) := by cases (((ax - cx) == 0) == ((ay - cy) == 0)) <;> simp
  rcases CASE with g0 | g0
  · rw [g0] at RES
    refine wp_FS (fun W => W.cell? ⟨w.heap.size, 0, none⟩ = some (.int .i64 k) ∧ W.cell? ⟨w.heap.size, 1, none⟩ = some (.int .i64 ax) ∧ W.cell? ⟨w.heap.size, 2, none⟩ = some (.int .i64 ay) ∧ W.cell? ⟨w.heap.size, 3, none⟩ = some (.int .i64 bx) ∧ W.cell? ⟨w.heap.size, 4, none⟩ = some (.int .i64 by') ∧ W.cell? ⟨w.heap.size, 5, none⟩ = some (.int .i64 cx) ∧ W.cell? ⟨w.heap.size, 6, none⟩ = some (.int .i64 cy) ∧ W.cell? ⟨w1.heap.size, 0, none⟩ = some (.int .i64 (ax-cx)) ∧ W.cell? ⟨w1.heap.size, 1, none⟩ = some (.int .i64 (ay-cy))) ?_
    repeat (first | refine F_s ?_ | refine F_r ?_)
    (refine F_call (v := .agg #[.int .i64 (bx-cx), .int .i64 (by'-cy)]) (by rfl) (by rfl) ?_ ?_; (· (intro W hW; (try dsimp only at hW); go_simp; refine (SB.out _).mono ?_; rintro e w' ⟨rfl, hx⟩; exact ⟨_, rfl, rfl, hx⟩))); refine F_put ?_
    repeat (first | refine F_s ?_ | refine F_r ?_)
    (refine F_call (v := .agg #[.int .i64 q.1, .int .i64 q.2]) (by rfl) (by rfl) ?_ ?_; (· (intro W hW; (try dsimp only at hW); go_simp; refine (APC.out _).mono ?_; rintro e w' ⟨rfl, hx⟩; exact ⟨_, rfl, rfl, hx⟩))); refine F_put ?_
    repeat (first | refine F_s ?_ | refine F_r ?_)
    rintro W ⟨hx, hc⟩
    have hx1 : Ext w W := Ext.step bxx hx
    clear hx hc
    go_wp2
    go_ret
    exact ⟨ret_bool (by rw [RES.out]; rfl), hx1⟩
  · rw [g0] at RES
    refine wp_FS (fun W => W.cell? ⟨w.heap.size, 0, none⟩ = some (.int .i64 k) ∧ W.cell? ⟨w.heap.size, 1, none⟩ = some (.int .i64 ax) ∧ W.cell? ⟨w.heap.size, 2, none⟩ = some (.int .i64 ay) ∧ W.cell? ⟨w.heap.size, 3, none⟩ = some (.int .i64 bx) ∧ W.cell? ⟨w.heap.size, 4, none⟩ = some (.int .i64 by') ∧ W.cell? ⟨w.heap.size, 5, none⟩ = some (.int .i64 cx) ∧ W.cell? ⟨w.heap.size, 6, none⟩ = some (.int .i64 cy) ∧ W.cell? ⟨w1.heap.size, 0, none⟩ = some (.int .i64 (ax-cx)) ∧ W.cell? ⟨w1.heap.size, 1, none⟩ = some (.int .i64 (ay-cy))) ?_
    repeat (first | refine F_s ?_ | refine F_r ?_)
    rintro W ⟨hx, hc⟩
    have hx1 : Ext w W := Ext.step bxx hx
    clear hx hc
    go_wp2
    go_ret
    exact ⟨ret_bool (by rw [RES.out]; rfl), hx1⟩

set_option maxRecDepth 100000 in
set_option maxHeartbeats 1000000 in
theorem edge_leftwards (k ax ay bx by' cx cy : Int) (w : World) (hax : Co ax) (hay : Co ay) (hbx : Co bx) (hby : Co by') (hcx : Co cx) (hcy : Co cy) :
    Calls Tryz.prog 75 #[.agg #[.int .i64 k, .int .i64 ax, .int .i64 ay, .int .i64 bx, .int .i64 by', .int .i64 cx, .int .i64 cy]] w fun e w' => e = .returned (.bool ((Ed.mk k ax ay bx by' cx cy).quarter 1)) ∧ Ext w w' := by
  go_enter Tryz.func75, Tryz.ntmps75
  go_wp2_with fail
  refine (edge_quarter k ax ay bx by' cx cy 1 _ (by omega) hax hay hbx hby hcx hcy).mono ?_
  rintro e w1 ⟨rfl, hx⟩
  have hx0 : Ext w w1 := Ext.step bxx hx
  go_wp2
  go_ret
  exact ⟨rfl, hx0⟩
set_option maxRecDepth 100000 in
set_option maxHeartbeats 1000000 in
theorem edge_rightwards (k ax ay bx by' cx cy : Int) (w : World) (hax : Co ax) (hay : Co ay) (hbx : Co bx) (hby : Co by') (hcx : Co cx) (hcy : Co cy) :
    Calls Tryz.prog 78 #[.agg #[.int .i64 k, .int .i64 ax, .int .i64 ay, .int .i64 bx, .int .i64 by', .int .i64 cx, .int .i64 cy]] w fun e w' => e = .returned (.bool ((Ed.mk k ax ay bx by' cx cy).quarter 3)) ∧ Ext w w' := by
  go_enter Tryz.func78, Tryz.ntmps78
  go_wp2_with fail
  refine (edge_quarter k ax ay bx by' cx cy 3 _ (by omega) hax hay hbx hby hcx hcy).mono ?_
  rintro e w1 ⟨rfl, hx⟩
  have hx0 : Ext w w1 := Ext.step bxx hx
  go_wp2
  go_ret
  exact ⟨rfl, hx0⟩

/-- The family of a kind, as it lies in memory. -/
structure Fam where
  c : Value
  o : Value
  r : Value
  k : Int
def fam (k : Int) : Fam :=
  if k = 1 then ⟨.func (.func 72) #[] #[], .func (.func 73) #[] #[], .func (.func 74) #[] #[], 1⟩
  else if k = 2 then ⟨.func (.func 75) #[] #[], .func (.func 76) #[] #[], .func (.func 77) #[] #[], 3⟩
  else if k = 3 then ⟨.func (.func 78) #[] #[], .func (.func 76) #[] #[], .func (.func 77) #[] #[], 2⟩
  else ⟨.nilFunc, .nilFunc, .nilFunc, k⟩
def kindB (k : Int) : Bool := k == 1 || k == 2 || k == 3

set_option maxRecDepth 100000 in
set_option maxHeartbeats 1000000 in
theorem edge_families (k : Int) (w : World) : Calls Tryz.prog 59 #[.int .i64 k] w fun e w' => e = .returned (.tuple #[.agg #[(fam k).c, (fam k).o, (fam k).r, .int .i64 (fam k).k], .bool (kindB k)]) ∧ Ext w w' := by
  by_cases k1 : k = 1
  · subst k1
    go_enter Tryz.func59, Tryz.ntmps59
    go_wp2
    exact bodyPost_ret (v := .tuple #[.agg #[.func (.func 72) #[] #[], .func (.func 73) #[] #[], .func (.func 74) #[] #[], .int .i64 1], .bool true]) (by simp [results, Tryz.results59, go_sem]) rfl ⟨rfl, bxx⟩
  · by_cases k2 : k = 2
    · subst k2
      clear k1
      go_enter Tryz.func59, Tryz.ntmps59
      go_wp2
      exact bodyPost_ret (v := .tuple #[.agg #[.func (.func 75) #[] #[], .func (.func 76) #[] #[], .func (.func 77) #[] #[], .int .i64 3], .bool true]) (by simp [results, Tryz.results59, go_sem]) rfl ⟨rfl, bxx⟩
    · by_cases k3 : k = 3
      · subst k3
        clear k1 k2
        go_enter Tryz.func59, Tryz.ntmps59
        go_wp2
        exact bodyPost_ret (v := .tuple #[.agg #[.func (.func 78) #[] #[], .func (.func 76) #[] #[], .func (.func 77) #[] #[], .int .i64 2], .bool true]) (by simp [results, Tryz.results59, go_sem]) rfl ⟨rfl, bxx⟩
      · have b1 : (k == 1) = false := by simpa using k1
        have b2 : (k == 2) = false := by simpa using k2
        have b3 : (k == 3) = false := by simpa using k3
        have RES : Hid (fam k = ⟨.nilFunc, .nilFunc, .nilFunc, k⟩ ∧ kindB k = false) := ⟨by unfold fam; rw [if_neg k1, if_neg k2, if_neg k3], by unfold kindB; rw [b1, b2, b3]; rfl⟩
        clear k1 k2 k3
        go_enter Tryz.func59, Tryz.ntmps59
        go_wp2
        refine bodyPost_ret (v := .tuple #[.agg #[.nilFunc, .nilFunc, .nilFunc, .int .i64 k], .bool false]) (by simp [results, Tryz.results59, go_sem]) rfl ⟨?_, bxx⟩
        rw [RES.out.1, RES.out.2]
end Go.Proofs.YtmmhiiiaccldmaaGreat
