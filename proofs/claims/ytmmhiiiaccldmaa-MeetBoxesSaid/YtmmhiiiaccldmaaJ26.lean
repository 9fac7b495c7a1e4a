/- Contract: etchantlaw07.sanity: the law's examples. -/
import Derived.Test.YtmmhiiiaccldmaaJ21
import Derived.Test.YtmmhiiiaccldmaaJ25
set_option linter.unusedVariables false
set_option linter.unusedSimpArgs false

namespace Go.Proofs.Ytmmhiiiaccldmaa
open Go.RowKit
attribute [local go_sem] Gives givesU

set_option maxRecDepth 100000 in
set_option maxHeartbeats 1000000 in
theorem law_line (a b c d : Int) (w : World) : Calls Try.prog 23 #[.int .i64 a, .int .i64 b, .int .i64 c, .int .i64 d] w fun e w' => e = .returned (.agg #[.int .i64 1, .int .i64 a, .int .i64 b, .int .i64 c, .int .i64 d, .int .i64 0, .int .i64 0]) ∧ Ext w w' := by
  go_enter Try.func23, Try.ntmps23
  go_wp2
  exact bodyPost_ret (v := .agg #[.int .i64 1, .int .i64 a, .int .i64 b, .int .i64 c, .int .i64 d, .int .i64 0, .int .i64 0]) (by simp [results, Try.results23, go_sem]) rfl ⟨rfl, by (repeat (first | exact Below.refl _ _ | assumption | refine Below.drewN ?_ _ | refine Below.drew ?_ | refine Below.setCell ?_ (by first | exact Nat.le_refl _ | (simp; done) | (simp; omega) | omega) _ | refine Below.alloc ?_ (by first | exact Nat.le_refl _ | (simp; done) | (simp; omega) | omega) _))⟩
set_option maxRecDepth 100000 in
set_option maxHeartbeats 1000000 in
theorem law_left (a b c d x y : Int) (w : World) : Calls Try.prog 22 #[.int .i64 a, .int .i64 b, .int .i64 c, .int .i64 d, .int .i64 x, .int .i64 y] w fun e w' => e = .returned (.agg #[.int .i64 2, .int .i64 a, .int .i64 b, .int .i64 c, .int .i64 d, .int .i64 x, .int .i64 y]) ∧ Ext w w' := by
  go_enter Try.func22, Try.ntmps22
  go_wp2
  exact bodyPost_ret (v := .agg #[.int .i64 2, .int .i64 a, .int .i64 b, .int .i64 c, .int .i64 d, .int .i64 x, .int .i64 y]) (by simp [results, Try.results22, go_sem]) rfl ⟨rfl, by (repeat (first | exact Below.refl _ _ | assumption | refine Below.drewN ?_ _ | refine Below.drew ?_ | refine Below.setCell ?_ (by first | exact Nat.le_refl _ | (simp; done) | (simp; omega) | omega) _ | refine Below.alloc ?_ (by first | exact Nat.le_refl _ | (simp; done) | (simp; omega) | omega) _))⟩

section
variable {P : Program} {ops : Array Oper} {S : World → Prop} {Q : Act → World → Prop} {o : Oper} {l : List Oper} {a : Act} {own : List Nat} {F : World → Prop}
/-- An operation that makes one new block. -/
theorem F_blk (obj : Obj) (sh : Nat → Value) (hk : fkind o = 2) (hw : Region.wanted o (yielded ops a.tmps) = true)
    (hr : ∀ W, F W → (execOp a.eval o).run P W = .ok (.value (sh W.heap.size)) (W.alloc obj))
    (h : ∀ g, (∃ w : World, F w ∧ w.heap[g]? = some obj) → WpF P ops S Q l (a.put o.dst (sh g)) own (fun w => F w ∧ w.heap[g]? = some obj)) : WpF P ops S Q (o :: l) a own F :=
  F_callE sh (fun g w => w.heap[g]? = some obj) (fun g => fmono_obj g obj) hk hw (fun W hf => by
    unfold Gives
    rw [hr W hf]
    exact ⟨W.heap.size, rfl, (Below.refl _ _).alloc (Nat.le_refl _) _, heap_alloc_new W obj⟩) h
end

def tabObj : Obj := .cells (tabz.map fun z => Value.int .i64 z).toArray 51
theorem tab_cell {W : World} {g : Nat} (h : W.heap[g]? = some tabObj) (o : Nat) (ho : o < 255) : W.cell? ⟨g, o, none⟩ = some (.int .i64 (tz o)) := by
  have hl : tabz.length = 255 := by decide +kernel
  rw [cell_of_row _ _ _ _ _ _ h]
  simp [tz, List.getElem?_eq_getElem (show o < tabz.length by omega)]

set_option maxRecDepth 100000 in
set_option maxHeartbeats 16000000 in
theorem law_sanity (w : World) : Calls Try.prog 8 #[] w fun e w' => e = .returned (.bool true) ∧ Ext w w' := by
  go_enter Try.func8, Try.ntmps8
  go_wp2_with fail
  refine (law_left 5 0 0 5 0 0 _).mono ?_
  rintro e w1 ⟨rfl, hx1⟩
  have hs1 := hx1.size
  go_upto_region 2 with (fail)
  refine wp_world (fun W => Ext w W ∧ W.cell? ⟨w1.heap.size, 0, none⟩ = some (.int .i64 2) ∧ W.cell? ⟨w1.heap.size, 1, none⟩ = some (.int .i64 5) ∧ W.cell? ⟨w1.heap.size, 2, none⟩ = some (.int .i64 0) ∧ W.cell? ⟨w1.heap.size, 3, none⟩ = some (.int .i64 0) ∧ W.cell? ⟨w1.heap.size, 4, none⟩ = some (.int .i64 5) ∧ W.cell? ⟨w1.heap.size, 5, none⟩ = some (.int .i64 0) ∧ W.cell? ⟨w1.heap.size, 6, none⟩ = some (.int .i64 0) ∧ w1.heap.size < W.heap.size) ?_ ?_
  · refine ⟨by (repeat (first | exact Below.refl _ _ | assumption | refine Below.drewN ?_ _ | refine Below.drew ?_ | refine Below.setCell ?_ (by first | exact Nat.le_refl _ | (simp; done) | (simp; omega) | omega) _ | refine Below.alloc ?_ (by first | exact Nat.le_refl _ | (simp; done) | (simp; omega) | omega) _)), by go_simp, by go_simp, by go_simp, by go_simp, by go_simp, by go_simp, by go_simp, by simp⟩
  rintro W2 ⟨hx2, c0, c1, c2, c3, c4, c5, c6, hl2⟩
  obtain ⟨B, hB⟩ : ∃ B, Hid (w1.heap.size = B) := ⟨_, rfl⟩
  rw [hB.out] at c0 c1 c2 c3 c4 c5 c6 hl2 ⊢
  clear hx1 hs1
  first | refine wp_region_FC (fun W => W.cell? ⟨B, 0, none⟩ = some (.int .i64 2) ∧ W.cell? ⟨B, 1, none⟩ = some (.int .i64 5) ∧ W.cell? ⟨B, 2, none⟩ = some (.int .i64 0) ∧ W.cell? ⟨B, 3, none⟩ = some (.int .i64 0) ∧ W.cell? ⟨B, 4, none⟩ = some (.int .i64 5) ∧ W.cell? ⟨B, 5, none⟩ = some (.int .i64 0) ∧ W.cell? ⟨B, 6, none⟩ = some (.int .i64 0)) (by kernel_rfl) (by kernel_rfl) ?_ ?_ ?_ | refine wp_region_FCs (fun W => W.cell? ⟨B, 0, none⟩ = some (.int .i64 2) ∧ W.cell? ⟨B, 1, none⟩ = some (.int .i64 5) ∧ W.cell? ⟨B, 2, none⟩ = some (.int .i64 0) ∧ W.cell? ⟨B, 3, none⟩ = some (.int .i64 0) ∧ W.cell? ⟨B, 4, none⟩ = some (.int .i64 5) ∧ W.cell? ⟨B, 5, none⟩ = some (.int .i64 0) ∧ W.cell? ⟨B, 6, none⟩ = some (.int .i64 0)) ?_ ?_ ?_
  · go_simp
  · (intro W W' h hx hb; have hs := hx.size; (try simp at hs); have hbc : ∀ b o, b < W.heap.size → W'.cell? ⟨b, o, none⟩ = W.cell? ⟨b, o, none⟩ := fun b o h => hb.cell (p := ⟨b, o, none⟩) h; (try dsimp only at h ⊢); simp (disch := omega) only [hbc]; exact h)
  repeat (first | (refine F_skip (by rfl) ?_; simp only [Act.put, List.setIfInBounds_toArray, List.set_cons_zero, List.set_cons_succ]) | (refine F_run (v := ?_) (by rfl) ?_ ?_; rotate_left; (· (intro W hW; (try dsimp only at hW); go_simp; try with_reducible rfl)); simp only [Act.put, List.setIfInBounds_toArray, List.set_cons_zero, List.set_cons_succ]))
  (refine F_call (v := .agg #[.int .i64 (1), .int .i64 (0), .int .i64 (0), .int .i64 (4), .int .i64 (4), .int .i64 (0), .int .i64 (0)]) (by rfl) (by rfl) ?_ ?_; (· (intro W hW; (try dsimp only at hW); go_simp; refine (law_line (0) (0) (4) (4) _).mono ?_; rintro e w' ⟨rfl, hx⟩; exact ⟨_, rfl, rfl, hx⟩))); simp only [Act.put, List.setIfInBounds_toArray, List.set_cons_zero, List.set_cons_succ]
  repeat (first | (refine F_skip (by rfl) ?_; simp only [Act.put, List.setIfInBounds_toArray, List.set_cons_zero, List.set_cons_succ]) | (refine F_run (v := ?_) (by rfl) ?_ ?_; rotate_left; (· (intro W hW; (try dsimp only at hW); go_simp; try with_reducible rfl)); simp only [Act.put, List.setIfInBounds_toArray, List.set_cons_zero, List.set_cons_succ]))
  (refine F_call (v := .agg #[.int .i64 (1), .int .i64 (0), .int .i64 (4), .int .i64 (4), .int .i64 (0), .int .i64 (0), .int .i64 (0)]) (by rfl) (by rfl) ?_ ?_; (· (intro W hW; (try dsimp only at hW); go_simp; refine (law_line (0) (4) (4) (0) _).mono ?_; rintro e w' ⟨rfl, hx⟩; exact ⟨_, rfl, rfl, hx⟩))); simp only [Act.put, List.setIfInBounds_toArray, List.set_cons_zero, List.set_cons_succ]
  repeat (first | (refine F_skip (by rfl) ?_; simp only [Act.put, List.setIfInBounds_toArray, List.set_cons_zero, List.set_cons_succ]) | (refine F_run (v := ?_) (by rfl) ?_ ?_; rotate_left; (· (intro W hW; (try dsimp only at hW); go_simp; try with_reducible rfl)); simp only [Act.put, List.setIfInBounds_toArray, List.set_cons_zero, List.set_cons_succ]))
  (refine F_call (v := .agg #[.int .i64 (1), .int .i64 (0), .int .i64 (0), .int .i64 (4), .int .i64 (4), .int .i64 (0), .int .i64 (0)]) (by rfl) (by rfl) ?_ ?_; (· (intro W hW; (try dsimp only at hW); go_simp; refine (law_line (0) (0) (4) (4) _).mono ?_; rintro e w' ⟨rfl, hx⟩; exact ⟨_, rfl, rfl, hx⟩))); simp only [Act.put, List.setIfInBounds_toArray, List.set_cons_zero, List.set_cons_succ]
  repeat (first | (refine F_skip (by rfl) ?_; simp only [Act.put, List.setIfInBounds_toArray, List.set_cons_zero, List.set_cons_succ]) | (refine F_run (v := ?_) (by rfl) ?_ ?_; rotate_left; (· (intro W hW; (try dsimp only at hW); go_simp; try with_reducible rfl)); simp only [Act.put, List.setIfInBounds_toArray, List.set_cons_zero, List.set_cons_succ]))
  (refine F_call (v := .agg #[.int .i64 (1), .int .i64 (2), .int .i64 (2), .int .i64 (9), .int .i64 (9), .int .i64 (0), .int .i64 (0)]) (by rfl) (by rfl) ?_ ?_; (· (intro W hW; (try dsimp only at hW); go_simp; refine (law_line (2) (2) (9) (9) _).mono ?_; rintro e w' ⟨rfl, hx⟩; exact ⟨_, rfl, rfl, hx⟩))); simp only [Act.put, List.setIfInBounds_toArray, List.set_cons_zero, List.set_cons_succ]
  repeat (first | (refine F_skip (by rfl) ?_; simp only [Act.put, List.setIfInBounds_toArray, List.set_cons_zero, List.set_cons_succ]) | (refine F_run (v := ?_) (by rfl) ?_ ?_; rotate_left; (· (intro W hW; (try dsimp only at hW); go_simp; try with_reducible rfl)); simp only [Act.put, List.setIfInBounds_toArray, List.set_cons_zero, List.set_cons_succ]))
  (refine F_call (v := .agg #[.int .i64 (1), .int .i64 (0), .int .i64 (0), .int .i64 (4), .int .i64 (4), .int .i64 (0), .int .i64 (0)]) (by rfl) (by rfl) ?_ ?_; (· (intro W hW; (try dsimp only at hW); go_simp; refine (law_line (0) (0) (4) (4) _).mono ?_; rintro e w' ⟨rfl, hx⟩; exact ⟨_, rfl, rfl, hx⟩))); simp only [Act.put, List.setIfInBounds_toArray, List.set_cons_zero, List.set_cons_succ]
  repeat (first | (refine F_skip (by rfl) ?_; simp only [Act.put, List.setIfInBounds_toArray, List.set_cons_zero, List.set_cons_succ]) | (refine F_run (v := ?_) (by rfl) ?_ ?_; rotate_left; (· (intro W hW; (try dsimp only at hW); go_simp; try with_reducible rfl)); simp only [Act.put, List.setIfInBounds_toArray, List.set_cons_zero, List.set_cons_succ]))
  (refine F_call (v := .agg #[.int .i64 (1), .int .i64 (4), .int .i64 (4), .int .i64 (9), .int .i64 (9), .int .i64 (0), .int .i64 (0)]) (by rfl) (by rfl) ?_ ?_; (· (intro W hW; (try dsimp only at hW); go_simp; refine (law_line (4) (4) (9) (9) _).mono ?_; rintro e w' ⟨rfl, hx⟩; exact ⟨_, rfl, rfl, hx⟩))); simp only [Act.put, List.setIfInBounds_toArray, List.set_cons_zero, List.set_cons_succ]
  repeat (first | (refine F_skip (by rfl) ?_; simp only [Act.put, List.setIfInBounds_toArray, List.set_cons_zero, List.set_cons_succ]) | (refine F_run (v := ?_) (by rfl) ?_ ?_; rotate_left; (· (intro W hW; (try dsimp only at hW); go_simp; try with_reducible rfl)); simp only [Act.put, List.setIfInBounds_toArray, List.set_cons_zero, List.set_cons_succ]))
  (refine F_call (v := .agg #[.int .i64 (1), .int .i64 (0), .int .i64 (0), .int .i64 (4), .int .i64 (4), .int .i64 (0), .int .i64 (0)]) (by rfl) (by rfl) ?_ ?_; (· (intro W hW; (try dsimp only at hW); go_simp; refine (law_line (0) (0) (4) (4) _).mono ?_; rintro e w' ⟨rfl, hx⟩; exact ⟨_, rfl, rfl, hx⟩))); simp only [Act.put, List.setIfInBounds_toArray, List.set_cons_zero, List.set_cons_succ]
  repeat (first | (refine F_skip (by rfl) ?_; simp only [Act.put, List.setIfInBounds_toArray, List.set_cons_zero, List.set_cons_succ]) | (refine F_run (v := ?_) (by rfl) ?_ ?_; rotate_left; (· (intro W hW; (try dsimp only at hW); go_simp; try with_reducible rfl)); simp only [Act.put, List.setIfInBounds_toArray, List.set_cons_zero, List.set_cons_succ]))
  (refine F_call (v := .agg #[.int .i64 (1), .int .i64 (5), .int .i64 (5), .int .i64 (9), .int .i64 (9), .int .i64 (0), .int .i64 (0)]) (by rfl) (by rfl) ?_ ?_; (· (intro W hW; (try dsimp only at hW); go_simp; refine (law_line (5) (5) (9) (9) _).mono ?_; rintro e w' ⟨rfl, hx⟩; exact ⟨_, rfl, rfl, hx⟩))); simp only [Act.put, List.setIfInBounds_toArray, List.set_cons_zero, List.set_cons_succ]
  repeat (first | (refine F_skip (by rfl) ?_; simp only [Act.put, List.setIfInBounds_toArray, List.set_cons_zero, List.set_cons_succ]) | (refine F_run (v := ?_) (by rfl) ?_ ?_; rotate_left; (· (intro W hW; (try dsimp only at hW); go_simp; try with_reducible rfl)); simp only [Act.put, List.setIfInBounds_toArray, List.set_cons_zero, List.set_cons_succ]))
  (refine F_call (v := .agg #[.int .i64 (1), .int .i64 (0), .int .i64 (0), .int .i64 (3), .int .i64 (4), .int .i64 (0), .int .i64 (0)]) (by rfl) (by rfl) ?_ ?_; (· (intro W hW; (try dsimp only at hW); go_simp; refine (law_line (0) (0) (3) (4) _).mono ?_; rintro e w' ⟨rfl, hx⟩; exact ⟨_, rfl, rfl, hx⟩))); simp only [Act.put, List.setIfInBounds_toArray, List.set_cons_zero, List.set_cons_succ]
  repeat (first | (refine F_skip (by rfl) ?_; simp only [Act.put, List.setIfInBounds_toArray, List.set_cons_zero, List.set_cons_succ]) | (refine F_run (v := ?_) (by rfl) ?_ ?_; rotate_left; (· (intro W hW; (try dsimp only at hW); go_simp; try with_reducible rfl)); simp only [Act.put, List.setIfInBounds_toArray, List.set_cons_zero, List.set_cons_succ]))
  (refine F_call (v := .agg #[.int .i64 (1), .int .i64 (0), .int .i64 (0), .int .i64 (3), .int .i64 (3), .int .i64 (0), .int .i64 (0)]) (by rfl) (by rfl) ?_ ?_; (· (intro W hW; (try dsimp only at hW); go_simp; refine (law_line (0) (0) (3) (3) _).mono ?_; rintro e w' ⟨rfl, hx⟩; exact ⟨_, rfl, rfl, hx⟩))); simp only [Act.put, List.setIfInBounds_toArray, List.set_cons_zero, List.set_cons_succ]
  repeat (first | (refine F_skip (by rfl) ?_; simp only [Act.put, List.setIfInBounds_toArray, List.set_cons_zero, List.set_cons_succ]) | (refine F_run (v := ?_) (by rfl) ?_ ?_; rotate_left; (· (intro W hW; (try dsimp only at hW); go_simp; try with_reducible rfl)); simp only [Act.put, List.setIfInBounds_toArray, List.set_cons_zero, List.set_cons_succ]))
  (refine F_call (v := .agg #[.int .i64 (1), .int .i64 (0), .int .i64 (0), .int .i64 (6), .int .i64 (8), .int .i64 (0), .int .i64 (0)]) (by rfl) (by rfl) ?_ ?_; (· (intro W hW; (try dsimp only at hW); go_simp; refine (law_line (0) (0) (6) (8) _).mono ?_; rintro e w' ⟨rfl, hx⟩; exact ⟨_, rfl, rfl, hx⟩))); simp only [Act.put, List.setIfInBounds_toArray, List.set_cons_zero, List.set_cons_succ]
  repeat (first | (refine F_skip (by rfl) ?_; simp only [Act.put, List.setIfInBounds_toArray, List.set_cons_zero, List.set_cons_succ]) | (refine F_run (v := ?_) (by rfl) ?_ ?_; rotate_left; (· (intro W hW; (try dsimp only at hW); go_simp; try with_reducible rfl)); simp only [Act.put, List.setIfInBounds_toArray, List.set_cons_zero, List.set_cons_succ]))
  (refine F_call (v := .agg #[.int .i64 (1), .int .i64 (5), .int .i64 (0), .int .i64 (0), .int .i64 (5), .int .i64 (0), .int .i64 (0)]) (by rfl) (by rfl) ?_ ?_; (· (intro W hW; (try dsimp only at hW); go_simp; refine (law_line (5) (0) (0) (5) _).mono ?_; rintro e w' ⟨rfl, hx⟩; exact ⟨_, rfl, rfl, hx⟩))); simp only [Act.put, List.setIfInBounds_toArray, List.set_cons_zero, List.set_cons_succ]
  repeat (first | (refine F_skip (by rfl) ?_; simp only [Act.put, List.setIfInBounds_toArray, List.set_cons_zero, List.set_cons_succ]) | (refine F_run (v := ?_) (by rfl) ?_ ?_; rotate_left; (· (intro W hW; (try dsimp only at hW); go_simp; try with_reducible rfl)); simp only [Act.put, List.setIfInBounds_toArray, List.set_cons_zero, List.set_cons_succ]))
  (refine F_call (v := .agg #[.int .i64 (1), .int .i64 (5), .int .i64 (-3), .int .i64 (5), .int .i64 (3), .int .i64 (0), .int .i64 (0)]) (by rfl) (by rfl) ?_ ?_; (· (intro W hW; (try dsimp only at hW); go_simp; refine (law_line (5) (-3) (5) (3) _).mono ?_; rintro e w' ⟨rfl, hx⟩; exact ⟨_, rfl, rfl, hx⟩))); simp only [Act.put, List.setIfInBounds_toArray, List.set_cons_zero, List.set_cons_succ]
  repeat (first | (refine F_skip (by rfl) ?_; simp only [Act.put, List.setIfInBounds_toArray, List.set_cons_zero, List.set_cons_succ]) | (refine F_run (v := ?_) (by rfl) ?_ ?_; rotate_left; (· (intro W hW; (try dsimp only at hW); go_simp; try with_reducible rfl)); simp only [Act.put, List.setIfInBounds_toArray, List.set_cons_zero, List.set_cons_succ]))
  (refine F_call (v := .agg #[.int .i64 (1), .int .i64 (-5), .int .i64 (1), .int .i64 (4), .int .i64 (1), .int .i64 (0), .int .i64 (0)]) (by rfl) (by rfl) ?_ ?_; (· (intro W hW; (try dsimp only at hW); go_simp; refine (law_line (-5) (1) (4) (1) _).mono ?_; rintro e w' ⟨rfl, hx⟩; exact ⟨_, rfl, rfl, hx⟩))); simp only [Act.put, List.setIfInBounds_toArray, List.set_cons_zero, List.set_cons_succ]
  repeat (first | (refine F_skip (by rfl) ?_; simp only [Act.put, List.setIfInBounds_toArray, List.set_cons_zero, List.set_cons_succ]) | (refine F_run (v := ?_) (by rfl) ?_ ?_; rotate_left; (· (intro W hW; (try dsimp only at hW); go_simp; try with_reducible rfl)); simp only [Act.put, List.setIfInBounds_toArray, List.set_cons_zero, List.set_cons_succ]))
  (refine F_call (v := .agg #[.int .i64 (1), .int .i64 (1), .int .i64 (6), .int .i64 (6), .int .i64 (1), .int .i64 (0), .int .i64 (0)]) (by rfl) (by rfl) ?_ ?_; (· (intro W hW; (try dsimp only at hW); go_simp; refine (law_line (1) (6) (6) (1) _).mono ?_; rintro e w' ⟨rfl, hx⟩; exact ⟨_, rfl, rfl, hx⟩))); simp only [Act.put, List.setIfInBounds_toArray, List.set_cons_zero, List.set_cons_succ]
  repeat (first | (refine F_skip (by rfl) ?_; simp only [Act.put, List.setIfInBounds_toArray, List.set_cons_zero, List.set_cons_succ]) | (refine F_run (v := ?_) (by rfl) ?_ ?_; rotate_left; (· (intro W hW; (try dsimp only at hW); go_simp; try with_reducible rfl)); simp only [Act.put, List.setIfInBounds_toArray, List.set_cons_zero, List.set_cons_succ]))
  (refine F_call (v := .agg #[.int .i64 (1), .int .i64 (-5), .int .i64 (5), .int .i64 (5), .int .i64 (5), .int .i64 (0), .int .i64 (0)]) (by rfl) (by rfl) ?_ ?_; (· (intro W hW; (try dsimp only at hW); go_simp; refine (law_line (-5) (5) (5) (5) _).mono ?_; rintro e w' ⟨rfl, hx⟩; exact ⟨_, rfl, rfl, hx⟩))); simp only [Act.put, List.setIfInBounds_toArray, List.set_cons_zero, List.set_cons_succ]
  repeat (first | (refine F_skip (by rfl) ?_; simp only [Act.put, List.setIfInBounds_toArray, List.set_cons_zero, List.set_cons_succ]) | (refine F_run (v := ?_) (by rfl) ?_ ?_; rotate_left; (· (intro W hW; (try dsimp only at hW); go_simp; try with_reducible rfl)); simp only [Act.put, List.setIfInBounds_toArray, List.set_cons_zero, List.set_cons_succ]))
  (refine F_call (v := .agg #[.int .i64 (2), .int .i64 (0), .int .i64 (5), .int .i64 (-5), .int .i64 (0), .int .i64 (0), .int .i64 (0)]) (by rfl) (by rfl) ?_ ?_; (· (intro W hW; (try dsimp only at hW); go_simp; refine (law_left (0) (5) (-5) (0) (0) (0) _).mono ?_; rintro e w' ⟨rfl, hx⟩; exact ⟨_, rfl, rfl, hx⟩))); simp only [Act.put, List.setIfInBounds_toArray, List.set_cons_zero, List.set_cons_succ]
  repeat (first | (refine F_skip (by rfl) ?_; simp only [Act.put, List.setIfInBounds_toArray, List.set_cons_zero, List.set_cons_succ]) | (refine F_run (v := ?_) (by rfl) ?_ ?_; rotate_left; (· (intro W hW; (try dsimp only at hW); go_simp; try with_reducible rfl)); simp only [Act.put, List.setIfInBounds_toArray, List.set_cons_zero, List.set_cons_succ]))
  (refine F_call (v := .agg #[.int .i64 (2), .int .i64 (-5), .int .i64 (0), .int .i64 (0), .int .i64 (-5), .int .i64 (0), .int .i64 (0)]) (by rfl) (by rfl) ?_ ?_; (· (intro W hW; (try dsimp only at hW); go_simp; refine (law_left (-5) (0) (0) (-5) (0) (0) _).mono ?_; rintro e w' ⟨rfl, hx⟩; exact ⟨_, rfl, rfl, hx⟩))); simp only [Act.put, List.setIfInBounds_toArray, List.set_cons_zero, List.set_cons_succ]
  repeat (first | (refine F_skip (by rfl) ?_; simp only [Act.put, List.setIfInBounds_toArray, List.set_cons_zero, List.set_cons_succ]) | (refine F_run (v := ?_) (by rfl) ?_ ?_; rotate_left; (· (intro W hW; (try dsimp only at hW); go_simp; try with_reducible rfl)); simp only [Act.put, List.setIfInBounds_toArray, List.set_cons_zero, List.set_cons_succ]))
  (refine F_call (v := .agg #[.int .i64 (2), .int .i64 (6), .int .i64 (5), .int .i64 (1), .int .i64 (0), .int .i64 (6), .int .i64 (0)]) (by rfl) (by rfl) ?_ ?_; (· (intro W hW; (try dsimp only at hW); go_simp; refine (law_left (6) (5) (1) (0) (6) (0) _).mono ?_; rintro e w' ⟨rfl, hx⟩; exact ⟨_, rfl, rfl, hx⟩))); simp only [Act.put, List.setIfInBounds_toArray, List.set_cons_zero, List.set_cons_succ]
  repeat (first | (refine F_skip (by rfl) ?_; simp only [Act.put, List.setIfInBounds_toArray, List.set_cons_zero, List.set_cons_succ]) | (refine F_run (v := ?_) (by rfl) ?_ ?_; rotate_left; (· (intro W hW; (try dsimp only at hW); go_simp; try with_reducible rfl)); simp only [Act.put, List.setIfInBounds_toArray, List.set_cons_zero, List.set_cons_succ]))
  (refine F_call (v := .agg #[.int .i64 (2), .int .i64 (0), .int .i64 (5), .int .i64 (5), .int .i64 (0), .int .i64 (5), .int .i64 (5)]) (by rfl) (by rfl) ?_ ?_; (· (intro W hW; (try dsimp only at hW); go_simp; refine (law_left (0) (5) (5) (0) (5) (5) _).mono ?_; rintro e w' ⟨rfl, hx⟩; exact ⟨_, rfl, rfl, hx⟩))); simp only [Act.put, List.setIfInBounds_toArray, List.set_cons_zero, List.set_cons_succ]
  repeat (first | (refine F_skip (by rfl) ?_; simp only [Act.put, List.setIfInBounds_toArray, List.set_cons_zero, List.set_cons_succ]) | (refine F_run (v := ?_) (by rfl) ?_ ?_; rotate_left; (· (intro W hW; (try dsimp only at hW); go_simp; try with_reducible rfl)); simp only [Act.put, List.setIfInBounds_toArray, List.set_cons_zero, List.set_cons_succ]))
  refine F_blk tabObj (fun g => .slice (some ⟨g, 0, none⟩) 17 17) (by rfl) (by rfl) (fun W _ => by kernel_rfl) ?_
  intro g hg
  simp only [Act.put, List.setIfInBounds_toArray, List.set_cons_zero, List.set_cons_succ]
  repeat (first | (refine F_skip (by rfl) ?_; simp only [Act.put, List.setIfInBounds_toArray, List.set_cons_zero, List.set_cons_succ]) | (refine F_run (v := ?_) (by rfl) ?_ ?_; rotate_left; (· (intro W hW; (try dsimp only at hW); go_simp; try with_reducible rfl)); simp only [Act.put, List.setIfInBounds_toArray, List.set_cons_zero, List.set_cons_succ]))
  rintro W3 ⟨⟨hx3, hc⟩, hb⟩
  clear hc hg c0 c1 c2 c3 c4 c5 c6
  have hx4 : Ext w W3 := Ext.step hx2 hx3
  have HT : Hid (W3.heap[g]? = some tabObj) := hb
  clear hb hx3 hx2
  go_upto_region 3 with (fail)
  generalize (.agg #[.int .i64 (1), .int .i64 (0), .int .i64 (0), .int .i64 (4), .int .i64 (4), .int .i64 (0), .int .i64 (0)] : Value) = r0
  generalize (.agg #[.int .i64 (1), .int .i64 (0), .int .i64 (4), .int .i64 (4), .int .i64 (0), .int .i64 (0), .int .i64 (0)] : Value) = r1
  generalize (.agg #[.int .i64 (1), .int .i64 (0), .int .i64 (0), .int .i64 (4), .int .i64 (4), .int .i64 (0), .int .i64 (0), .int .i64 (1), .int .i64 (0), .int .i64 (4), .int .i64 (4), .int .i64 (0), .int .i64 (0), .int .i64 (0), .int .i64 (1)] : Value) = r2
  generalize (.agg #[.int .i64 (1), .int .i64 (2), .int .i64 (2), .int .i64 (9), .int .i64 (9), .int .i64 (0), .int .i64 (0)] : Value) = r3
  generalize (.agg #[.int .i64 (1), .int .i64 (0), .int .i64 (0), .int .i64 (4), .int .i64 (4), .int .i64 (0), .int .i64 (0), .int .i64 (1), .int .i64 (2), .int .i64 (2), .int .i64 (9), .int .i64 (9), .int .i64 (0), .int .i64 (0), .int .i64 (-1)] : Value) = r4
  generalize (.agg #[.int .i64 (1), .int .i64 (4), .int .i64 (4), .int .i64 (9), .int .i64 (9), .int .i64 (0), .int .i64 (0)] : Value) = r5
  generalize (.agg #[.int .i64 (1), .int .i64 (0), .int .i64 (0), .int .i64 (4), .int .i64 (4), .int .i64 (0), .int .i64 (0), .int .i64 (1), .int .i64 (4), .int .i64 (4), .int .i64 (9), .int .i64 (9), .int .i64 (0), .int .i64 (0), .int .i64 (1)] : Value) = r6
  generalize (.agg #[.int .i64 (1), .int .i64 (5), .int .i64 (5), .int .i64 (9), .int .i64 (9), .int .i64 (0), .int .i64 (0)] : Value) = r7
  generalize (.agg #[.int .i64 (1), .int .i64 (0), .int .i64 (0), .int .i64 (4), .int .i64 (4), .int .i64 (0), .int .i64 (0), .int .i64 (1), .int .i64 (5), .int .i64 (5), .int .i64 (9), .int .i64 (9), .int .i64 (0), .int .i64 (0), .int .i64 (0)] : Value) = r8
  generalize (.agg #[.int .i64 (2), .int .i64 (5), .int .i64 (0), .int .i64 (0), .int .i64 (5), .int .i64 (0), .int .i64 (0)] : Value) = r9
  generalize (.agg #[.int .i64 (1), .int .i64 (0), .int .i64 (0), .int .i64 (3), .int .i64 (4), .int .i64 (0), .int .i64 (0)] : Value) = r10
  generalize (.agg #[.int .i64 (2), .int .i64 (5), .int .i64 (0), .int .i64 (0), .int .i64 (5), .int .i64 (0), .int .i64 (0), .int .i64 (1), .int .i64 (0), .int .i64 (0), .int .i64 (3), .int .i64 (4), .int .i64 (0), .int .i64 (0), .int .i64 (1)] : Value) = r11
  generalize (.agg #[.int .i64 (1), .int .i64 (0), .int .i64 (0), .int .i64 (3), .int .i64 (3), .int .i64 (0), .int .i64 (0)] : Value) = r12
  generalize (.agg #[.int .i64 (2), .int .i64 (5), .int .i64 (0), .int .i64 (0), .int .i64 (5), .int .i64 (0), .int .i64 (0), .int .i64 (1), .int .i64 (0), .int .i64 (0), .int .i64 (3), .int .i64 (3), .int .i64 (0), .int .i64 (0), .int .i64 (0)] : Value) = r13
  generalize (.agg #[.int .i64 (1), .int .i64 (0), .int .i64 (0), .int .i64 (6), .int .i64 (8), .int .i64 (0), .int .i64 (0)] : Value) = r14
  generalize (.agg #[.int .i64 (2), .int .i64 (5), .int .i64 (0), .int .i64 (0), .int .i64 (5), .int .i64 (0), .int .i64 (0), .int .i64 (1), .int .i64 (0), .int .i64 (0), .int .i64 (6), .int .i64 (8), .int .i64 (0), .int .i64 (0), .int .i64 (1)] : Value) = r15
  generalize (.agg #[.int .i64 (1), .int .i64 (5), .int .i64 (0), .int .i64 (0), .int .i64 (5), .int .i64 (0), .int .i64 (0)] : Value) = r16
  generalize (.agg #[.int .i64 (2), .int .i64 (5), .int .i64 (0), .int .i64 (0), .int .i64 (5), .int .i64 (0), .int .i64 (0), .int .i64 (1), .int .i64 (5), .int .i64 (0), .int .i64 (0), .int .i64 (5), .int .i64 (0), .int .i64 (0), .int .i64 (2)] : Value) = r17
  generalize (.agg #[.int .i64 (1), .int .i64 (5), .int .i64 (-3), .int .i64 (5), .int .i64 (3), .int .i64 (0), .int .i64 (0)] : Value) = r18
  generalize (.agg #[.int .i64 (2), .int .i64 (5), .int .i64 (0), .int .i64 (0), .int .i64 (5), .int .i64 (0), .int .i64 (0), .int .i64 (1), .int .i64 (5), .int .i64 (-3), .int .i64 (5), .int .i64 (3), .int .i64 (0), .int .i64 (0), .int .i64 (1)] : Value) = r19
  generalize (.agg #[.int .i64 (1), .int .i64 (-5), .int .i64 (1), .int .i64 (4), .int .i64 (1), .int .i64 (0), .int .i64 (0)] : Value) = r20
  generalize (.agg #[.int .i64 (2), .int .i64 (5), .int .i64 (0), .int .i64 (0), .int .i64 (5), .int .i64 (0), .int .i64 (0), .int .i64 (1), .int .i64 (-5), .int .i64 (1), .int .i64 (4), .int .i64 (1), .int .i64 (0), .int .i64 (0), .int .i64 (0)] : Value) = r21
  generalize (.agg #[.int .i64 (1), .int .i64 (1), .int .i64 (6), .int .i64 (6), .int .i64 (1), .int .i64 (0), .int .i64 (0)] : Value) = r22
  generalize (.agg #[.int .i64 (2), .int .i64 (5), .int .i64 (0), .int .i64 (0), .int .i64 (5), .int .i64 (0), .int .i64 (0), .int .i64 (1), .int .i64 (1), .int .i64 (6), .int .i64 (6), .int .i64 (1), .int .i64 (0), .int .i64 (0), .int .i64 (2)] : Value) = r23
  generalize (.agg #[.int .i64 (1), .int .i64 (-5), .int .i64 (5), .int .i64 (5), .int .i64 (5), .int .i64 (0), .int .i64 (0)] : Value) = r24
  generalize (.agg #[.int .i64 (2), .int .i64 (5), .int .i64 (0), .int .i64 (0), .int .i64 (5), .int .i64 (0), .int .i64 (0), .int .i64 (1), .int .i64 (-5), .int .i64 (5), .int .i64 (5), .int .i64 (5), .int .i64 (0), .int .i64 (0), .int .i64 (1)] : Value) = r25
  generalize (.agg #[.int .i64 (2), .int .i64 (5), .int .i64 (0), .int .i64 (0), .int .i64 (5), .int .i64 (0), .int .i64 (0), .int .i64 (2), .int .i64 (5), .int .i64 (0), .int .i64 (0), .int .i64 (5), .int .i64 (0), .int .i64 (0), .int .i64 (-1)] : Value) = r26
  generalize (.agg #[.int .i64 (2), .int .i64 (0), .int .i64 (5), .int .i64 (-5), .int .i64 (0), .int .i64 (0), .int .i64 (0)] : Value) = r27
  generalize (.agg #[.int .i64 (2), .int .i64 (5), .int .i64 (0), .int .i64 (0), .int .i64 (5), .int .i64 (0), .int .i64 (0), .int .i64 (2), .int .i64 (0), .int .i64 (5), .int .i64 (-5), .int .i64 (0), .int .i64 (0), .int .i64 (0), .int .i64 (1)] : Value) = r28
  generalize (.agg #[.int .i64 (2), .int .i64 (-5), .int .i64 (0), .int .i64 (0), .int .i64 (-5), .int .i64 (0), .int .i64 (0)] : Value) = r29
  generalize (.agg #[.int .i64 (2), .int .i64 (5), .int .i64 (0), .int .i64 (0), .int .i64 (5), .int .i64 (0), .int .i64 (0), .int .i64 (2), .int .i64 (-5), .int .i64 (0), .int .i64 (0), .int .i64 (-5), .int .i64 (0), .int .i64 (0), .int .i64 (0)] : Value) = r30
  generalize (.agg #[.int .i64 (2), .int .i64 (6), .int .i64 (5), .int .i64 (1), .int .i64 (0), .int .i64 (6), .int .i64 (0)] : Value) = r31
  generalize (.agg #[.int .i64 (2), .int .i64 (5), .int .i64 (0), .int .i64 (0), .int .i64 (5), .int .i64 (0), .int .i64 (0), .int .i64 (2), .int .i64 (6), .int .i64 (5), .int .i64 (1), .int .i64 (0), .int .i64 (6), .int .i64 (0), .int .i64 (1)] : Value) = r32
  generalize (.agg #[.int .i64 (2), .int .i64 (0), .int .i64 (5), .int .i64 (5), .int .i64 (0), .int .i64 (5), .int .i64 (5)] : Value) = r33
  generalize (.agg #[.int .i64 (2), .int .i64 (5), .int .i64 (0), .int .i64 (0), .int .i64 (5), .int .i64 (0), .int .i64 (0), .int .i64 (2), .int .i64 (0), .int .i64 (5), .int .i64 (5), .int .i64 (0), .int .i64 (5), .int .i64 (5), .int .i64 (2)] : Value) = r34
  go_loopw [58] (fun i wr => ∃ k : Nat, k ≤ 17 ∧ i = .int .i64 (k : Int) ∧ wr.heap[g]? = some tabObj ∧ Ext w wr) (fun i _ => 17 - (intOf i).toNat)
  case atStart => exact ⟨0, by omega, rfl, HT.out, hx4⟩
  case round =>
    clear HT hx4
    obtain ⟨k, hk, rfl, hb, hx⟩ := hrel
    by_cases hlt : k < 17
    · have CE := fun w => meet_Count _ _ _ _ _ _ _ _ _ _ _ _ _ _ w |>.mono (fun e w' h => (show e = .returned (.int .i64 (countE (rowA k) (rowB k))) ∧ Ext w w' from h))
      have EE := fun w => meet_Edges _ _ _ _ _ _ _ _ _ _ _ _ _ _ w |>.mono (fun e w' h => (show e = .returned (.bool (!(countE (rowB k) (rowA k) == 0))) ∧ Ext w w' from h))
      rw [tab_count k hlt] at CE
      rw [tab_edges k hlt] at EE
      have hgl : g < wr.heap.size := (Array.getElem?_eq_some_iff.1 hb).1
      have e0 := tab_cell hb (k * 15) (by omega)
      have e1 := tab_cell hb (k * 15 + 1) (by omega)
      have e2 := tab_cell hb (k * 15 + 2) (by omega)
      have e3 := tab_cell hb (k * 15 + 3) (by omega)
      have e4 := tab_cell hb (k * 15 + 4) (by omega)
      have e5 := tab_cell hb (k * 15 + 5) (by omega)
      have e6 := tab_cell hb (k * 15 + 6) (by omega)
      have e7 := tab_cell hb (k * 15 + 7) (by omega)
      have e8 := tab_cell hb (k * 15 + 8) (by omega)
      have e9 := tab_cell hb (k * 15 + 9) (by omega)
      have e10 := tab_cell hb (k * 15 + 10) (by omega)
      have e11 := tab_cell hb (k * 15 + 11) (by omega)
      have e12 := tab_cell hb (k * 15 + 12) (by omega)
      have e13 := tab_cell hb (k * 15 + 13) (by omega)
      have e14 := tab_cell hb (k * 15 + 14) (by omega)
      obtain ⟨z0, Z0⟩ : ∃ z, tz (k * 15) = z := ⟨_, rfl⟩
      rw [Z0] at e0 CE EE
      obtain ⟨z1, Z1⟩ : ∃ z, tz (k * 15 + 1) = z := ⟨_, rfl⟩
      rw [Z1] at e1 CE EE
      obtain ⟨z2, Z2⟩ : ∃ z, tz (k * 15 + 2) = z := ⟨_, rfl⟩
      rw [Z2] at e2 CE EE
      obtain ⟨z3, Z3⟩ : ∃ z, tz (k * 15 + 3) = z := ⟨_, rfl⟩
      rw [Z3] at e3 CE EE
      obtain ⟨z4, Z4⟩ : ∃ z, tz (k * 15 + 4) = z := ⟨_, rfl⟩
      rw [Z4] at e4 CE EE
      obtain ⟨z5, Z5⟩ : ∃ z, tz (k * 15 + 5) = z := ⟨_, rfl⟩
      rw [Z5] at e5 CE EE
      obtain ⟨z6, Z6⟩ : ∃ z, tz (k * 15 + 6) = z := ⟨_, rfl⟩
      rw [Z6] at e6 CE EE
      obtain ⟨z7, Z7⟩ : ∃ z, tz (k * 15 + 7) = z := ⟨_, rfl⟩
      rw [Z7] at e7 CE EE
      obtain ⟨z8, Z8⟩ : ∃ z, tz (k * 15 + 8) = z := ⟨_, rfl⟩
      rw [Z8] at e8 CE EE
      obtain ⟨z9, Z9⟩ : ∃ z, tz (k * 15 + 9) = z := ⟨_, rfl⟩
      rw [Z9] at e9 CE EE
      obtain ⟨z10, Z10⟩ : ∃ z, tz (k * 15 + 10) = z := ⟨_, rfl⟩
      rw [Z10] at e10 CE EE
      obtain ⟨z11, Z11⟩ : ∃ z, tz (k * 15 + 11) = z := ⟨_, rfl⟩
      rw [Z11] at e11 CE EE
      obtain ⟨z12, Z12⟩ : ∃ z, tz (k * 15 + 12) = z := ⟨_, rfl⟩
      rw [Z12] at e12 CE EE
      obtain ⟨z13, Z13⟩ : ∃ z, tz (k * 15 + 13) = z := ⟨_, rfl⟩
      rw [Z13] at e13 CE EE
      obtain ⟨z14, Z14⟩ : ∃ z, tz (k * 15 + 14) = z := ⟨_, rfl⟩
      rw [Z14] at e14 CE EE
      replace CE := Lib.hid CE
      replace EE := Lib.hid EE
      clear Z0 Z1 Z2 Z3 Z4 Z5 Z6 Z7 Z8 Z9 Z10 Z11 Z12 Z13 Z14
      have HT : Hid (wr.heap[g]? = some tabObj) := hb
      clear hb
      go_wp2_with fail
      have g1 : (z14 != z14) = false := by simp
      obtain ⟨bz, hbz⟩ : ∃ b, (!(z14 == 0)) = b := ⟨_, rfl⟩
      have hbz' : (z14 != 0) = bz := hbz
      have g2 : (bz != bz) = false := by simp
      rw [hbz] at EE
      first | refine wp_region_FC (fun W => W.cell? ⟨wr.heap.size, 0, none⟩ = some (.int .i64 z0) ∧ W.cell? ⟨wr.heap.size, 1, none⟩ = some (.int .i64 z1) ∧ W.cell? ⟨wr.heap.size, 2, none⟩ = some (.int .i64 z2) ∧ W.cell? ⟨wr.heap.size, 3, none⟩ = some (.int .i64 z3) ∧ W.cell? ⟨wr.heap.size, 4, none⟩ = some (.int .i64 z4) ∧ W.cell? ⟨wr.heap.size, 5, none⟩ = some (.int .i64 z5) ∧ W.cell? ⟨wr.heap.size, 6, none⟩ = some (.int .i64 z6) ∧ W.cell? ⟨wr.heap.size, 7, none⟩ = some (.int .i64 z7) ∧ W.cell? ⟨wr.heap.size, 8, none⟩ = some (.int .i64 z8) ∧ W.cell? ⟨wr.heap.size, 9, none⟩ = some (.int .i64 z9) ∧ W.cell? ⟨wr.heap.size, 10, none⟩ = some (.int .i64 z10) ∧ W.cell? ⟨wr.heap.size, 11, none⟩ = some (.int .i64 z11) ∧ W.cell? ⟨wr.heap.size, 12, none⟩ = some (.int .i64 z12) ∧ W.cell? ⟨wr.heap.size, 13, none⟩ = some (.int .i64 z13) ∧ W.cell? ⟨wr.heap.size, 14, none⟩ = some (.int .i64 z14)) (by kernel_rfl) (by kernel_rfl) ?_ ?_ ?_ | refine wp_region_FCs (fun W => W.cell? ⟨wr.heap.size, 0, none⟩ = some (.int .i64 z0) ∧ W.cell? ⟨wr.heap.size, 1, none⟩ = some (.int .i64 z1) ∧ W.cell? ⟨wr.heap.size, 2, none⟩ = some (.int .i64 z2) ∧ W.cell? ⟨wr.heap.size, 3, none⟩ = some (.int .i64 z3) ∧ W.cell? ⟨wr.heap.size, 4, none⟩ = some (.int .i64 z4) ∧ W.cell? ⟨wr.heap.size, 5, none⟩ = some (.int .i64 z5) ∧ W.cell? ⟨wr.heap.size, 6, none⟩ = some (.int .i64 z6) ∧ W.cell? ⟨wr.heap.size, 7, none⟩ = some (.int .i64 z7) ∧ W.cell? ⟨wr.heap.size, 8, none⟩ = some (.int .i64 z8) ∧ W.cell? ⟨wr.heap.size, 9, none⟩ = some (.int .i64 z9) ∧ W.cell? ⟨wr.heap.size, 10, none⟩ = some (.int .i64 z10) ∧ W.cell? ⟨wr.heap.size, 11, none⟩ = some (.int .i64 z11) ∧ W.cell? ⟨wr.heap.size, 12, none⟩ = some (.int .i64 z12) ∧ W.cell? ⟨wr.heap.size, 13, none⟩ = some (.int .i64 z13) ∧ W.cell? ⟨wr.heap.size, 14, none⟩ = some (.int .i64 z14)) ?_ ?_ ?_
      · go_simp
      · (intro W W' h hx hb; have hs := hx.size; (try simp at hs); have hbc : ∀ b o, b < W.heap.size → W'.cell? ⟨b, o, none⟩ = W.cell? ⟨b, o, none⟩ := fun b o h => hb.cell (p := ⟨b, o, none⟩) h; (try dsimp only at h ⊢); simp (disch := omega) only [hbc]; exact h)
      repeat (first | (refine F_skip (by rfl) ?_; simp only [Act.put, List.setIfInBounds_toArray, List.set_cons_zero, List.set_cons_succ]) | (refine F_run (v := ?_) (by rfl) ?_ ?_; rotate_left; (· (intro W hW; (try dsimp only at hW); go_simp; try with_reducible rfl)); simp only [Act.put, List.setIfInBounds_toArray, List.set_cons_zero, List.set_cons_succ]))
      (refine F_call (v := .int .i64 z14) (by rfl) (by rfl) ?_ ?_; (· (intro W hW; (try dsimp only at hW); go_simp; refine (CE.out _).mono ?_; rintro e w' ⟨rfl, hx⟩; exact ⟨_, rfl, rfl, hx⟩))); simp only [Act.put, List.setIfInBounds_toArray, List.set_cons_zero, List.set_cons_succ]
      repeat (first | (refine F_skip (by rfl) ?_; simp only [Act.put, List.setIfInBounds_toArray, List.set_cons_zero, List.set_cons_succ]) | (refine F_run (v := ?_) (by rfl) ?_ ?_; rotate_left; (· (intro W hW; (try dsimp only at hW); go_simp; try with_reducible rfl)); simp only [Act.put, List.setIfInBounds_toArray, List.set_cons_zero, List.set_cons_succ]))
      (refine F_call (v := .bool bz) (by rfl) (by rfl) ?_ ?_; (· (intro W hW; (try dsimp only at hW); go_simp; refine (EE.out _).mono ?_; rintro e w' ⟨rfl, hx⟩; exact ⟨_, rfl, rfl, hx⟩))); simp only [Act.put, List.setIfInBounds_toArray, List.set_cons_zero, List.set_cons_succ]
      repeat (first | (refine F_skip (by rfl) ?_; simp only [Act.put, List.setIfInBounds_toArray, List.set_cons_zero, List.set_cons_succ]) | (refine F_run (v := ?_) (by rfl) ?_ ?_; rotate_left; (· (intro W hW; (try dsimp only at hW); go_simp; try with_reducible rfl)); simp only [Act.put, List.setIfInBounds_toArray, List.set_cons_zero, List.set_cons_succ]))
      rintro W5 ⟨hx5, hc5⟩
      have hx6 : Ext wr W5 := Below.trans (by (repeat (first | exact Below.refl _ _ | assumption | refine Below.drewN ?_ _ | refine Below.drew ?_ | refine Below.setCell ?_ (by first | exact Nat.le_refl _ | (simp; done) | (simp; omega) | omega) _ | refine Below.alloc ?_ (by first | exact Nat.le_refl _ | (simp; done) | (simp; omega) | omega) _))) (hx5.mono (by simp))
      clear hc5 hx5
      have hx7 : Ext w W5 := Ext.step hx hx6
      have hb7 : W5.heap[g]? = some tabObj := (hx6.block g hgl).trans HT.out
      clear e0 e1 e2 e3 e4 e5 e6 e7 e8 e9 e10 e11 e12 e13 e14 HT CE EE hx6 hx
      go_wp2
      exact ⟨⟨k + 1, by omega, rfl, hb7, hx7⟩, by simp [intOf]; omega⟩
    · obtain rfl : k = 17 := by omega
      go_wp2
      go_ret
      exact ⟨rfl, hx⟩
end Go.Proofs.Ytmmhiiiaccldmaa
