/- Contracts: numbers drawn from a list (etchantref01.Mod, Draw.Next). -/
import Derived.Test.YtmmhiiiaccldmaaJ14
set_option linter.unusedVariables false
set_option linter.unusedSimpArgs false

namespace Go.Proofs.Ytmmhiiiaccldmaa
open Go.RowKit
attribute [local go_sem] Gives givesU

/-- What is known of a world in the place of how it came about. -/
theorem wp_world {P : Program} {c : Code} {Q : Exit → Act → World → Prop} {a : Act} {w' : World} (R : World → Prop) (h : R w') (k : ∀ W, R W → Code.wp P c Q a W) : Code.wp P c Q a w' := k _ h

/-- The remainder, from 0 to m - 1. -/
def modZ (n m : Int) : Int := (n.tmod m + m).tmod m
theorem tmod_bd (n : Int) {m : Int} (h : 0 < m) : -m < n.tmod m ∧ n.tmod m < m :=
  by
  have h1 := Int.tmod_lt_of_pos n h
  have h2 := Int.tmod_lt_of_pos (-n) h
  rw [Int.neg_tmod] at h2
  omega
theorem modZ_bd (n : Int) {m : Int} (h : 0 < m) : 0 ≤ modZ n m ∧ modZ n m < m := by
  obtain ⟨h1, h2⟩ := tmod_bd n h
  exact ⟨Int.tmod_nonneg _ (by omega), Int.tmod_lt_of_pos _ h⟩

set_option maxRecDepth 100000 in
set_option maxHeartbeats 1000000 in
theorem r01_Mod (n m : Int) (w : World) (h : 0 < m ∧ m ≤ 4294967296) :
    Calls Try.prog 14 #[.int .i64 n, .int .i64 m] w fun e w' => e = .returned (.int .i64 (modZ n m)) ∧ Ext w w' := by
  obtain ⟨b1, b2⟩ := tmod_bd n h.1
  obtain ⟨b3, b4⟩ := modZ_bd n h.1
  have q1 : IntKind.i64.wrap (n.tmod m) = n.tmod m := wrap_in (by unfold I64; omega)
  have q2 : IntKind.i64.wrap (n.tmod m + m) = n.tmod m + m := wrap_in (by unfold I64; omega)
  have q3 : IntKind.i64.wrap ((n.tmod m + m).tmod m) = modZ n m := wrap_in (by unfold I64; unfold modZ at *; omega)
  have mb : (m == 0) = false := by rw [beq_eq_false_iff_ne]; omega
  have mn : m ≠ 0 := by omega
  clear b1 b2 b3 b4 h
  go_enter Try.func14, Try.ntmps14
  go_wp2
  go_ret
  exact ⟨rfl, by (repeat (first | exact Below.refl _ _ | assumption | refine Below.drewN ?_ _ | refine Below.drew ?_ | refine Below.setCell ?_ (by first | exact Nat.le_refl _ | (simp; done) | (simp; omega) | omega) _ | refine Below.alloc ?_ (by first | exact Nat.le_refl _ | (simp; done) | (simp; omega) | omega) _))⟩

/-- A slice of ints that came in. -/
def Ints (w : World) (a : Option Addr) (len : Nat) (L : List Int) : Prop :=
  len = L.length ∧ len ≤ 9223372036854775807 ∧ (0 < len → ∃ b o, a = some ⟨b, o, none⟩ ∧ b < w.heap.size ∧ ∀ i, i < len → w.cell? ⟨b, o + i, none⟩ = some (.int .i64 (L[i]?.getD 0)))
theorem Ints.ext {w w' : World} {a : Option Addr} {len : Nat} {L : List Int} (h : Ints w a len L) (hx : Ext w w') : Ints w' a len L := by
  refine ⟨h.1, h.2.1, fun h0 => ?_⟩
  obtain ⟨b, o, e, hb, hc⟩ := h.2.2 h0
  refine ⟨b, o, e, Nat.lt_of_lt_of_le hb hx.size, fun i hi => ?_⟩
  rw [hx.cell (p := ⟨b, o + i, none⟩) hb]
  exact hc i hi

theorem Ints.lt {w : World} {a : Option Addr} {len : Nat} {L : List Int} (h : Ints w a len L) : 0 < len → ∀ x, a = some x → x.block < w.heap.size := fun h0 x e => by
  obtain ⟨b, o, e', hb, _⟩ := h.2.2 h0
  rw [e'] at e
  cases e
  exact hb

/-- Where a Draw stands. -/
def DrawAt (w : World) (B : Nat) (a : Option Addr) (len cp k : Nat) : Prop :=
  B < w.heap.size ∧ w.cell? ⟨B, 0, none⟩ = some (.slice a len cp) ∧ w.cell? ⟨B, 1, none⟩ = some (.int .i64 k) ∧ ∀ o, w.frozen? ⟨B, o, none⟩ = false
/-- Nothing that was there has changed but block B. -/
structure Past (B : Nat) (w w' : World) : Prop where
  os : w'.os = w.os
  tape : w'.tape = w.tape
  output : w'.output = w.output
  size : w.heap.size ≤ w'.heap.size
  block : ∀ k, k < w.heap.size → k ≠ B → w'.heap[k]? = w.heap[k]?
theorem Past.below {B n : Nat} {w w' : World} (h : Past B w w') (hB : n ≤ B) (hn : n ≤ w.heap.size) : Below n w w' := ⟨h.os, h.tape, h.output, h.size, fun k hk => h.block k (by omega) (by omega)⟩
theorem Past.of_ext {B : Nat} {w w' : World} (h : Ext w w') : Past B w w' := ⟨h.os, h.tape, h.output, h.size, fun k hk _ => h.block k hk⟩
theorem Past.step {B : Nat} {w w1 w2 : World} (h : Past B w w1) (k : Past B w1 w2) : Past B w w2 :=
  ⟨k.os.trans h.os, k.tape.trans h.tape, k.output.trans h.output, Nat.le_trans h.size k.size, fun i hi hn => (k.block i (Nat.lt_of_lt_of_le hi h.size) hn).trans (h.block i hi hn)⟩
theorem Past.set {B : Nat} (w : World) (o : Nat) (v : Value) : Past B w (w.setCell ⟨B, o, none⟩ v) :=
  ⟨rfl, rfl, rfl, by simp [World.setCell], fun k _ hk => Below.heap_setCell _ _ _ _ hk⟩
theorem Past.cell {B : Nat} {w w' : World} (h : Past B w w') {b : Nat} (o : Nat) (hl : b < w.heap.size) (hb : b ≠ B) : w'.cell? ⟨b, o, none⟩ = w.cell? ⟨b, o, none⟩ := World.cell?_of_block (h.block b hl hb)
theorem Past.frozen {B : Nat} {w w' : World} (h : Past B w w') {b : Nat} (o : Nat) (hl : b < w.heap.size) (hb : b ≠ B) : w'.frozen? ⟨b, o, none⟩ = w.frozen? ⟨b, o, none⟩ := World.frozen?_of_block (h.block b hl hb)
theorem Past.ints {B : Nat} {w w' : World} {a : Option Addr} {len : Nat} {L : List Int} (h : Past B w w') (hi : Ints w a len L) (hn : 0 < len → ∀ x, a = some x → x.block ≠ B) : Ints w' a len L := by
  refine ⟨hi.1, hi.2.1, fun h0 => ?_⟩
  obtain ⟨b, o, e, hb, hc⟩ := hi.2.2 h0
  refine ⟨b, o, e, Nat.lt_of_lt_of_le hb h.size, fun i hi => ?_⟩
  rw [h.cell _ hb (hn h0 _ e)]
  exact hc i hi
theorem DrawAt.ext {w w' : World} {B : Nat} {a : Option Addr} {len cp k : Nat} (h : DrawAt w B a len cp k) (hx : Ext w w') : DrawAt w' B a len cp k := by
  obtain ⟨h1, h2, h3, h4⟩ := h
  exact ⟨Nat.lt_of_lt_of_le h1 hx.size, (hx.cell (p := ⟨B, 0, none⟩) h1).trans h2, (hx.cell (p := ⟨B, 1, none⟩) h1).trans h3, fun o => (hx.frozen (p := ⟨B, o, none⟩) h1).trans (h4 o)⟩
theorem DrawAt.set {w : World} {B : Nat} {a : Option Addr} {len cp k : Nat} (h : DrawAt w B a len cp k) (j : Nat) : DrawAt (w.setCell ⟨B, 1, none⟩ (.int .i64 j)) B a len cp j := by
  obtain ⟨h1, h2, h3, h4⟩ := h
  refine ⟨by simpa [World.setCell] using h1, ?_, ?_, fun o => ?_⟩
  · go_simp
  · go_simp
  · go_simp

def nextV (L : List Int) (k : Nat) (n : Int) : Int := if k < L.length then modZ (L[k]?.getD 0) n else 0
def nextK (L : List Int) (k : Nat) : Nat := if k < L.length then k + 1 else k
theorem nextV_bd (L : List Int) (k : Nat) {n : Int} (h : 0 < n) : 0 ≤ nextV L k n ∧ nextV L k n < n := by
  unfold nextV
  split
  · exact modZ_bd _ h
  · omega

set_option maxRecDepth 100000 in
set_option maxHeartbeats 2000000 in
theorem r01_Next (L : List Int) (B : Nat) (a : Option Addr) (len cp k : Nat) (n : Int) (w : World) (hd : DrawAt w B a len cp k) (hL : Ints w a len L) (hne : 0 < len → ∀ x, a = some x → x.block ≠ B) (hn : 0 < n ∧ n ≤ 4294967296) (hk : k ≤ len) :
    Calls Try.prog 24 #[.pointer (some ⟨B, 0, none⟩), .int .i64 n] w fun e w' => e = .returned (.int .i64 (nextV L k n)) ∧ DrawAt w' B a len cp (nextK L k) ∧ Past B w w' := by
  obtain ⟨hB, c0, c1, hf⟩ := hd
  obtain ⟨hl, hm, hrow⟩ := hL
  by_cases hlt : k < len
  · have e1 : nextV L k n = modZ (L[k]?.getD 0) n := by unfold nextV; rw [if_pos (by omega)]
    have e2 : nextK L k = k + 1 := by unfold nextK; rw [if_pos (by omega)]
    rw [e1, e2]
    obtain ⟨b, o, rfl, hb, hc⟩ := hrow (by omega)
    have hck := hc k hlt
    have hbB : b ≠ B := hne (by omega) _ rfl
    obtain ⟨x, X⟩ : ∃ x, L[k]?.getD 0 = x := ⟨_, rfl⟩
    rw [X] at hck ⊢
    have MC := Lib.hid (fun w => r01_Mod x n w hn)
    clear e1 e2 hc hrow hl hne X hn
    have w1 : IntKind.i64.wrap ((k : Int) + 1) = ((k + 1 : Nat) : Int) := by rw [wrap_in]; rfl; unfold I64; omega
    have w2 : IntKind.i64.wrap (((k + 1 : Nat) : Int) - 1) = (k : Int) := by rw [wrap_in]; omega; unfold I64; omega
    have g1 : decide ((len : Int) ≤ (k : Int)) = false := by rw [decide_eq_false_iff_not]; omega
    have i0 : (0 : Int) ≤ (k : Int) := by omega
    have i1 : (k : Int) < (len : Int) := by omega
    go_enter Try.func24, Try.ntmps24
    have w3 : IntKind.i64.wrap (k : Int) = (k : Int) := by rw [wrap_in]; unfold I64; omega
    have ts : (k : Int).toNat = k := by omega
    go_wp2_with fail
    first | refine wp_region_FC (fun W => W.cell? ⟨B, 0, none⟩ = some (.slice (some ⟨b, o, none⟩) len cp) ∧ W.cell? ⟨B, 1, none⟩ = some (.int .i64 k)) (by kernel_rfl) (by kernel_rfl) ?_ ?_ ?_ | refine wp_region_FCs (fun W => W.cell? ⟨B, 0, none⟩ = some (.slice (some ⟨b, o, none⟩) len cp) ∧ W.cell? ⟨B, 1, none⟩ = some (.int .i64 k)) ?_ ?_ ?_
    · go_simp
    · (intro W W' h hx hb; have hs := hx.size; (try simp at hs); have hbc : ∀ b o, b < W.heap.size → W'.cell? ⟨b, o, none⟩ = W.cell? ⟨b, o, none⟩ := fun b o h => hb.cell (p := ⟨b, o, none⟩) h; (try dsimp only at h ⊢); simp (disch := omega) only [hbc]; exact h)
    repeat (first | (refine F_skip (by rfl) ?_; simp only [Act.put, List.setIfInBounds_toArray, List.set_cons_zero, List.set_cons_succ]) | (refine F_run (v := ?_) (by rfl) ?_ ?_; rotate_left; (· (intro W hW; (try dsimp only at hW); go_simp; try with_reducible rfl)); simp only [Act.put, List.setIfInBounds_toArray, List.set_cons_zero, List.set_cons_succ]))
    rintro W ⟨hx, hc0, hc1⟩
    have hdW : DrawAt W B (some ⟨b, o, none⟩) len cp k := DrawAt.ext ⟨hB, c0, c1, hf⟩ hx
    have hfW := hdW.2.2.2
    have hkW : W.cell? ⟨b, o + k, none⟩ = some (.int .i64 x) := (hx.cell (p := ⟨b, o + k, none⟩) hb).trans hck
    have hBW : B < W.heap.size := Nat.lt_of_lt_of_le hB hx.size
    have hbW : b < W.heap.size := Nat.lt_of_lt_of_le hb hx.size
    have hxs := hx.size
    have HD := Lib.hid hdW
    clear hdW
    have HX : Hid (Ext w W) := hx
    clear hx
    go_wp2_with fail
    first | refine wp_region_FC (fun W => W.cell? ⟨B, 0, none⟩ = some (.slice (some ⟨b, o, none⟩) len cp) ∧ W.cell? ⟨B, 1, none⟩ = some (.int .i64 (k + 1 : Nat)) ∧ W.cell? ⟨b, o + k, none⟩ = some (.int .i64 x)) (by kernel_rfl) (by kernel_rfl) ?_ ?_ ?_ | refine wp_region_FCs (fun W => W.cell? ⟨B, 0, none⟩ = some (.slice (some ⟨b, o, none⟩) len cp) ∧ W.cell? ⟨B, 1, none⟩ = some (.int .i64 (k + 1 : Nat)) ∧ W.cell? ⟨b, o + k, none⟩ = some (.int .i64 x)) ?_ ?_ ?_
    · go_simp
    · (intro W W' h hx hb; have hs := hx.size; (try simp at hs); have hbc : ∀ b o, b < W.heap.size → W'.cell? ⟨b, o, none⟩ = W.cell? ⟨b, o, none⟩ := fun b o h => hb.cell (p := ⟨b, o, none⟩) h; (try dsimp only at h ⊢); simp (disch := omega) only [hbc]; exact h)
    repeat (first | (refine F_skip (by rfl) ?_; simp only [Act.put, List.setIfInBounds_toArray, List.set_cons_zero, List.set_cons_succ]) | (refine F_run (v := ?_) (by rfl) ?_ ?_; rotate_left; (· (intro W hW; (try dsimp only at hW); go_simp; try with_reducible rfl)); simp only [Act.put, List.setIfInBounds_toArray, List.set_cons_zero, List.set_cons_succ]))
    (refine F_call (v := .int .i64 (modZ x n)) (by rfl) (by rfl) ?_ ?_; (· (intro W hW; (try dsimp only at hW); go_simp; refine (MC.out _).mono ?_; rintro e w' ⟨rfl, hx⟩; exact ⟨_, rfl, rfl, hx⟩))); simp only [Act.put, List.setIfInBounds_toArray, List.set_cons_zero, List.set_cons_succ]
    repeat (first | (refine F_skip (by rfl) ?_; simp only [Act.put, List.setIfInBounds_toArray, List.set_cons_zero, List.set_cons_succ]) | (refine F_run (v := ?_) (by rfl) ?_ ?_; rotate_left; (· (intro W hW; (try dsimp only at hW); go_simp; try with_reducible rfl)); simp only [Act.put, List.setIfInBounds_toArray, List.set_cons_zero, List.set_cons_succ]))
    rintro W2 ⟨hx2, hc2⟩
    go_wp2
    go_ret
    exact ⟨rfl, (HD.out.set _).ext hx2, ((Past.of_ext HX.out).step (Past.set W 1 _)).step (Past.of_ext hx2)⟩
  · have e1 : nextV L k n = 0 := by unfold nextV; rw [if_neg (by omega)]
    have e2 : nextK L k = k := by unfold nextK; rw [if_neg (by omega)]
    rw [e1, e2]
    have g1 : decide ((len : Int) ≤ (k : Int)) = true := by rw [decide_eq_true_iff]; omega
    have hdh : Hid (DrawAt w B a len cp k) := ⟨hB, c0, c1, hf⟩
    clear e1 e2 hl hne hn hrow
    go_enter Try.func24, Try.ntmps24
    go_wp2_with fail
    first | refine wp_region_FC (fun W => W.cell? ⟨B, 0, none⟩ = some (.slice a len cp) ∧ W.cell? ⟨B, 1, none⟩ = some (.int .i64 k)) (by kernel_rfl) (by kernel_rfl) ?_ ?_ ?_ | refine wp_region_FCs (fun W => W.cell? ⟨B, 0, none⟩ = some (.slice a len cp) ∧ W.cell? ⟨B, 1, none⟩ = some (.int .i64 k)) ?_ ?_ ?_
    · go_simp
    · (intro W W' h hx hb; have hs := hx.size; (try simp at hs); have hbc : ∀ b o, b < W.heap.size → W'.cell? ⟨b, o, none⟩ = W.cell? ⟨b, o, none⟩ := fun b o h => hb.cell (p := ⟨b, o, none⟩) h; (try dsimp only at h ⊢); simp (disch := omega) only [hbc]; exact h)
    repeat (first | (refine F_skip (by rfl) ?_; simp only [Act.put, List.setIfInBounds_toArray, List.set_cons_zero, List.set_cons_succ]) | (refine F_run (v := ?_) (by rfl) ?_ ?_; rotate_left; (· (intro W hW; (try dsimp only at hW); go_simp; try with_reducible rfl)); simp only [Act.put, List.setIfInBounds_toArray, List.set_cons_zero, List.set_cons_succ]))
    rintro W ⟨hx, hc0, hc1⟩
    go_wp2
    go_ret
    exact ⟨rfl, hdh.out.ext hx, Past.of_ext hx⟩
end Go.Proofs.Ytmmhiiiaccldmaa
