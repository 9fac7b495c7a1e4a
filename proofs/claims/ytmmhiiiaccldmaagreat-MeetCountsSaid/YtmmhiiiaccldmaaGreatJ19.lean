/- Contracts: numbers drawn from a list (etchantref01.Mod, Draw.Next). | meet.Count where the figures are swapped (arc, line); from the contracts of its callees. | Contracts: meet.Count of a line and an arc. -/
import Derived.Test.YtmmhiiiaccldmaaGreatJ13
import Derived.Test.YtmmhiiiaccldmaaGreatJ18
import Derived.StillTailTactics
import Derived.Deep.DeepCutAuto
set_option linter.unusedVariables false
set_option linter.unusedSimpArgs false

namespace Go.Proofs.YtmmhiiiaccldmaaGreat
open Go.RowKit
attribute [local go_sem] Gives givesU

/-- What is known of a world in the place of how it came about. -/
theorem wp_world {P : Program} {c : Code} {Q : Exit → Act → World → Prop} {a : Act} {w' : World} (R : World → Prop) (h : R w') (k : ∀ W, R W → Code.wp P c Q a W) : Code.wp P c Q a w' := k _ h

/-- The remainder, from 0 to m - 1. -/
def modZ (n m : Int) : Int := (n.tmod m + m).tmod m
theorem tmod_bd (n : Int) {m : Int} (h : 0 < m) : -m < n.tmod m ∧ n.tmod m < m :=
  by
  have h1 := Int.tmod_lt_of_pos n h
  have h2 := Int.tmod_lt_of_pos (-n) h
  rw [Int.neg_tmod] at h2
  omega
theorem modZ_bd (n : Int) {m : Int} (h : 0 < m) : 0 ≤ modZ n m ∧ modZ n m < m := by
  obtain ⟨h1, h2⟩ := tmod_bd n h
  exact ⟨Int.tmod_nonneg _ (by omega), Int.tmod_lt_of_pos _ h⟩

set_option maxRecDepth 100000 in
set_option maxHeartbeats 1000000 in
theorem r01_Mod (n m : Int) (w : World) (h : 0 < m ∧ m ≤ 4294967296) :
    Calls Tryz.prog 29 #[.int .i64 n, .int .i64 m] w fun e w' => e = .returned (.int .i64 (modZ n m)) ∧ Ext w w' := by
  obtain ⟨b1, b2⟩ := tmod_bd n h.1
  obtain ⟨b3, b4⟩ := modZ_bd n h.1
  have q1 : IntKind.i64.wrap (n.tmod m) = n.tmod m := wrap_in (by unfold I64; omega)
  have q2 : IntKind.i64.wrap (n.tmod m + m) = n.tmod m + m := wrap_in (by unfold I64; omega)
  have q3 : IntKind.i64.wrap ((n.tmod m + m).tmod m) = modZ n m := wrap_in (by unfold I64; unfold modZ at *; omega)
  have mb : (m == 0) = false := by rw [beq_eq_false_iff_ne]; omega
  have mn : m ≠ 0 := by omega
  clear b1 b2 b3 b4 h
  go_enter Tryz.func29, Tryz.ntmps29
  go_wp2
  go_ret
  exact ⟨rfl, bxx⟩

/-- A slice of ints that came in. -/
def Ints (w : World) (a : Option Addr) (len : Nat) (L : List Int) : Prop :=
  len = L.length ∧ len ≤ 9223372036854775807 ∧ (0 < len → ∃ b o, a = some ⟨b, o, none⟩ ∧ b < w.heap.size ∧ ∀ i, i < len → w.cell? ⟨b, o + i, none⟩ = some (.int .i64 (L[i]?.getD 0)))
theorem Ints.ext {w w' : World} {a : Option Addr} {len : Nat} {L : List Int} (h : Ints w a len L) (hx : Ext w w') : Ints w' a len L := by
  refine ⟨h.1, h.2.1, fun h0 => ?_⟩
  obtain ⟨b, o, e, hb, hc⟩ := h.2.2 h0
  refine ⟨b, o, e, Nat.lt_of_lt_of_le hb hx.size, fun i hi => ?_⟩
  rw [hx.cell (p := ⟨b, o + i, none⟩) hb]
  exact hc i hi

theorem Ints.lt {w : World} {a : Option Addr} {len : Nat} {L : List Int} (h : Ints w a len L) : 0 < len → ∀ x, a = some x → x.block < w.heap.size := fun h0 x e => by
  obtain ⟨b, o, e', hb, _⟩ := h.2.2 h0
  rw [e'] at e
  cases e
  exact hb

/-- Where a Draw stands. -/
def DrawAt (w : World) (B : Nat) (a : Option Addr) (len cp k : Nat) : Prop :=
  B < w.heap.size ∧ w.cell? ⟨B, 0, none⟩ = some (.slice a len cp) ∧ w.cell? ⟨B, 1, none⟩ = some (.int .i64 k) ∧ ∀ o, w.frozen? ⟨B, o, none⟩ = false
/-- Nothing that was there has changed but block B. -/
structure Past (B : Nat) (w w' : World) : Prop where
  os : w'.os = w.os
  tape : w'.tape = w.tape
  output : w'.output = w.output
  size : w.heap.size ≤ w'.heap.size
  block : ∀ k, k < w.heap.size → k ≠ B → w'.heap[k]? = w.heap[k]?
theorem Past.below {B n : Nat} {w w' : World} (h : Past B w w') (hB : n ≤ B) (hn : n ≤ w.heap.size) : Below n w w' := ⟨h.os, h.tape, h.output, h.size, fun k hk => h.block k (by omega) (by omega)⟩
theorem Past.of_ext {B : Nat} {w w' : World} (h : Ext w w') : Past B w w' := ⟨h.os, h.tape, h.output, h.size, fun k hk _ => h.block k hk⟩
theorem Past.step {B : Nat} {w w1 w2 : World} (h : Past B w w1) (k : Past B w1 w2) : Past B w w2 :=
  ⟨k.os.trans h.os, k.tape.trans h.tape, k.output.trans h.output, Nat.le_trans h.size k.size, fun i hi hn => (k.block i (Nat.lt_of_lt_of_le hi h.size) hn).trans (h.block i hi hn)⟩
theorem Past.set {B : Nat} (w : World) (o : Nat) (v : Value) : Past B w (w.setCell ⟨B, o, none⟩ v) :=
  ⟨rfl, rfl, rfl, by simp [World.setCell], fun k _ hk => Below.heap_setCell _ _ _ _ hk⟩
theorem Past.cell {B : Nat} {w w' : World} (h : Past B w w') {b : Nat} (o : Nat) (hl : b < w.heap.size) (hb : b ≠ B) : w'.cell? ⟨b, o, none⟩ = w.cell? ⟨b, o, none⟩ := World.cell?_of_block (h.block b hl hb)
theorem Past.frozen {B : Nat} {w w' : World} (h : Past B w w') {b : Nat} (o : Nat) (hl : b < w.heap.size) (hb : b ≠ B) : w'.frozen? ⟨b, o, none⟩ = w.frozen? ⟨b, o, none⟩ := World.frozen?_of_block (h.block b hl hb)
theorem Past.ints {B : Nat} {w w' : World} {a : Option Addr} {len : Nat} {L : List Int} (h : Past B w w') (hi : Ints w a len L) (hn : 0 < len → ∀ x, a = some x → x.block ≠ B) : Ints w' a len L := by
  refine ⟨hi.1, hi.2.1, fun h0 => ?_⟩
  obtain ⟨b, o, e, hb, hc⟩ := hi.2.2 h0
  refine ⟨b, o, e, Nat.lt_of_lt_of_le hb h.size, fun i hi => ?_⟩
  rw [h.cell _ hb (hn h0 _ e)]
  exact hc i hi
theorem DrawAt.ext {w w' : World} {B : Nat} {a : Option Addr} {len cp k : Nat} (h : DrawAt w B a len cp k) (hx : Ext w w') : DrawAt w' B a len cp k := by
  obtain ⟨h1, h2, h3, h4⟩ := h
  exact ⟨Nat.lt_of_lt_of_le h1 hx.size, (hx.cell (p := ⟨B, 0, none⟩) h1).trans h2, (hx.cell (p := ⟨B, 1, none⟩) h1).trans h3, fun o => (hx.frozen (p := ⟨B, o, none⟩) h1).trans (h4 o)⟩
theorem DrawAt.set {w : World} {B : Nat} {a : Option Addr} {len cp k : Nat} (h : DrawAt w B a len cp k) (j : Nat) : DrawAt (w.setCell ⟨B, 1, none⟩ (.int .i64 j)) B a len cp j := by
  obtain ⟨h1, h2, h3, h4⟩ := h
  refine ⟨by simpa [World.setCell] using h1, ?_, ?_, fun o => ?_⟩
  · go_simp
  · go_simp
  · go_simp

def nextV (L : List Int) (k : Nat) (n : Int) : Int := if k < L.length then modZ (L[k]?.getD 0) n else 0
def nextK (L : List Int) (k : Nat) : Nat := if k < L.length then k + 1 else k
theorem nextV_bd (L : List Int) (k : Nat) {n : Int} (h : 0 < n) : 0 ≤ nextV L k n ∧ nextV L k n < n := by
  unfold nextV
  split
  · exact modZ_bd _ h
  · omega

set_option maxRecDepth 100000 in
set_option maxHeartbeats 2000000 in
theorem r01_Next (L : List Int) (B : Nat) (a : Option Addr) (len cp k : Nat) (n : Int) (w : World) (hd : DrawAt w B a len cp k) (hL : Ints w a len L) (hne : 0 < len → ∀ x, a = some x → x.block ≠ B) (hn : 0 < n ∧ n ≤ 4294967296) (hk : k ≤ len) :
    Calls Tryz.prog 14 #[.pointer (some ⟨B, 0, none⟩), .int .i64 n] w fun e w' => e = .returned (.int .i64 (nextV L k n)) ∧ DrawAt w' B a len cp (nextK L k) ∧ Past B w w' := by
  obtain ⟨hB, c0, c1, hf⟩ := hd
  obtain ⟨hl, hm, hrow⟩ := hL
  by_cases hlt : k < len
  · have e1 : nextV L k n = modZ (L[k]?.getD 0) n := by unfold nextV; rw [if_pos (by omega)]
    have e2 : nextK L k = k + 1 := by unfold nextK; rw [if_pos (by omega)]
    rw [e1, e2]
    obtain ⟨b, o, rfl, hb, hc⟩ := hrow (by omega)
    have hck := hc k hlt
    have hbB : b ≠ B := hne (by omega) _ rfl
    obtain ⟨x, X⟩ : ∃ x, L[k]?.getD 0 = x := ⟨_, rfl⟩
    rw [X] at hck ⊢
    have MC := Lib.hid (fun w => r01_Mod x n w hn)
    clear e1 e2 hc hrow hl hne X hn
    have w1 : IntKind.i64.wrap ((k : Int) + 1) = ((k + 1 : Nat) : Int) := by rw [wrap_in]; rfl; unfold I64; omega
    have w2 : IntKind.i64.wrap (((k + 1 : Nat) : Int) - 1) = (k : Int) := by rw [wrap_in]; omega; unfold I64; omega
    have g1 : decide ((len : Int) ≤ (k : Int)) = false := by rw [decide_eq_false_iff_not]; omega
    have i0 : (0 : Int) ≤ (k : Int) := by omega
    have i1 : (k : Int) < (len : Int) := by omega
    go_enter Tryz.func14, Tryz.ntmps14
    have w3 : IntKind.i64.wrap (k : Int) = (k : Int) := by rw [wrap_in]; unfold I64; omega
    have ts : (k : Int).toNat = k := by omega
    go_wp2_with fail
    refine wp_FS (fun W => W.cell? ⟨B, 0, none⟩ = some (.slice (some ⟨b, o, none⟩) len cp) ∧ W.cell? ⟨B, 1, none⟩ = some (.int .i64 k)) ?_
    repeat (first | refine F_s ?_ | refine F_r ?_)
    rintro W ⟨hx, hc0, hc1⟩
    have hdW : DrawAt W B (some ⟨b, o, none⟩) len cp k := DrawAt.ext ⟨hB, c0, c1, hf⟩ hx
    have hfW := hdW.2.2.2
    have hkW : W.cell? ⟨b, o + k, none⟩ = some (.int .i64 x) := (hx.cell (p := ⟨b, o + k, none⟩) hb).trans hck
    have hBW : B < W.heap.size := Nat.lt_of_lt_of_le hB hx.size
    have hbW : b < W.heap.size := Nat.lt_of_lt_of_le hb hx.size
    have hxs := hx.size
    have HD := Lib.hid hdW
    clear hdW
    have HX : Hid (Ext w W) := hx
    clear hx
    go_wp2_with fail
    refine wp_FS (fun W => W.cell? ⟨B, 0, none⟩ = some (.slice (some ⟨b, o, none⟩) len cp) ∧ W.cell? ⟨B, 1, none⟩ = some (.int .i64 (k + 1 : Nat)) ∧ W.cell? ⟨b, o + k, none⟩ = some (.int .i64 x)) ?_
    repeat (first | refine F_s ?_ | refine F_r ?_)
    (refine F_call (v := .int .i64 (modZ x n)) (by rfl) (by rfl) ?_ ?_; (· (intro W hW; (try dsimp only at hW); go_simp; refine (MC.out _).mono ?_; rintro e w' ⟨rfl, hx⟩; exact ⟨_, rfl, rfl, hx⟩))); refine F_put ?_
    repeat (first | refine F_s ?_ | refine F_r ?_)
    rintro W2 ⟨hx2, hc2⟩
    go_wp2
    go_ret
    exact ⟨rfl, (HD.out.set _).ext hx2, ((Past.of_ext HX.out).step (Past.set W 1 _)).step (Past.of_ext hx2)⟩
  · have e1 : nextV L k n = 0 := by unfold nextV; rw [if_neg (by omega)]
    have e2 : nextK L k = k := by unfold nextK; rw [if_neg (by omega)]
    rw [e1, e2]
    have g1 : decide ((len : Int) ≤ (k : Int)) = true := by rw [decide_eq_true_iff]; omega
    have hdh : Hid (DrawAt w B a len cp k) := ⟨hB, c0, c1, hf⟩
    clear e1 e2 hl hne hn hrow
    go_enter Tryz.func14, Tryz.ntmps14
    go_wp2_with fail
    refine wp_FS (fun W => W.cell? ⟨B, 0, none⟩ = some (.slice a len cp) ∧ W.cell? ⟨B, 1, none⟩ = some (.int .i64 k)) ?_
    repeat (first | refine F_s ?_ | refine F_r ?_)
    rintro W ⟨hx, hc0, hc1⟩
    go_wp2
    go_ret
    exact ⟨rfl, hdh.out.ext hx, Past.of_ext hx⟩
end Go.Proofs.YtmmhiiiaccldmaaGreat

namespace Go.Proofs.YtmmhiiiaccldmaaGreat
open Go.RowKit
attribute [local go_sem] Gives givesU

set_option maxRecDepth 100000 in
set_option maxHeartbeats 4000000 in
theorem Count_arcLine (k ax ay bx by' cx cy k' dx dy ex ey fx fy r ux uy vx vy res : Int) (w : World)
    (C1 : ∀ w : World, Calls Tryz.prog 17 #[.agg #[.int .i64 k, .int .i64 ax, .int .i64 ay, .int .i64 bx, .int .i64 by', .int .i64 cx, .int .i64 cy]] w fun e w' => e = .returned (.int .i64 0) ∧ Ext w w')
    (C2 : ∀ w : World, Calls Tryz.prog 17 #[.agg #[.int .i64 k', .int .i64 dx, .int .i64 dy, .int .i64 ex, .int .i64 ey, .int .i64 fx, .int .i64 fy]] w fun e w' => e = .returned (.int .i64 0) ∧ Ext w w')
    (F1 : ∀ w : World, Calls Tryz.prog 18 #[.agg #[.int .i64 k, .int .i64 ax, .int .i64 ay, .int .i64 bx, .int .i64 by', .int .i64 cx, .int .i64 cy]] w fun e w' => e = .returned (.iface 62 (.agg #[.int .i64 cx, .int .i64 cy, .int .i64 r, .int .i64 ux, .int .i64 uy, .int .i64 vx, .int .i64 vy])) ∧ Ext w w')
    (F2 : ∀ w : World, Calls Tryz.prog 18 #[.agg #[.int .i64 k', .int .i64 dx, .int .i64 dy, .int .i64 ex, .int .i64 ey, .int .i64 fx, .int .i64 fy]] w fun e w' => e = .returned (.iface 58 (.agg #[.int .i64 dx, .int .i64 dy, .int .i64 ex, .int .i64 ey])) ∧ Ext w w')
    (BL : ∀ w : World, Calls Tryz.prog 21 #[.agg #[.int .i64 dx, .int .i64 dy, .int .i64 ex, .int .i64 ey], .agg #[.int .i64 cx, .int .i64 cy, .int .i64 r, .int .i64 ux, .int .i64 uy, .int .i64 vx, .int .i64 vy]] w fun e w' => e = .returned (.int .i64 res) ∧ Ext w w') :
    Calls Tryz.prog 8 #[.agg #[.int .i64 k, .int .i64 ax, .int .i64 ay, .int .i64 bx, .int .i64 by', .int .i64 cx, .int .i64 cy], .agg #[.int .i64 k', .int .i64 dx, .int .i64 dy, .int .i64 ex, .int .i64 ey, .int .i64 fx, .int .i64 fy]] w fun e w' => e = .returned (.int .i64 res) ∧ Ext w w' := by
  replace C1 := Lib.hid C1
  replace C2 := Lib.hid C2
  replace F1 := Lib.hid F1
  replace F2 := Lib.hid F2
  replace BL := Lib.hid BL
  have a1 := as_line_point
  have a2 := as_line_line
  have a3 := as_arc_line
  have a4 := as_arc_arc
  go_enter Tryz.func8, Tryz.ntmps8
  go_wp2_with fail
  refine (C1.out _).mono ?_
  rintro e w1 ⟨rfl, hx⟩
  have hx0 : Ext w w1 := Ext.step bxx hx
  have hs0 := hx0.size
  have hz_w1 : w.heap.size + 2 ≤ w1.heap.size := Nat.le_trans omm hx.size
  obtain ⟨hl_w1_0, hk_w1_0, hf_w1_0⟩ := extK hx (w.heap.size)
  obtain ⟨hl_w1_1, hk_w1_1, hf_w1_1⟩ := extK hx (w.heap.size + 1)
  clear hx
  go_wp2_with fail
  refine (C2.out _).mono ?_
  rintro e w2 ⟨rfl, hx⟩
  have hx2 : Ext w w2 := Ext.step hx0 hx
  have hs2 := hx2.size
  have hz_w2 : w.heap.size + 2 ≤ w2.heap.size := Nat.le_trans omm hx.size
  obtain ⟨hl_w2_0, hk_w2_0, hf_w2_0⟩ := extK hx (w.heap.size)
  obtain ⟨hl_w2_1, hk_w2_1, hf_w2_1⟩ := extK hx (w.heap.size + 1)
  clear hx
  go_wp2_with fail
  refine wp_FS (fun W => W.cell? ⟨w.heap.size, 0, none⟩ = some (.int .i64 k) ∧ W.cell? ⟨w.heap.size, 1, none⟩ = some (.int .i64 ax) ∧ W.cell? ⟨w.heap.size, 2, none⟩ = some (.int .i64 ay) ∧ W.cell? ⟨w.heap.size, 3, none⟩ = some (.int .i64 bx) ∧ W.cell? ⟨w.heap.size, 4, none⟩ = some (.int .i64 by') ∧ W.cell? ⟨w.heap.size, 5, none⟩ = some (.int .i64 cx) ∧ W.cell? ⟨w.heap.size, 6, none⟩ = some (.int .i64 cy) ∧ W.cell? ⟨w.heap.size + 1, 0, none⟩ = some (.int .i64 k') ∧ W.cell? ⟨w.heap.size + 1, 1, none⟩ = some (.int .i64 dx) ∧ W.cell? ⟨w.heap.size + 1, 2, none⟩ = some (.int .i64 dy) ∧ W.cell? ⟨w.heap.size + 1, 3, none⟩ = some (.int .i64 ex) ∧ W.cell? ⟨w.heap.size + 1, 4, none⟩ = some (.int .i64 ey) ∧ W.cell? ⟨w.heap.size + 1, 5, none⟩ = some (.int .i64 fx) ∧ W.cell? ⟨w.heap.size + 1, 6, none⟩ = some (.int .i64 fy)) ?_
  repeat (first | refine F_s ?_ | refine F_r ?_)
  (refine F_call (v := .iface 62 (.agg #[.int .i64 cx, .int .i64 cy, .int .i64 r, .int .i64 ux, .int .i64 uy, .int .i64 vx, .int .i64 vy])) (by rfl) (by rfl) ?_ ?_; (· (intro W hW; (try dsimp only at hW); go_simp; refine (F1.out _).mono ?_; rintro e w' ⟨rfl, hx⟩; exact ⟨_, rfl, rfl, hx⟩))); refine F_put ?_
  repeat (first | refine F_s ?_ | refine F_r ?_)
  (refine F_call (v := .iface 58 (.agg #[.int .i64 dx, .int .i64 dy, .int .i64 ex, .int .i64 ey])) (by rfl) (by rfl) ?_ ?_; (· (intro W hW; (try dsimp only at hW); go_simp; refine (F2.out _).mono ?_; rintro e w' ⟨rfl, hx⟩; exact ⟨_, rfl, rfl, hx⟩))); refine F_put ?_
  repeat (first | refine F_s ?_ | refine F_r ?_)
  rintro W ⟨hx, hc⟩
  have hx3 : Ext w W := Ext.step hx2 hx
  have hs3 := hx.size
  have hf0 : ∀ o, W.frozen? ⟨w.heap.size, o, none⟩ = w2.frozen? ⟨w.heap.size, o, none⟩ := fun o => hx.frozen (p := ⟨w.heap.size, o, none⟩) (show w.heap.size < w2.heap.size by omega)
  have hf1 : ∀ o, W.frozen? ⟨w.heap.size + 1, o, none⟩ = w2.frozen? ⟨w.heap.size + 1, o, none⟩ := fun o => hx.frozen (p := ⟨w.heap.size + 1, o, none⟩) (show w.heap.size + 1 < w2.heap.size by omega)
  clear hx
  (try dsimp only at hc)
  go_wp2_with fail
  refine (kind_arc _ _ _ _ _ _ _ _).mono ?_
  rintro e w4 ⟨rfl, hx⟩
  have hx4 : Ext w w4 := Ext.step hx3 hx
  have hs4 := hx.size
  have hz_w4 : w.heap.size + 2 ≤ w4.heap.size := Nat.le_trans omm hx.size
  obtain ⟨hl_w4_0, hk_w4_0, hf_w4_0⟩ := extK hx (w.heap.size)
  obtain ⟨hl_w4_1, hk_w4_1, hf_w4_1⟩ := extK hx (w.heap.size + 1)
  clear hx
  go_wp2_with fail
  refine (kind_line _ _ _ _ _).mono ?_
  rintro e w5 ⟨rfl, hx⟩
  have hx5 : Ext w w5 := Ext.step hx4 hx
  have hs5 := hx5.size
  have hz_w5 : w.heap.size + 2 ≤ w5.heap.size := Nat.le_trans omm hx.size
  obtain ⟨hl_w5_0, hk_w5_0, hf_w5_0⟩ := extK hx (w.heap.size)
  obtain ⟨hl_w5_1, hk_w5_1, hf_w5_1⟩ := extK hx (w.heap.size + 1)
  clear hx
  have hq : (fun W => (W.cell? ⟨w.heap.size, 0, none⟩ = some (.int .i64 k) ∧ W.cell? ⟨w.heap.size, 1, none⟩ = some (.int .i64 ax) ∧ W.cell? ⟨w.heap.size, 2, none⟩ = some (.int .i64 ay) ∧ W.cell? ⟨w.heap.size, 3, none⟩ = some (.int .i64 bx) ∧ W.cell? ⟨w.heap.size, 4, none⟩ = some (.int .i64 by') ∧ W.cell? ⟨w.heap.size, 5, none⟩ = some (.int .i64 cx) ∧ W.cell? ⟨w.heap.size, 6, none⟩ = some (.int .i64 cy) ∧ W.cell? ⟨w.heap.size + 1, 0, none⟩ = some (.int .i64 k') ∧ W.cell? ⟨w.heap.size + 1, 1, none⟩ = some (.int .i64 dx) ∧ W.cell? ⟨w.heap.size + 1, 2, none⟩ = some (.int .i64 dy) ∧ W.cell? ⟨w.heap.size + 1, 3, none⟩ = some (.int .i64 ex) ∧ W.cell? ⟨w.heap.size + 1, 4, none⟩ = some (.int .i64 ey) ∧ W.cell? ⟨w.heap.size + 1, 5, none⟩ = some (.int .i64 fx) ∧ W.cell? ⟨w.heap.size + 1, 6, none⟩ = some (.int .i64 fy) )) w5 := by
    (try dsimp only)
    go_simp
  obtain ⟨z0, z1, z2, z3, z4, z5, z6, z7, z8, z9, z10, z11, z12, z13⟩ := hq
  have y0 : ∀ o, w5.frozen? ⟨w.heap.size, o, none⟩ = false := by intro o; go_simp
  have y1 : ∀ o, w5.frozen? ⟨w.heap.size + 1, o, none⟩ = false := by intro o; go_simp
  clear C1 C2 F1 F2 hc hk_w5_0 hk_w5_1 hf_w5_0 hf_w5_1 hk_w4_0 hk_w4_1 hf_w4_0 hf_w4_1 hk_w2_0 hk_w2_1 hf_w2_0 hf_w2_1 hk_w1_0 hk_w1_1 hf_w1_0 hf_w1_1 hf0 hf1
  go_wp2_with fail
  go_still_tail 6, (by kernel_rfl)
  change wpList _ _ _ _ _ w5.drew
  go_upto_region 6 with (fail)
  refine wp_world (fun W => Below w.heap.size w5 W ∧ W.cell? ⟨w.heap.size, 0, none⟩ = some (.int .i64 k') ∧ W.cell? ⟨w.heap.size, 1, none⟩ = some (.int .i64 dx) ∧ W.cell? ⟨w.heap.size, 2, none⟩ = some (.int .i64 dy) ∧ W.cell? ⟨w.heap.size, 3, none⟩ = some (.int .i64 ex) ∧ W.cell? ⟨w.heap.size, 4, none⟩ = some (.int .i64 ey) ∧ W.cell? ⟨w.heap.size, 5, none⟩ = some (.int .i64 fx) ∧ W.cell? ⟨w.heap.size, 6, none⟩ = some (.int .i64 fy) ∧ W.cell? ⟨w.heap.size + 1, 0, none⟩ = some (.int .i64 k) ∧ W.cell? ⟨w.heap.size + 1, 1, none⟩ = some (.int .i64 ax) ∧ W.cell? ⟨w.heap.size + 1, 2, none⟩ = some (.int .i64 ay) ∧ W.cell? ⟨w.heap.size + 1, 3, none⟩ = some (.int .i64 bx) ∧ W.cell? ⟨w.heap.size + 1, 4, none⟩ = some (.int .i64 by') ∧ W.cell? ⟨w.heap.size + 1, 5, none⟩ = some (.int .i64 cx) ∧ W.cell? ⟨w.heap.size + 1, 6, none⟩ = some (.int .i64 cy) ) ?_ ?_
  · refine ⟨?_, ?_⟩
    · refine Below.drew ?_
      iterate 14 refine Below.setCell ?_ (by first | exact Nat.le_refl _ | exact Nat.le_succ _) _
      exact Below.refl _ _
    · go_simp
  clear z0 z1 z2 z3 z4 z5 z6 z7 z8 z9 z10 z11 z12 z13
  rintro W7 ⟨hx7, z0, z1, z2, z3, z4, z5, z6, z7, z8, z9, z10, z11, z12, z13⟩
  have hs7 := hx7.size
  have hl7 : w.heap.size < W7.heap.size := by omega
  have hm7 : w.heap.size + 1 < W7.heap.size := by omega
  replace hx7 : Ext w W7 := hx5.trans hx7
  go_wp2_with fail
  refine (BL.out _).mono ?_
  rintro e w6 ⟨rfl, hx⟩
  have hx6 : Ext w w6 := Ext.step bxx hx
  go_wp2
  go_ret
  exact ⟨rfl, hx6⟩
--@@SWAP: printed from the theorem above
set_option maxRecDepth 100000 in
set_option maxHeartbeats 4000000 in
theorem Count_line_point (k ax ay bx by' cx cy k' dx dy ex ey fx fy px py f1 f2 f3 f4 : Int) (res : Bool) (w : World)
    (C1 : ∀ w : World, Calls Tryz.prog 17 #[.agg #[.int .i64 k, .int .i64 ax, .int .i64 ay, .int .i64 bx, .int .i64 by', .int .i64 cx, .int .i64 cy]] w fun e w' => e = .returned (.int .i64 0) ∧ Ext w w')
    (C2 : ∀ w : World, Calls Tryz.prog 17 #[.agg #[.int .i64 k', .int .i64 dx, .int .i64 dy, .int .i64 ex, .int .i64 ey, .int .i64 fx, .int .i64 fy]] w fun e w' => e = .returned (.int .i64 0) ∧ Ext w w')
    (F1 : ∀ w : World, Calls Tryz.prog 18 #[.agg #[.int .i64 k, .int .i64 ax, .int .i64 ay, .int .i64 bx, .int .i64 by', .int .i64 cx, .int .i64 cy]] w fun e w' => e = .returned (.iface 58 (.agg #[.int .i64 f1, .int .i64 f2, .int .i64 f3, .int .i64 f4])) ∧ Ext w w')
    (F2 : ∀ w : World, Calls Tryz.prog 18 #[.agg #[.int .i64 k', .int .i64 dx, .int .i64 dy, .int .i64 ex, .int .i64 ey, .int .i64 fx, .int .i64 fy]] w fun e w' => e = .returned (.iface 55 (.agg #[.int .i64 px, .int .i64 py])) ∧ Ext w w')
    (BL : ∀ w : World, Calls Tryz.prog 19 #[.agg #[.int .i64 k, .int .i64 ax, .int .i64 ay, .int .i64 bx, .int .i64 by', .int .i64 cx, .int .i64 cy], .agg #[.int .i64 px, .int .i64 py]] w fun e w' => e = .returned (.bool res) ∧ Ext w w') :
    Calls Tryz.prog 8 #[.agg #[.int .i64 k, .int .i64 ax, .int .i64 ay, .int .i64 bx, .int .i64 by', .int .i64 cx, .int .i64 cy], .agg #[.int .i64 k', .int .i64 dx, .int .i64 dy, .int .i64 ex, .int .i64 ey, .int .i64 fx, .int .i64 fy]] w fun e w' => e = .returned (.int .i64 (if res then 1 else 0)) ∧ Ext w w' := by
  replace C1 := Lib.hid C1
  replace C2 := Lib.hid C2
  replace F1 := Lib.hid F1
  replace F2 := Lib.hid F2
  replace BL := Lib.hid BL
  have a1 := as_point_point
  go_enter Tryz.func8, Tryz.ntmps8
  go_wp2_with fail
  refine (C1.out _).mono ?_
  rintro e w1 ⟨rfl, hx⟩
  have hx0 : Ext w w1 := Ext.step bxx hx
  have hs0 := hx0.size
  have hz_w1 : w.heap.size + 2 ≤ w1.heap.size := Nat.le_trans omm hx.size
  obtain ⟨hl_w1_0, hk_w1_0, hf_w1_0⟩ := extK hx (w.heap.size)
  obtain ⟨hl_w1_1, hk_w1_1, hf_w1_1⟩ := extK hx (w.heap.size + 1)
  clear hx
  go_wp2_with fail
  refine (C2.out _).mono ?_
  rintro e w2 ⟨rfl, hx⟩
  have hx2 : Ext w w2 := Ext.step hx0 hx
  have hs2 := hx2.size
  have hz_w2 : w.heap.size + 2 ≤ w2.heap.size := Nat.le_trans omm hx.size
  obtain ⟨hl_w2_0, hk_w2_0, hf_w2_0⟩ := extK hx (w.heap.size)
  obtain ⟨hl_w2_1, hk_w2_1, hf_w2_1⟩ := extK hx (w.heap.size + 1)
  clear hx
  go_wp2_with fail
  refine wp_FS (fun W => W.cell? ⟨w.heap.size, 0, none⟩ = some (.int .i64 k) ∧ W.cell? ⟨w.heap.size, 1, none⟩ = some (.int .i64 ax) ∧ W.cell? ⟨w.heap.size, 2, none⟩ = some (.int .i64 ay) ∧ W.cell? ⟨w.heap.size, 3, none⟩ = some (.int .i64 bx) ∧ W.cell? ⟨w.heap.size, 4, none⟩ = some (.int .i64 by') ∧ W.cell? ⟨w.heap.size, 5, none⟩ = some (.int .i64 cx) ∧ W.cell? ⟨w.heap.size, 6, none⟩ = some (.int .i64 cy) ∧ W.cell? ⟨w.heap.size + 1, 0, none⟩ = some (.int .i64 k') ∧ W.cell? ⟨w.heap.size + 1, 1, none⟩ = some (.int .i64 dx) ∧ W.cell? ⟨w.heap.size + 1, 2, none⟩ = some (.int .i64 dy) ∧ W.cell? ⟨w.heap.size + 1, 3, none⟩ = some (.int .i64 ex) ∧ W.cell? ⟨w.heap.size + 1, 4, none⟩ = some (.int .i64 ey) ∧ W.cell? ⟨w.heap.size + 1, 5, none⟩ = some (.int .i64 fx) ∧ W.cell? ⟨w.heap.size + 1, 6, none⟩ = some (.int .i64 fy)) ?_
  repeat (first | refine F_s ?_ | refine F_r ?_)
  (refine F_call (v := .iface 58 (.agg #[.int .i64 f1, .int .i64 f2, .int .i64 f3, .int .i64 f4])) (by rfl) (by rfl) ?_ ?_; (· (intro W hW; (try dsimp only at hW); go_simp; refine (F1.out _).mono ?_; rintro e w' ⟨rfl, hx⟩; exact ⟨_, rfl, rfl, hx⟩))); refine F_put ?_
  repeat (first | refine F_s ?_ | refine F_r ?_)
  (refine F_call (v := .iface 55 (.agg #[.int .i64 px, .int .i64 py])) (by rfl) (by rfl) ?_ ?_; (· (intro W hW; (try dsimp only at hW); go_simp; refine (F2.out _).mono ?_; rintro e w' ⟨rfl, hx⟩; exact ⟨_, rfl, rfl, hx⟩))); refine F_put ?_
  repeat (first | refine F_s ?_ | refine F_r ?_)
  rintro W ⟨hx, hc⟩
  have hx3 : Ext w W := Ext.step hx2 hx
  have hs3 := hx.size
  have hf0 : ∀ o, W.frozen? ⟨w.heap.size, o, none⟩ = w2.frozen? ⟨w.heap.size, o, none⟩ := fun o => hx.frozen (p := ⟨w.heap.size, o, none⟩) (show w.heap.size < w2.heap.size by omega)
  have hf1 : ∀ o, W.frozen? ⟨w.heap.size + 1, o, none⟩ = w2.frozen? ⟨w.heap.size + 1, o, none⟩ := fun o => hx.frozen (p := ⟨w.heap.size + 1, o, none⟩) (show w.heap.size + 1 < w2.heap.size by omega)
  clear hx
  (try dsimp only at hc)
  go_wp2_with fail
  refine (kind_line _ _ _ _ _).mono ?_
  rintro e w4 ⟨rfl, hx⟩
  have hx4 : Ext w w4 := Ext.step hx3 hx
  have hs4 := hx.size
  have hz_w4 : w.heap.size + 2 ≤ w4.heap.size := Nat.le_trans omm hx.size
  obtain ⟨hl_w4_0, hk_w4_0, hf_w4_0⟩ := extK hx (w.heap.size)
  obtain ⟨hl_w4_1, hk_w4_1, hf_w4_1⟩ := extK hx (w.heap.size + 1)
  clear hx
  go_wp2_with fail
  refine (kind_point _ _ _).mono ?_
  rintro e w5 ⟨rfl, hx⟩
  have hx5 : Ext w w5 := Ext.step hx4 hx
  have hs5 := hx5.size
  have hz_w5 : w.heap.size + 2 ≤ w5.heap.size := Nat.le_trans omm hx.size
  obtain ⟨hl_w5_0, hk_w5_0, hf_w5_0⟩ := extK hx (w.heap.size)
  obtain ⟨hl_w5_1, hk_w5_1, hf_w5_1⟩ := extK hx (w.heap.size + 1)
  clear hx
  have hq : (fun W => (W.cell? ⟨w.heap.size, 0, none⟩ = some (.int .i64 k) ∧ W.cell? ⟨w.heap.size, 1, none⟩ = some (.int .i64 ax) ∧ W.cell? ⟨w.heap.size, 2, none⟩ = some (.int .i64 ay) ∧ W.cell? ⟨w.heap.size, 3, none⟩ = some (.int .i64 bx) ∧ W.cell? ⟨w.heap.size, 4, none⟩ = some (.int .i64 by') ∧ W.cell? ⟨w.heap.size, 5, none⟩ = some (.int .i64 cx) ∧ W.cell? ⟨w.heap.size, 6, none⟩ = some (.int .i64 cy) ∧ W.cell? ⟨w.heap.size + 1, 0, none⟩ = some (.int .i64 k') ∧ W.cell? ⟨w.heap.size + 1, 1, none⟩ = some (.int .i64 dx) ∧ W.cell? ⟨w.heap.size + 1, 2, none⟩ = some (.int .i64 dy) ∧ W.cell? ⟨w.heap.size + 1, 3, none⟩ = some (.int .i64 ex) ∧ W.cell? ⟨w.heap.size + 1, 4, none⟩ = some (.int .i64 ey) ∧ W.cell? ⟨w.heap.size + 1, 5, none⟩ = some (.int .i64 fx) ∧ W.cell? ⟨w.heap.size + 1, 6, none⟩ = some (.int .i64 fy) )) w5 := by
    (try dsimp only)
    go_simp
  obtain ⟨z0, z1, z2, z3, z4, z5, z6, z7, z8, z9, z10, z11, z12, z13⟩ := hq
  have y0 : ∀ o, w5.frozen? ⟨w.heap.size, o, none⟩ = false := by intro o; go_simp
  have y1 : ∀ o, w5.frozen? ⟨w.heap.size + 1, o, none⟩ = false := by intro o; go_simp
  clear C1 C2 F1 F2 hc hk_w5_0 hk_w5_1 hf_w5_0 hf_w5_1 hk_w4_0 hk_w4_1 hf_w4_0 hf_w4_1 hk_w2_0 hk_w2_1 hf_w2_0 hf_w2_1 hk_w1_0 hk_w1_1 hf_w1_0 hf_w1_1 hf0 hf1
  go_wp2_with fail
  go_still_tail 6, (by kernel_rfl)
  change wpList _ _ _ _ _ w5.drew
  go_upto_region 6 with (fail)
  refine wp_world (fun W => Below w.heap.size w5 W ∧ W.cell? ⟨w.heap.size, 0, none⟩ = some (.int .i64 k') ∧ W.cell? ⟨w.heap.size, 1, none⟩ = some (.int .i64 dx) ∧ W.cell? ⟨w.heap.size, 2, none⟩ = some (.int .i64 dy) ∧ W.cell? ⟨w.heap.size, 3, none⟩ = some (.int .i64 ex) ∧ W.cell? ⟨w.heap.size, 4, none⟩ = some (.int .i64 ey) ∧ W.cell? ⟨w.heap.size, 5, none⟩ = some (.int .i64 fx) ∧ W.cell? ⟨w.heap.size, 6, none⟩ = some (.int .i64 fy) ∧ W.cell? ⟨w.heap.size + 1, 0, none⟩ = some (.int .i64 k) ∧ W.cell? ⟨w.heap.size + 1, 1, none⟩ = some (.int .i64 ax) ∧ W.cell? ⟨w.heap.size + 1, 2, none⟩ = some (.int .i64 ay) ∧ W.cell? ⟨w.heap.size + 1, 3, none⟩ = some (.int .i64 bx) ∧ W.cell? ⟨w.heap.size + 1, 4, none⟩ = some (.int .i64 by') ∧ W.cell? ⟨w.heap.size + 1, 5, none⟩ = some (.int .i64 cx) ∧ W.cell? ⟨w.heap.size + 1, 6, none⟩ = some (.int .i64 cy) ) ?_ ?_
  · refine ⟨?_, ?_⟩
    · refine Below.drew ?_
      iterate 14 refine Below.setCell ?_ (by first | exact Nat.le_refl _ | exact Nat.le_succ _) _
      exact Below.refl _ _
    · go_simp
  clear z0 z1 z2 z3 z4 z5 z6 z7 z8 z9 z10 z11 z12 z13
  rintro W7 ⟨hx7, z0, z1, z2, z3, z4, z5, z6, z7, z8, z9, z10, z11, z12, z13⟩
  have hs7 := hx7.size
  have hl7 : w.heap.size < W7.heap.size := by omega
  have hm7 : w.heap.size + 1 < W7.heap.size := by omega
  replace hx7 : Ext w W7 := hx5.trans hx7
  go_wp2_with fail
  refine (BL.out _).mono ?_
  rintro e w6 ⟨rfl, hx⟩
  have hx6 : Ext w w6 := Ext.step bxx hx
  cases res with
  | true =>
    go_wp2
    go_ret
    exact ⟨rfl, hx6⟩
  | false =>
    go_wp2
    go_ret
    exact ⟨rfl, hx6⟩
set_option maxRecDepth 100000 in
set_option maxHeartbeats 4000000 in
theorem Count_arc_point (k ax ay bx by' cx cy k' dx dy ex ey fx fy px py f1 f2 f3 f4 f5 f6 f7 : Int) (res : Bool) (w : World)
    (C1 : ∀ w : World, Calls Tryz.prog 17 #[.agg #[.int .i64 k, .int .i64 ax, .int .i64 ay, .int .i64 bx, .int .i64 by', .int .i64 cx, .int .i64 cy]] w fun e w' => e = .returned (.int .i64 0) ∧ Ext w w')
    (C2 : ∀ w : World, Calls Tryz.prog 17 #[.agg #[.int .i64 k', .int .i64 dx, .int .i64 dy, .int .i64 ex, .int .i64 ey, .int .i64 fx, .int .i64 fy]] w fun e w' => e = .returned (.int .i64 0) ∧ Ext w w')
    (F1 : ∀ w : World, Calls Tryz.prog 18 #[.agg #[.int .i64 k, .int .i64 ax, .int .i64 ay, .int .i64 bx, .int .i64 by', .int .i64 cx, .int .i64 cy]] w fun e w' => e = .returned (.iface 62 (.agg #[.int .i64 f1, .int .i64 f2, .int .i64 f3, .int .i64 f4, .int .i64 f5, .int .i64 f6, .int .i64 f7])) ∧ Ext w w')
    (F2 : ∀ w : World, Calls Tryz.prog 18 #[.agg #[.int .i64 k', .int .i64 dx, .int .i64 dy, .int .i64 ex, .int .i64 ey, .int .i64 fx, .int .i64 fy]] w fun e w' => e = .returned (.iface 55 (.agg #[.int .i64 px, .int .i64 py])) ∧ Ext w w')
    (BL : ∀ w : World, Calls Tryz.prog 19 #[.agg #[.int .i64 k, .int .i64 ax, .int .i64 ay, .int .i64 bx, .int .i64 by', .int .i64 cx, .int .i64 cy], .agg #[.int .i64 px, .int .i64 py]] w fun e w' => e = .returned (.bool res) ∧ Ext w w') :
    Calls Tryz.prog 8 #[.agg #[.int .i64 k, .int .i64 ax, .int .i64 ay, .int .i64 bx, .int .i64 by', .int .i64 cx, .int .i64 cy], .agg #[.int .i64 k', .int .i64 dx, .int .i64 dy, .int .i64 ex, .int .i64 ey, .int .i64 fx, .int .i64 fy]] w fun e w' => e = .returned (.int .i64 (if res then 1 else 0)) ∧ Ext w w' := by
  replace C1 := Lib.hid C1
  replace C2 := Lib.hid C2
  replace F1 := Lib.hid F1
  replace F2 := Lib.hid F2
  replace BL := Lib.hid BL
  have a1 := as_point_point
  go_enter Tryz.func8, Tryz.ntmps8
  go_wp2_with fail
  refine (C1.out _).mono ?_
  rintro e w1 ⟨rfl, hx⟩
  have hx0 : Ext w w1 := Ext.step bxx hx
  have hs0 := hx0.size
  have hz_w1 : w.heap.size + 2 ≤ w1.heap.size := Nat.le_trans omm hx.size
  obtain ⟨hl_w1_0, hk_w1_0, hf_w1_0⟩ := extK hx (w.heap.size)
  obtain ⟨hl_w1_1, hk_w1_1, hf_w1_1⟩ := extK hx (w.heap.size + 1)
  clear hx
  go_wp2_with fail
  refine (C2.out _).mono ?_
  rintro e w2 ⟨rfl, hx⟩
  have hx2 : Ext w w2 := Ext.step hx0 hx
  have hs2 := hx2.size
  have hz_w2 : w.heap.size + 2 ≤ w2.heap.size := Nat.le_trans omm hx.size
  obtain ⟨hl_w2_0, hk_w2_0, hf_w2_0⟩ := extK hx (w.heap.size)
  obtain ⟨hl_w2_1, hk_w2_1, hf_w2_1⟩ := extK hx (w.heap.size + 1)
  clear hx
  go_wp2_with fail
  refine wp_FS (fun W => W.cell? ⟨w.heap.size, 0, none⟩ = some (.int .i64 k) ∧ W.cell? ⟨w.heap.size, 1, none⟩ = some (.int .i64 ax) ∧ W.cell? ⟨w.heap.size, 2, none⟩ = some (.int .i64 ay) ∧ W.cell? ⟨w.heap.size, 3, none⟩ = some (.int .i64 bx) ∧ W.cell? ⟨w.heap.size, 4, none⟩ = some (.int .i64 by') ∧ W.cell? ⟨w.heap.size, 5, none⟩ = some (.int .i64 cx) ∧ W.cell? ⟨w.heap.size, 6, none⟩ = some (.int .i64 cy) ∧ W.cell? ⟨w.heap.size + 1, 0, none⟩ = some (.int .i64 k') ∧ W.cell? ⟨w.heap.size + 1, 1, none⟩ = some (.int .i64 dx) ∧ W.cell? ⟨w.heap.size + 1, 2, none⟩ = some (.int .i64 dy) ∧ W.cell? ⟨w.heap.size + 1, 3, none⟩ = some (.int .i64 ex) ∧ W.cell? ⟨w.heap.size + 1, 4, none⟩ = some (.int .i64 ey) ∧ W.cell? ⟨w.heap.size + 1, 5, none⟩ = some (.int .i64 fx) ∧ W.cell? ⟨w.heap.size + 1, 6, none⟩ = some (.int .i64 fy)) ?_
  repeat (first | refine F_s ?_ | refine F_r ?_)
  (refine F_call (v := .iface 62 (.agg #[.int .i64 f1, .int .i64 f2, .int .i64 f3, .int .i64 f4, .int .i64 f5, .int .i64 f6, .int .i64 f7])) (by rfl) (by rfl) ?_ ?_; (· (intro W hW; (try dsimp only at hW); go_simp; refine (F1.out _).mono ?_; rintro e w' ⟨rfl, hx⟩; exact ⟨_, rfl, rfl, hx⟩))); refine F_put ?_
  repeat (first | refine F_s ?_ | refine F_r ?_)
  (refine F_call (v := .iface 55 (.agg #[.int .i64 px, .int .i64 py])) (by rfl) (by rfl) ?_ ?_; (· (intro W hW; (try dsimp only at hW); go_simp; refine (F2.out _).mono ?_; rintro e w' ⟨rfl, hx⟩; exact ⟨_, rfl, rfl, hx⟩))); refine F_put ?_
  repeat (first | refine F_s ?_ | refine F_r ?_)
  rintro W ⟨hx, hc⟩
  have hx3 : Ext w W := Ext.step hx2 hx
  have hs3 := hx.size
  have hf0 : ∀ o, W.frozen? ⟨w.heap.size, o, none⟩ = w2.frozen? ⟨w.heap.size, o, none⟩ := fun o => hx.frozen (p := ⟨w.heap.size, o, none⟩) (show w.heap.size < w2.heap.size by omega)
  have hf1 : ∀ o, W.frozen? ⟨w.heap.size + 1, o, none⟩ = w2.frozen? ⟨w.heap.size + 1, o, none⟩ := fun o => hx.frozen (p := ⟨w.heap.size + 1, o, none⟩) (show w.heap.size + 1 < w2.heap.size by omega)
  clear hx
  (try dsimp only at hc)
  go_wp2_with fail
  refine (kind_arc _ _ _ _ _ _ _ _).mono ?_
  rintro e w4 ⟨rfl, hx⟩
  have hx4 : Ext w w4 := Ext.step hx3 hx
  have hs4 := hx.size
  have hz_w4 : w.heap.size + 2 ≤ w4.heap.size := Nat.le_trans omm hx.size
  obtain ⟨hl_w4_0, hk_w4_0, hf_w4_0⟩ := extK hx (w.heap.size)
  obtain ⟨hl_w4_1, hk_w4_1, hf_w4_1⟩ := extK hx (w.heap.size + 1)
  clear hx
  go_wp2_with fail
  refine (kind_point _ _ _).mono ?_
  rintro e w5 ⟨rfl, hx⟩
  have hx5 : Ext w w5 := Ext.step hx4 hx
  have hs5 := hx5.size
  have hz_w5 : w.heap.size + 2 ≤ w5.heap.size := Nat.le_trans omm hx.size
  obtain ⟨hl_w5_0, hk_w5_0, hf_w5_0⟩ := extK hx (w.heap.size)
  obtain ⟨hl_w5_1, hk_w5_1, hf_w5_1⟩ := extK hx (w.heap.size + 1)
  clear hx
  have hq : (fun W => (W.cell? ⟨w.heap.size, 0, none⟩ = some (.int .i64 k) ∧ W.cell? ⟨w.heap.size, 1, none⟩ = some (.int .i64 ax) ∧ W.cell? ⟨w.heap.size, 2, none⟩ = some (.int .i64 ay) ∧ W.cell? ⟨w.heap.size, 3, none⟩ = some (.int .i64 bx) ∧ W.cell? ⟨w.heap.size, 4, none⟩ = some (.int .i64 by') ∧ W.cell? ⟨w.heap.size, 5, none⟩ = some (.int .i64 cx) ∧ W.cell? ⟨w.heap.size, 6, none⟩ = some (.int .i64 cy) ∧ W.cell? ⟨w.heap.size + 1, 0, none⟩ = some (.int .i64 k') ∧ W.cell? ⟨w.heap.size + 1, 1, none⟩ = some (.int .i64 dx) ∧ W.cell? ⟨w.heap.size + 1, 2, none⟩ = some (.int .i64 dy) ∧ W.cell? ⟨w.heap.size + 1, 3, none⟩ = some (.int .i64 ex) ∧ W.cell? ⟨w.heap.size + 1, 4, none⟩ = some (.int .i64 ey) ∧ W.cell? ⟨w.heap.size + 1, 5, none⟩ = some (.int .i64 fx) ∧ W.cell? ⟨w.heap.size + 1, 6, none⟩ = some (.int .i64 fy) )) w5 := by
    (try dsimp only)
    go_simp
  obtain ⟨z0, z1, z2, z3, z4, z5, z6, z7, z8, z9, z10, z11, z12, z13⟩ := hq
  have y0 : ∀ o, w5.frozen? ⟨w.heap.size, o, none⟩ = false := by intro o; go_simp
  have y1 : ∀ o, w5.frozen? ⟨w.heap.size + 1, o, none⟩ = false := by intro o; go_simp
  clear C1 C2 F1 F2 hc hk_w5_0 hk_w5_1 hf_w5_0 hf_w5_1 hk_w4_0 hk_w4_1 hf_w4_0 hf_w4_1 hk_w2_0 hk_w2_1 hf_w2_0 hf_w2_1 hk_w1_0 hk_w1_1 hf_w1_0 hf_w1_1 hf0 hf1
  go_wp2_with fail
  go_still_tail 6, (by kernel_rfl)
  change wpList _ _ _ _ _ w5.drew
  go_upto_region 6 with (fail)
  refine wp_world (fun W => Below w.heap.size w5 W ∧ W.cell? ⟨w.heap.size, 0, none⟩ = some (.int .i64 k') ∧ W.cell? ⟨w.heap.size, 1, none⟩ = some (.int .i64 dx) ∧ W.cell? ⟨w.heap.size, 2, none⟩ = some (.int .i64 dy) ∧ W.cell? ⟨w.heap.size, 3, none⟩ = some (.int .i64 ex) ∧ W.cell? ⟨w.heap.size, 4, none⟩ = some (.int .i64 ey) ∧ W.cell? ⟨w.heap.size, 5, none⟩ = some (.int .i64 fx) ∧ W.cell? ⟨w.heap.size, 6, none⟩ = some (.int .i64 fy) ∧ W.cell? ⟨w.heap.size + 1, 0, none⟩ = some (.int .i64 k) ∧ W.cell? ⟨w.heap.size + 1, 1, none⟩ = some (.int .i64 ax) ∧ W.cell? ⟨w.heap.size + 1, 2, none⟩ = some (.int .i64 ay) ∧ W.cell? ⟨w.heap.size + 1, 3, none⟩ = some (.int .i64 bx) ∧ W.cell? ⟨w.heap.size + 1, 4, none⟩ = some (.int .i64 by') ∧ W.cell? ⟨w.heap.size + 1, 5, none⟩ = some (.int .i64 cx) ∧ W.cell? ⟨w.heap.size + 1, 6, none⟩ = some (.int .i64 cy) ) ?_ ?_
  · refine ⟨?_, ?_⟩
    · refine Below.drew ?_
      iterate 14 refine Below.setCell ?_ (by first | exact Nat.le_refl _ | exact Nat.le_succ _) _
      exact Below.refl _ _
    · go_simp
  clear z0 z1 z2 z3 z4 z5 z6 z7 z8 z9 z10 z11 z12 z13
  rintro W7 ⟨hx7, z0, z1, z2, z3, z4, z5, z6, z7, z8, z9, z10, z11, z12, z13⟩
  have hs7 := hx7.size
  have hl7 : w.heap.size < W7.heap.size := by omega
  have hm7 : w.heap.size + 1 < W7.heap.size := by omega
  replace hx7 : Ext w W7 := hx5.trans hx7
  go_wp2_with fail
  refine (BL.out _).mono ?_
  rintro e w6 ⟨rfl, hx⟩
  have hx6 : Ext w w6 := Ext.step bxx hx
  cases res with
  | true =>
    go_wp2
    go_ret
    exact ⟨rfl, hx6⟩
  | false =>
    go_wp2
    go_ret
    exact ⟨rfl, hx6⟩
end Go.Proofs.YtmmhiiiaccldmaaGreat

namespace Go.Proofs.YtmmhiiiaccldmaaGreat
open Go.RowKit
attribute [local go_sem] Gives givesU

set_option maxRecDepth 100000 in
set_option maxHeartbeats 4000000 in
theorem Count_lineArc (ax ay bx by' cx cy k dx dy ex ey fx fy : Int) (w : World) (h1 : (Ed.mk 1 ax ay bx by' cx cy).ok = true) (h2 : (Ed.mk k dx dy ex ey fx fy).ok = true) (n1 : ¬ (ax = bx ∧ ay = by')) (n2 : ¬ k = 1) (res : Int) (BL : ∀ w : World, Calls Tryz.prog 21 #[.agg #[.int .i64 ax, .int .i64 ay, .int .i64 bx, .int .i64 by'], .agg #[.int .i64 fx, .int .i64 fy, .int .i64 (radZ (Ed.mk k dx dy ex ey fx fy)), .int .i64 ((dx - fx).tdiv (radZ (Ed.mk k dx dy ex ey fx fy))), .int .i64 ((dy - fy).tdiv (radZ (Ed.mk k dx dy ex ey fx fy))), .int .i64 ((ex - fx).tdiv (radZ (Ed.mk k dx dy ex ey fx fy))), .int .i64 ((ey - fy).tdiv (radZ (Ed.mk k dx dy ex ey fx fy)))]] w fun e w' => e = .returned (.int .i64 res) ∧ Ext w w') :
    Calls Tryz.prog 8 #[.agg #[.int .i64 1, .int .i64 ax, .int .i64 ay, .int .i64 bx, .int .i64 by', .int .i64 cx, .int .i64 cy], .agg #[.int .i64 k, .int .i64 dx, .int .i64 dy, .int .i64 ex, .int .i64 ey, .int .i64 fx, .int .i64 fy]] w fun e w' => e = .returned (.int .i64 res) ∧ Ext w w' := by
  have BL := Lib.hid BL
  have C1 := Lib.hid (fun w => edge_Check_ok 1 ax ay bx by' cx cy w h1)
  have C2 := Lib.hid (fun w => edge_Check_ok k dx dy ex ey fx fy w h2)
  have F1 := Lib.hid (fun w => figured_line ax ay bx by' cx cy w n1)
  have F2 := Lib.hid (fun w => figured_arc k dx dy ex ey fx fy w h2 n2)
  clear h1 h2 n1 n2
  obtain ⟨rad, RAD⟩ : ∃ z, Hid (radZ (Ed.mk k dx dy ex ey fx fy) = z) := ⟨_, rfl⟩
  rw [RAD.out] at BL F2
  clear RAD
  have a3 := as_arc_line
  have a4 := as_arc_arc
  have a1 := as_line_point
  have a2 := as_line_line
  go_enter Tryz.func8, Tryz.ntmps8
  go_wp2_with fail
  refine (C1.out _).mono ?_
  rintro e w1 ⟨rfl, hx⟩
  have hx0 : Ext w w1 := Ext.step bxx hx
  have hs0 := hx0.size
  have hz_w1 : w.heap.size + 2 ≤ w1.heap.size := Nat.le_trans omm hx.size
  obtain ⟨hl_w1_0, hk_w1_0, hf_w1_0⟩ := extK hx (w.heap.size)
  obtain ⟨hl_w1_1, hk_w1_1, hf_w1_1⟩ := extK hx (w.heap.size + 1)
  clear hx
  go_wp2_with fail
  refine (C2.out _).mono ?_
  rintro e w2 ⟨rfl, hx⟩
  have hx2 : Ext w w2 := Ext.step hx0 hx
  have hs2 := hx2.size
  have hz_w2 : w.heap.size + 2 ≤ w2.heap.size := Nat.le_trans omm hx.size
  obtain ⟨hl_w2_0, hk_w2_0, hf_w2_0⟩ := extK hx (w.heap.size)
  obtain ⟨hl_w2_1, hk_w2_1, hf_w2_1⟩ := extK hx (w.heap.size + 1)
  clear hx
  go_wp2_with fail
  refine wp_FS (fun W => W.cell? ⟨w.heap.size, 0, none⟩ = some (.int .i64 1) ∧ W.cell? ⟨w.heap.size, 1, none⟩ = some (.int .i64 ax) ∧ W.cell? ⟨w.heap.size, 2, none⟩ = some (.int .i64 ay) ∧ W.cell? ⟨w.heap.size, 3, none⟩ = some (.int .i64 bx) ∧ W.cell? ⟨w.heap.size, 4, none⟩ = some (.int .i64 by') ∧ W.cell? ⟨w.heap.size, 5, none⟩ = some (.int .i64 cx) ∧ W.cell? ⟨w.heap.size, 6, none⟩ = some (.int .i64 cy) ∧ W.cell? ⟨w.heap.size + 1, 0, none⟩ = some (.int .i64 k) ∧ W.cell? ⟨w.heap.size + 1, 1, none⟩ = some (.int .i64 dx) ∧ W.cell? ⟨w.heap.size + 1, 2, none⟩ = some (.int .i64 dy) ∧ W.cell? ⟨w.heap.size + 1, 3, none⟩ = some (.int .i64 ex) ∧ W.cell? ⟨w.heap.size + 1, 4, none⟩ = some (.int .i64 ey) ∧ W.cell? ⟨w.heap.size + 1, 5, none⟩ = some (.int .i64 fx) ∧ W.cell? ⟨w.heap.size + 1, 6, none⟩ = some (.int .i64 fy)) ?_
  repeat (first | refine F_s ?_ | refine F_r ?_)
  (refine F_call (v := .iface 58 (.agg #[.int .i64 ax, .int .i64 ay, .int .i64 bx, .int .i64 by'])) (by rfl) (by rfl) ?_ ?_; (· (intro W hW; (try dsimp only at hW); go_simp; refine (F1.out _).mono ?_; rintro e w' ⟨rfl, hx⟩; exact ⟨_, rfl, rfl, hx⟩))); refine F_put ?_
  repeat (first | refine F_s ?_ | refine F_r ?_)
  (refine F_call (v := .iface 62 (.agg #[.int .i64 fx, .int .i64 fy, .int .i64 rad, .int .i64 ((dx - fx).tdiv rad), .int .i64 ((dy - fy).tdiv rad), .int .i64 ((ex - fx).tdiv rad), .int .i64 ((ey - fy).tdiv rad)])) (by rfl) (by rfl) ?_ ?_; (· (intro W hW; (try dsimp only at hW); go_simp; refine (F2.out _).mono ?_; rintro e w' ⟨rfl, hx⟩; exact ⟨_, rfl, rfl, hx⟩))); refine F_put ?_
  repeat (first | refine F_s ?_ | refine F_r ?_)
  rintro W ⟨hx, hc⟩
  have hx3 : Ext w W := Ext.step hx2 hx
  clear hx hc
  go_wp2_with fail
  refine (kind_line ax ay bx by' _).mono ?_
  rintro e w4 ⟨rfl, hx⟩
  have hx4 : Ext w w4 := Ext.step hx3 hx
  clear hx
  go_wp2_with fail
  refine (kind_arc _ _ _ _ _ _ _ _).mono ?_
  rintro e w5 ⟨rfl, hx⟩
  have hx5 : Ext w w5 := Ext.step hx4 hx
  have hs5 := hx5.size
  clear hx
  go_wp2_with fail
  refine (BL.out _).mono ?_
  rintro e w6 ⟨rfl, hx⟩
  have hx6 : Ext w w6 := Ext.step bxx hx
  go_wp2
  go_ret
  exact ⟨rfl, hx6⟩
end Go.Proofs.YtmmhiiiaccldmaaGreat
