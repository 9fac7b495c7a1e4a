/- The walk of the law NumTexts. -/
import Derived.Test.YtdaaknfmodbjcaaDoorJ15
import Derived.Test.YtdaaknfmodbjcaaDoorJ08
import Derived.Deep.DeepCutAuto
import Derived.Laws.IdiomStrings
set_option linter.unusedVariables false
set_option linter.unusedSimpArgs false

namespace Go.Proofs.YtdaaknfmodbjcaaDoor
open Go.RowKit
open Go.Lib (decDigits decDigits_length nDigits)
attribute [local go_sem] Gives givesU

/-- The value is the number x and a bool, in new memory. -/
def IsT (w0 W : World) (r : Nm × Bool) (v : Value) (w' : World) : Prop := ∃ n p l c, v = .tuple #[.agg #[.bool n, .slice p l c], .bool r.2] ∧ NR w' n p l c r.1 ∧ New w0 p ∧ Ext W w'
theorem RetNum.isT {w0 W : World} {r : Nm × Bool} {e : Ending} {w' : World} (hz : w0.heap.size ≤ W.heap.size) (h : RetNum W r e w') : ∃ v, e = .returned v ∧ IsT w0 W r v w' := by
  obtain ⟨n, p, l, c, rfl, h1, h2, h3⟩ := h
  exact ⟨_, rfl, n, p, l, c, rfl, h1, h2.mono hz, h3⟩
def IsN1 (w0 W : World) (x : Nm) (v : Value) (w' : World) : Prop := ∃ n p l c, v = .agg #[.bool n, .slice p l c] ∧ NR w' n p l c x ∧ New w0 p ∧ Ext W w'
theorem RetN.isN1 {w0 W : World} {x : Nm} {e : Ending} {w' : World} (hz : w0.heap.size ≤ W.heap.size) (h : RetN W x e w') : ∃ v, e = .returned v ∧ IsN1 w0 W x v w' := by
  obtain ⟨n, p, l, c, rfl, h1, h2, h3⟩ := h
  exact ⟨_, rfl, n, p, l, c, rfl, h1, h2.mono hz, h3⟩
section
variable {P : Program} {ops : Array Oper} {S : World → Prop} {Q : Act → World → Prop} {o : Oper} {l : List Oper} {a : Act} {own : List Nat} {F : World → Prop}
/-- A call that gives a number and a bool. -/
theorem F_numT (w0 : World) (r : Nm × Bool) (hk : fkind o = 2) (hw : Region.wanted o (yielded ops a.tmps) = true)
    (hg : ∀ w, F w → Gives P o a w (IsT w0 w r))
    (h : ∀ n p l' c, New w0 p → WpF P ops S Q l (a.put o.dst (.tuple #[.agg #[.bool n, .slice p l' c], .bool r.2])) own (fun w => F w ∧ NR w n p l' c r.1)) : WpF P ops S Q (o :: l) a own F := by
  refine .eff hk hw (Bool × Option Addr × Nat × Nat) (fun t => .tuple #[.agg #[.bool t.1, .slice t.2.1 t.2.2.1 t.2.2.2], .bool r.2]) (fun t w => New w0 t.2.1 ∧ NR w t.1 t.2.1 t.2.2.1 t.2.2.2 r.1) (fun t w w' h hb => ⟨h.1, h.2.ext hb⟩) (fun w hf => ?_) ?_
  · refine (hg w hf).imp ?_
    rintro v w' ⟨n, p, l, c, rfl, h1, h2, h3⟩
    exact ⟨(n, p, l, c), rfl, h3, h2, h1⟩
  · rintro ⟨n, p, l', c⟩ ⟨w1, hf, hn, hr⟩
    have e : (fun w => F w ∧ New w0 p ∧ NR w n p l' c r.1) = (fun w => F w ∧ NR w n p l' c r.1) := by
      funext w; exact propext ⟨fun ⟨a, _, b⟩ => ⟨a, b⟩, fun ⟨a, b⟩ => ⟨a, hn, b⟩⟩
    have := h n p l' c hn
    rw [← e] at this
    exact this
theorem F_numA (w0 : World) (x : Nm) (hk : fkind o = 2) (hw : Region.wanted o (yielded ops a.tmps) = true)
    (hg : ∀ w, F w → Gives P o a w (IsN1 w0 w x))
    (h : ∀ n p l' c, New w0 p → WpF P ops S Q l (a.put o.dst (.agg #[.bool n, .slice p l' c])) own (fun w => F w ∧ NR w n p l' c x)) : WpF P ops S Q (o :: l) a own F :=
  F_callN w0 x hk hw hg h
end
theorem VB.heap {W : World} {g : Nat} {n : Bool} {p : Option Addr} {l c : Nat} {X : Nm} {T : TypeId} (hg : W.heap[g]? = some (.cells #[.bool n, .slice p l c] T)) (h : NR W n p l c X) : VB W g n p l c X := by
  obtain ⟨c0, c1, _, hlt⟩ := pt_block hg
  exact ⟨hlt, c0, c1, h⟩
theorem conv_byte (x : UInt8) (c : Nat) (hc : x.toNat = c) (b : Nat) (W : World) (h : W.cell? ⟨b, 0, none⟩ = some (.int .u8 (c : Int))) : Sem.run Tryd.prog (convert 40 9 (.slice (some ⟨b, 0, none⟩) 1 1)) W = .ok (.string (bytesT [x])) W := by
  refine run_convert_bytes_back W 40 9 5 ⟨b, 0, none⟩ 1 [x] Tryd.underlying40 Tryd.underlying5 Tryd.underlying9 (fun j hj => ?_)
  simp only [List.length_cons, List.length_nil] at hj
  obtain rfl : j = 0 := by omega
  rw [add_none, h]
  subst hc
  rfl
theorem Ext.keepC {w w' : World} (hx : Ext w w') (a : Addr) (v : Value) (h : w.cell? a = some v) : w'.cell? a = some v := (hx.cell (p := a) (World.block_lt_of_cell? w _ h)).trans h
theorem wp_worldT {P : Program} {c : Code} {Q : Exit → Act → World → Prop} {a : Act} {w' : World} (R : World → Prop) (h : R w') (k : ∀ W, R W → Code.wp P c Q a W) : Code.wp P c Q a w' := k _ h
theorem textL_nat {n : Nat} (h : small (n : Int) = true) : textL (ofZ (n : Int)) = decDigits n := by
  unfold textL
  rw [ofZ_right h, if_pos rfl, if_neg (by simp [ofZ])]
  simp [ofZ, val_digs]
theorem textL_neg {n : Nat} (h : small (-(n : Int)) = true) (h0 : 0 < n) : textL (ofZ (-(n : Int))) = 45 :: decDigits n := by
  unfold textL
  rw [ofZ_right h, if_pos rfl, if_pos (by simp [ofZ]; omega)]
  simp [ofZ, val_digs]
theorem nDig_bd {n : Nat} (h : n < M6) : nDigits n ≤ 100 := by
  have h10 : ∀ (k n : Nat), n < 10 ^ (k + 1) → nDigits n ≤ k + 1 := by
    intro k
    induction k with
    | zero => intro n h; rw [Lib.nDigits_small (by simpa using h)]; exact Nat.le_refl _
    | succ k ih =>
      intro n h
      by_cases h' : n < 10
      · rw [Lib.nDigits_small h']; omega
      · rw [Lib.nDigits_big h']; have := ih (n / 10) (by rw [Nat.pow_succ] at h; omega); omega
  have := h10 99 n (Nat.lt_trans h (by decide +kernel))
  omega
theorem abs_right {X : Nm} (h : X.right = true) : (Nm.mk false X.d).right = true := by
  rw [Nm.right_iff] at h ⊢
  exact ⟨h.1, h.2.1, fun _ => rfl⟩
theorem abs_ofZ {X : Nm} (hd : Dig X.d) (h : X.right = true) : Nm.mk false X.d = ofZ (val X.d : Nat) := by
  have := ofZ_of_right (a := Nm.mk false X.d) hd (abs_right h)
  rw [← this]
  rfl

set_option maxRecDepth 100000 in
set_option maxHeartbeats 16000000 in
theorem Texts_core (p0 : Option Addr) (l0 c0 : Nat) (k0 : Nat) (w : World) (i0 : Ints w p0 l0 c0) (hk0 : k0 < 256) (ht : Tab w) :
    Calls Tryd.prog 6 #[.slice p0 l0 c0, .int .u8 (k0 : Int)] w fun e w' => e = .returned (.bool true) ∧ Ext w w' := by
  have TB := Lib.hid ht
  have Ia := Lib.hid i0
  obtain ⟨d, HD⟩ : ∃ d : Nat, ((k0 : Int).tmod 10) = (d : Int) := ⟨k0 % 10, tmod_nat k0 10⟩
  have hd : d < 10 := by rw [Int.tmod_eq_emod_of_nonneg (by omega)] at HD; omega
  clear ht i0
  go_enter Tryd.func6, Tryd.ntmps6
  go_wp2_with fail
  refine (law_sanity1 _ (TB.out.ext (by (repeat (first | exact Below.refl _ _ | assumption | refine Below.drewN ?_ _ | refine Below.drew ?_ | refine Below.setCell ?_ (by first | exact Nat.le_refl _ | (simp; done) | (simp; omega) | omega) _ | refine Below.alloc ?_ (by first | exact Nat.le_refl _ | (simp; done) | (simp; omega) | omega) _))))).mono ?_
  rintro e w1 ⟨rfl, hx1⟩
  have ex1 : Ext w w1 := Ext.step (by (repeat (first | exact Below.refl _ _ | assumption | refine Below.drewN ?_ _ | refine Below.drew ?_ | refine Below.setCell ?_ (by first | exact Nat.le_refl _ | (simp; done) | (simp; omega) | omega) _ | refine Below.alloc ?_ (by first | exact Nat.le_refl _ | (simp; done) | (simp; omega) | omega) _))) hx1
  go_wp2_with fail
  refine (r01_Made _ _ _ _ (Ia.out.ext (by (repeat (first | exact Below.refl _ _ | assumption | refine Below.drewN ?_ _ | refine Below.drew ?_ | refine Below.setCell ?_ (by first | exact Nat.le_refl _ | (simp; done) | (simp; omega) | omega) _ | refine Below.alloc ?_ (by first | exact Nat.le_refl _ | (simp; done) | (simp; omega) | omega) _))))).mono ?_
  rintro e w2 ⟨ga, pa, la, ca, X, rfl, na, rX, lX, hx2⟩
  have ex2 : Ext w w2 := Ext.step ex1 hx2
  go_upto_region 5 with (fail)
  have hX := abs_ofZ na.2.2.dig rX
  have hlen : la = X.d.length := na.2.1
  have hN : val X.d < M6 := by
    rw [M6_eq]
    exact Nat.lt_of_lt_of_le (val_lt na.2.2.dig) (Nat.pow_le_pow_right (by omega) lX)
  have hz : val X.d = 0 ↔ la = 0 := by
    rw [hlen]
    constructor
    · intro h
      rcases Nat.eq_zero_or_pos X.d.length with g | g
      · exact g
      · have := tight_pos (X.right_iff.1 rX).2.1 g; omega
    · intro h
      rw [List.eq_nil_of_length_eq_zero h]; rfl
  refine wp_worldT (fun W => Ext w W ∧ VB W w2.heap.size false pa la ca (ofZ (val X.d : Nat))) ⟨ex2.alloc ex2.size _, by simp, by go_simp, by go_simp, ?_⟩ ?_
  · rw [← hX]
    have h3 : NR w2 false pa la ca (Nm.mk false X.d) := ⟨rfl, na.2.1, na.2.2⟩
    first
      | exact h3.alloc _
      | (refine h3.ext ?_; (repeat (first | exact Below.refl _ _ | assumption | refine Below.drewN ?_ _ | refine Below.drew ?_ | refine Below.setCell ?_ (by first | exact Nat.le_refl _ | (simp; done) | (simp; omega) | omega) _ | refine Below.alloc ?_ (by first | exact Nat.le_refl _ | (simp; done) | (simp; omega) | omega) _)))
  obtain ⟨B, HB⟩ : ∃ B, Hid (w2.heap.size = B) := ⟨_, rfl⟩
  obtain ⟨N, HN⟩ : ∃ N, Hid (val X.d = N) := ⟨_, rfl⟩
  rw [HB.out, HN.out]
  rw [HN.out] at hN hz
  clear na rX lX hlen hX hx1 hx2 ex1 ex2
  rintro V ⟨EX, vA⟩
  have hM : 100 * M6 < 4 * (M6 * M6) := by decide +kernel
  have s10 : small 10 = true := small_M (by omega)
  have sN : small (N : Int) = true := small_M (by omega)
  have sd : small (d : Int) = true := small_M (by omega)
  have sT : small ((N : Int) * 10) = true := small_M (by omega)
  have sX : small ((N : Int) * 10 + (d : Int)) = true := small_M (by omega)
  have sM : small (0 - (N : Int)) = true := small_M (by omega)
  have s0 : small 0 = true := small_M (by omega)
  have R1 := Lib.hid (mulP_of sN s10 sT)
  have R2 := Lib.hid (addP_of sT sd sX)
  have R3 := Lib.hid (subP_of s0 sN sM)
  have T1 := Lib.hid (textL_nat sN)
  have T2 := Lib.hid (show textL (ofZ ((N : Int) * 10 + (d : Int))) = decDigits (10 * N + d) by
    rw [show (N : Int) * 10 + (d : Int) = ((10 * N + d : Nat) : Int) by omega] at sX ⊢; exact textL_nat sX)
  have T3 := Lib.hid (fun (h0 : 0 < N) => show textL (ofZ (0 - (N : Int))) = 45 :: decDigits N by
    rw [show 0 - (N : Int) = -(N : Int) by omega] at sM ⊢; exact textL_neg sM h0)
  clear s10 sN sd sT sX sM s0 hM
  obtain ⟨z1, Z1⟩ : ∃ z, Hid ((N : Int) * 10 = z) := ⟨_, rfl⟩
  rw [Z1.out] at R1 R2 T2
  obtain ⟨z2, Z2⟩ : ∃ z, Hid (z1 + (d : Int) = z) := ⟨_, rfl⟩
  rw [Z2.out] at R2 T2
  obtain ⟨z3, Z3⟩ : ∃ z, Hid (0 - (N : Int) = z) := ⟨_, rfl⟩
  rw [Z3.out] at R3 T3
  have VA := Lib.hid vA
  obtain ⟨qA1, qA2, qA3, qA4⟩ := vA
  have QA := Lib.hid qA4
  clear qA4
  have hKeep : FKeep (V.heap.size) (fun W => Ext V W ∧ V.heap.size ≤ W.heap.size ∧ W.cell? ⟨B, 0, none⟩ = some (.bool false) ∧ W.cell? ⟨B, 1, none⟩ = some (.slice pa la ca)) := (by intro W W' h hb; obtain ⟨hx, hz, hc⟩ := h; have hbc : ∀ b o, b < _ → W'.cell? ⟨b, o, none⟩ = W.cell? ⟨b, o, none⟩ := fun b o h => hb.cell (p := ⟨b, o, none⟩) h; refine ⟨hx.trans (hb.mono (by omega)), Nat.le_trans hz hb.size, ?_⟩; (try dsimp only at hc ⊢); simp (disch := omega) only [hbc]; exact hc)
  first | refine wp_region_K (V.heap.size) (fun W => Ext V W ∧ V.heap.size ≤ W.heap.size ∧ W.cell? ⟨B, 0, none⟩ = some (.bool false) ∧ W.cell? ⟨B, 1, none⟩ = some (.slice pa la ca)) (by kernel_rfl) (by kernel_rfl) ?_ hKeep (fun _ h => h.2.1) ?_ | refine wp_region_Ks (V.heap.size) (fun W => Ext V W ∧ V.heap.size ≤ W.heap.size ∧ W.cell? ⟨B, 0, none⟩ = some (.bool false) ∧ W.cell? ⟨B, 1, none⟩ = some (.slice pa la ca)) ?_ hKeep (fun _ h => h.2.1) ?_
  · refine ⟨by (repeat (first | exact Below.refl _ _ | assumption | refine Below.drewN ?_ _ | refine Below.drew ?_ | refine Below.setCell ?_ (by first | exact Nat.le_refl _ | (simp; done) | (simp; omega) | omega) _ | refine Below.alloc ?_ (by first | exact Nat.le_refl _ | (simp; done) | (simp; omega) | omega) _)), by first | omega | (simp; done) | (simp; omega), ?_⟩
    go_simp
  repeat (first | (refine F_skip (by rfl) ?_; simp only [Act.put, List.setIfInBounds_toArray, List.set_cons_zero, List.set_cons_succ]) | (refine F_run (v := ?_) (by rfl) ?_ ?_; rotate_left; (· (intro W hW; (try dsimp only at hW); go_simp; try with_reducible rfl)); simp only [Act.put, List.setIfInBounds_toArray, List.set_cons_zero, List.set_cons_succ]))
  refine F_numA V (ofZ 10) (by rfl) (by rfl) (by intro W hW; (try dsimp only at hW); have hwW : V.heap.size ≤ W.heap.size := hW.2.1; go_simp; exact (num_Of 10 _ (by decide) (by decide)).mono fun _ _ h => RetN.isN1 hwW h) ?_
  intro n1 p1 l1 c1 hn1
  simp only [Act.put, List.setIfInBounds_toArray, List.set_cons_zero, List.set_cons_succ]
  repeat (first | (refine F_skip (by rfl) ?_; simp only [Act.put, List.setIfInBounds_toArray, List.set_cons_zero, List.set_cons_succ]) | (refine F_run (v := ?_) (by rfl) ?_ ?_; rotate_left; (· (intro W hW; (try dsimp only at hW); go_simp; try with_reducible rfl)); simp only [Act.put, List.setIfInBounds_toArray, List.set_cons_zero, List.set_cons_succ]))
  refine F_numT V (ofZ z1, true) (by rfl) (by rfl) (by intro W hW; (try dsimp only at hW); have hwW : V.heap.size ≤ W.heap.size := hW.1.2.1; go_simp; exact (ret_num (num_Mul _ _ _ _ _ _ _ _ _ _ _ (QA.out.ext hW.1.1) hW.2) R1.out).mono fun _ _ h => RetNum.isT hwW h) ?_
  intro n2 p2 l2 c2 hn2
  simp only [Act.put, List.setIfInBounds_toArray, List.set_cons_zero, List.set_cons_succ]
  repeat (first | (refine F_skip (by rfl) ?_; simp only [Act.put, List.setIfInBounds_toArray, List.set_cons_zero, List.set_cons_succ]) | (refine F_run (v := ?_) (by rfl) ?_ ?_; rotate_left; (· (intro W hW; (try dsimp only at hW); go_simp; try with_reducible rfl)); simp only [Act.put, List.setIfInBounds_toArray, List.set_cons_zero, List.set_cons_succ]))
  refine F_alloc (.cells #[.bool false, .slice none 0 0] 26) (by rfl) (by rfl) (by intro W hW; go_simp) ?_
  intro g hg
  simp only [List.mem_cons, List.mem_range, not_or, Nat.not_lt] at hg
  simp only [Act.put, List.setIfInBounds_toArray, List.set_cons_zero, List.set_cons_succ]
  repeat (first | (refine F_skip (by rfl) ?_; simp only [Act.put, List.setIfInBounds_toArray, List.set_cons_zero, List.set_cons_succ]) | (refine F_run (v := ?_) (by rfl) ?_ ?_; rotate_left; (· (intro W hW; (try dsimp only at hW); go_simp; try with_reducible rfl)); simp only [Act.put, List.setIfInBounds_toArray, List.set_cons_zero, List.set_cons_succ]))
  refine F_store2 (fun W => ((Ext V W ∧ V.heap.size ≤ W.heap.size ∧ W.cell? ⟨B, 0, none⟩ = some (.bool false) ∧ W.cell? ⟨B, 1, none⟩ = some (.slice pa la ca)) ∧ NR W n1 p1 l1 c1 (ofZ 10)) ∧ NR W n2 p2 l2 c2 (ofZ z1, true).1) g (.bool false) (.slice none 0 0) (.bool n2) (.slice p2 l2 c2) 26 (by rfl) (by rfl) (by intro W c0 c1 cf; go_simp) (fun W hW => hW) ?_ ?_ ?_ ?_
  · repeat (first | exact hRKS | exact RK.keep hKeep (by assumption) | exact RK.obj (by assumption) | exact RK.nr (by intro z h; cases h) (by intro z h; cases h) | refine RK.and ?_ ?_)
  · repeat (first | exact hSM | exact hKeep.mono (fun _ h => h.2.1) | exact fmono_obj _ _ | exact fmono_nr _ _ _ _ _ | refine FMono.and ?_ ?_)
  · (intro W h; first | exact h | exact h.1 | exact h.1.1 | exact h.1.1.1 | exact h.1.1.1.1)
  simp only [Act.put, List.setIfInBounds_toArray, List.set_cons_zero, List.set_cons_succ]
  repeat (first | (refine F_skip (by rfl) ?_; simp only [Act.put, List.setIfInBounds_toArray, List.set_cons_zero, List.set_cons_succ]) | (refine F_run (v := ?_) (by rfl) ?_ ?_; rotate_left; (· (intro W hW; (try dsimp only at hW); go_simp; try with_reducible rfl)); simp only [Act.put, List.setIfInBounds_toArray, List.set_cons_zero, List.set_cons_succ]))
  rintro V6 ⟨⟨⟨⟨hS, _⟩, hn2'⟩, hg⟩, hlt⟩
  have VA6 := Lib.hid (VA.out.ext hS.1)
  have vT := VB.heap hg hn2'
  have EX6 : Ext w V6 := EX.trans (hS.1.mono EX.size)
  clear hS hn2' hg hlt hKeep VA QA qA1 qA2 qA3 hn1 hn2
  obtain ⟨qT1, qT2, qT3, qT4⟩ := id vT
  have QT := Lib.hid qT4
  have VT := Lib.hid vT
  clear qT4 vT
  go_upto_region 6 with (fail)
  have hKeep : FKeep (V6.heap.size) (fun W => Ext V6 W ∧ V6.heap.size ≤ W.heap.size ∧ W.cell? ⟨g, 0, none⟩ = some (.bool n2) ∧ W.cell? ⟨g, 1, none⟩ = some (.slice p2 l2 c2)) := (by intro W W' h hb; obtain ⟨hx, hz, hc⟩ := h; have hbc : ∀ b o, b < _ → W'.cell? ⟨b, o, none⟩ = W.cell? ⟨b, o, none⟩ := fun b o h => hb.cell (p := ⟨b, o, none⟩) h; refine ⟨hx.trans (hb.mono (by omega)), Nat.le_trans hz hb.size, ?_⟩; (try dsimp only at hc ⊢); simp (disch := omega) only [hbc]; exact hc)
  first | refine wp_region_K (V6.heap.size) (fun W => Ext V6 W ∧ V6.heap.size ≤ W.heap.size ∧ W.cell? ⟨g, 0, none⟩ = some (.bool n2) ∧ W.cell? ⟨g, 1, none⟩ = some (.slice p2 l2 c2)) (by kernel_rfl) (by kernel_rfl) ?_ hKeep (fun _ h => h.2.1) ?_ | refine wp_region_Ks (V6.heap.size) (fun W => Ext V6 W ∧ V6.heap.size ≤ W.heap.size ∧ W.cell? ⟨g, 0, none⟩ = some (.bool n2) ∧ W.cell? ⟨g, 1, none⟩ = some (.slice p2 l2 c2)) ?_ hKeep (fun _ h => h.2.1) ?_
  · refine ⟨by (repeat (first | exact Below.refl _ _ | assumption | refine Below.drewN ?_ _ | refine Below.drew ?_ | refine Below.setCell ?_ (by first | exact Nat.le_refl _ | (simp; done) | (simp; omega) | omega) _ | refine Below.alloc ?_ (by first | exact Nat.le_refl _ | (simp; done) | (simp; omega) | omega) _)), by first | omega | (simp; done) | (simp; omega), ?_⟩
    go_simp
  repeat (first | (refine F_skip (by rfl) ?_; simp only [Act.put, List.setIfInBounds_toArray, List.set_cons_zero, List.set_cons_succ]) | (refine F_run (v := ?_) (by rfl) ?_ ?_; rotate_left; (· (intro W hW; (try dsimp only at hW); go_simp; try with_reducible rfl)); simp only [Act.put, List.setIfInBounds_toArray, List.set_cons_zero, List.set_cons_succ]))
  refine F_numA V6 (ofZ (d : Int)) (by rfl) (by rfl) (by intro W hW; (try dsimp only at hW); have hwW : V6.heap.size ≤ W.heap.size := hW.2.1; go_simp; exact (num_Of (d : Int) _ (by omega) (by omega)).mono fun _ _ h => RetN.isN1 hwW h) ?_
  intro n3 p3 l3 c3 hn3
  simp only [Act.put, List.setIfInBounds_toArray, List.set_cons_zero, List.set_cons_succ]
  repeat (first | (refine F_skip (by rfl) ?_; simp only [Act.put, List.setIfInBounds_toArray, List.set_cons_zero, List.set_cons_succ]) | (refine F_run (v := ?_) (by rfl) ?_ ?_; rotate_left; (· (intro W hW; (try dsimp only at hW); go_simp; try with_reducible rfl)); simp only [Act.put, List.setIfInBounds_toArray, List.set_cons_zero, List.set_cons_succ]))
  refine F_numT V6 (ofZ z2, true) (by rfl) (by rfl) (by intro W hW; (try dsimp only at hW); have hwW : V6.heap.size ≤ W.heap.size := hW.1.2.1; go_simp; exact (ret_num (num_Add _ _ _ _ _ _ _ _ _ _ _ (QT.out.ext hW.1.1) hW.2) R2.out).mono fun _ _ h => RetNum.isT hwW h) ?_
  intro n4 p4 l4 c4 hn4
  simp only [Act.put, List.setIfInBounds_toArray, List.set_cons_zero, List.set_cons_succ]
  repeat (first | (refine F_skip (by rfl) ?_; simp only [Act.put, List.setIfInBounds_toArray, List.set_cons_zero, List.set_cons_succ]) | (refine F_run (v := ?_) (by rfl) ?_ ?_; rotate_left; (· (intro W hW; (try dsimp only at hW); go_simp; try with_reducible rfl)); simp only [Act.put, List.setIfInBounds_toArray, List.set_cons_zero, List.set_cons_succ]))
  refine F_alloc (.cells #[.bool false, .slice none 0 0] 26) (by rfl) (by rfl) (by intro W hW; go_simp) ?_
  intro g2 hg2
  simp only [List.mem_cons, List.mem_range, not_or, Nat.not_lt] at hg2
  simp only [Act.put, List.setIfInBounds_toArray, List.set_cons_zero, List.set_cons_succ]
  repeat (first | (refine F_skip (by rfl) ?_; simp only [Act.put, List.setIfInBounds_toArray, List.set_cons_zero, List.set_cons_succ]) | (refine F_run (v := ?_) (by rfl) ?_ ?_; rotate_left; (· (intro W hW; (try dsimp only at hW); go_simp; try with_reducible rfl)); simp only [Act.put, List.setIfInBounds_toArray, List.set_cons_zero, List.set_cons_succ]))
  refine F_store2 (fun W => ((Ext V6 W ∧ V6.heap.size ≤ W.heap.size ∧ W.cell? ⟨g, 0, none⟩ = some (.bool n2) ∧ W.cell? ⟨g, 1, none⟩ = some (.slice p2 l2 c2)) ∧ NR W n3 p3 l3 c3 (ofZ (d : Int))) ∧ NR W n4 p4 l4 c4 (ofZ z2, true).1) g2 (.bool false) (.slice none 0 0) (.bool n4) (.slice p4 l4 c4) 26 (by rfl) (by rfl) (by intro W c0 c1 cf; go_simp) (fun W hW => hW) ?_ ?_ ?_ ?_
  · repeat (first | exact hRKS | exact RK.keep hKeep (by assumption) | exact RK.obj (by assumption) | exact RK.nr (by intro z h; cases h) (by intro z h; cases h) | refine RK.and ?_ ?_)
  · repeat (first | exact hSM | exact hKeep.mono (fun _ h => h.2.1) | exact fmono_obj _ _ | exact fmono_nr _ _ _ _ _ | refine FMono.and ?_ ?_)
  · (intro W h; first | exact h | exact h.1 | exact h.1.1 | exact h.1.1.1 | exact h.1.1.1.1)
  simp only [Act.put, List.setIfInBounds_toArray, List.set_cons_zero, List.set_cons_succ]
  repeat (first | (refine F_skip (by rfl) ?_; simp only [Act.put, List.setIfInBounds_toArray, List.set_cons_zero, List.set_cons_succ]) | (refine F_run (v := ?_) (by rfl) ?_ ?_; rotate_left; (· (intro W hW; (try dsimp only at hW); go_simp; try with_reducible rfl)); simp only [Act.put, List.setIfInBounds_toArray, List.set_cons_zero, List.set_cons_succ]))
  rintro V7 ⟨⟨⟨⟨hS, _⟩, hn4'⟩, hg⟩, hlt⟩
  have vA := VA6.out.ext hS.1
  have VX := Lib.hid (VB.heap hg hn4')
  have EX7 : Ext w V7 := EX6.trans (hS.1.mono EX6.size)
  clear hS hn4' hg hlt hKeep QT qT1 qT2 qT3 hn3 hn4 VT VA6 EX EX6
  obtain ⟨qA1, qA2, qA3, qA4⟩ := id vA
  have QA := Lib.hid qA4
  have VA := Lib.hid vA
  clear qA4 vA
  have TX := Lib.hid (fun W (hx : Ext V7 W) => num_Text (ofZ (N : Int)) false pa la ca W (QA.out.ext hx) (TB.out.ext (EX7.trans (hx.mono EX7.size))))
  rw [T1.out] at TX
  go_upto_region 7 with (fail)
  obtain ⟨cd, CD⟩ : ∃ cd : Nat, 48 + d = cd := ⟨_, rfl⟩
  have hcd : cd < 58 := by omega
  have CB := conv_byte (UInt8.ofNat (48 + d)) cd (by rw [CD]; simp; omega)
  have e1 : (48 : Int) + (d : Int) = (cd : Int) := by omega
  have e2 : IntKind.u8.wrap (cd : Int) = (cd : Int) := IntWalk.u8_in _ (by omega)
  have e3 : IntKind.i64.wrap (cd : Int) = (cd : Int) := IntWalk.i64_in _ (by omega)
  have SZ0 : (bytesT (decDigits N)).size ≤ 100000 := by
    rw [bytesT_size, decDigits_length]; have := nDig_bd hN; omega
  have SZ1 : (bytesT [UInt8.ofNat (48 + d)]).size = 1 := bytesT_size _
  have SZ2 : (bytesT (45 :: decDigits N)).size ≤ 100000 := by
    rw [bytesT_size, List.length_cons, decDigits_length]; have := nDig_bd hN; omega
  have WX := Lib.hid (show bytesT (decDigits N) ++ bytesT [UInt8.ofNat (48 + d)] = bytesT (decDigits N ++ [UInt8.ofNat (48 + d)]) from bytesT_add _ _)
  have WY := Lib.hid (show bytesT [45] ++ bytesT (decDigits N) = bytesT (45 :: decDigits N) from bytesT_add [45] _)
  obtain ⟨sN, SN⟩ : ∃ s, Hid (bytesT (decDigits N) = s) := ⟨_, rfl⟩
  obtain ⟨sD, SD⟩ : ∃ s, Hid (bytesT [UInt8.ofNat (48 + d)] = s) := ⟨_, rfl⟩
  rw [SN.out] at TX SZ0 WX WY
  rw [SD.out] at CB SZ1 WX
  clear CD
  go_cut [12] (fun s12 wx => s12 = .string (sN ++ sD) ∧ Ext V7 wx)
  case first =>
    go_region_with (refine (TX.out _ (by (repeat (first | exact Below.refl _ _ | assumption | refine Below.drewN ?_ _ | refine Below.drew ?_ | refine Below.setCell ?_ (by first | exact Nat.le_refl _ | (simp; done) | (simp; omega) | omega) _ | refine Below.alloc ?_ (by first | exact Nat.le_refl _ | (simp; done) | (simp; omega) | omega) _)))).mono ?_; rintro e w' ⟨rfl, hx⟩; (first | (have hcc : w'.cell? ⟨V7.heap.size, 0, none⟩ = some (.int .u8 (cd : Int)) := (hx.cell (p := ⟨V7.heap.size, 0, none⟩) (by change V7.heap.size < (World.alloc V7 _).heap.size; rw [World.size_alloc]; exact Nat.lt_succ_self _)).trans (by go_simp)) | skip); have hx' : Ext V7 w' := Ext.step (by (repeat (first | exact Below.refl _ _ | assumption | refine Below.drewN ?_ _ | refine Below.drew ?_ | refine Below.setCell ?_ (by first | exact Nat.le_refl _ | (simp; done) | (simp; omega) | omega) _ | refine Below.alloc ?_ (by first | exact Nat.le_refl _ | (simp; done) | (simp; omega) | omega) _))) hx; have hs' := hx'.size)
    all_goals (go_wp2_with fail; go_meet; exact ⟨rfl, by first | assumption | exact hx'.alloc hx'.size _⟩)
  case rest =>
    obtain ⟨rfl, hx8⟩ := hcut
    have vA := VA.out.ext hx8
    have EX8 : Ext w wc := EX7.trans (hx8.mono EX7.size)
    have VX8 := Lib.hid (VX.out.ext hx8)
    clear VX VA QA qA1 qA2 qA3 EX7
    obtain ⟨qA1, qA2, qA3, qA4⟩ := id vA
    have QA := Lib.hid qA4
    have VA := Lib.hid vA
    clear qA4 vA hx8 TX
    by_cases hl : la = 0
    · have hN0 : N = 0 := hz.2 hl
      subst hl
      have EQ0 := Lib.hid (show bytesT (decDigits (10 * N + d)) = sD by rw [hN0, ← SD.out, Nat.mul_zero, Nat.zero_add, Lib.decDigits_one hd])
      clear hz
      go_upto_region 10 with (fail)
      refine wp_worldT (fun W => Ext wc W) (by (repeat (first | exact Below.refl _ _ | assumption | refine Below.drewN ?_ _ | refine Below.drew ?_ | refine Below.setCell ?_ (by first | exact Nat.le_refl _ | (simp; done) | (simp; omega) | omega) _ | refine Below.alloc ?_ (by first | exact Nat.le_refl _ | (simp; done) | (simp; omega) | omega) _))) ?_
      rintro V10 hx10
      have vA := VA.out.ext hx10
      have EX10 : Ext w V10 := EX8.trans (hx10.mono EX8.size)
      have VX10 := Lib.hid (VX8.out.ext hx10)
      clear qA1 qA2 qA3 VA QA VX8 hx10
      obtain ⟨qA1, qA2, qA3, qA4⟩ := id vA
      have QA := Lib.hid qA4
      have VA := Lib.hid vA
      clear qA4 vA
      have hKeep : FKeep (V10.heap.size) (fun W => Ext V10 W ∧ V10.heap.size ≤ W.heap.size ∧ W.cell? ⟨B, 0, none⟩ = some (.bool false) ∧ W.cell? ⟨B, 1, none⟩ = some (.slice pa 0 ca)) := (by intro W W' h hb; obtain ⟨hx, hz, hc⟩ := h; have hbc : ∀ b o, b < _ → W'.cell? ⟨b, o, none⟩ = W.cell? ⟨b, o, none⟩ := fun b o h => hb.cell (p := ⟨b, o, none⟩) h; refine ⟨hx.trans (hb.mono (by omega)), Nat.le_trans hz hb.size, ?_⟩; (try dsimp only at hc ⊢); simp (disch := omega) only [hbc]; exact hc)
      first | refine wp_region_K (V10.heap.size) (fun W => Ext V10 W ∧ V10.heap.size ≤ W.heap.size ∧ W.cell? ⟨B, 0, none⟩ = some (.bool false) ∧ W.cell? ⟨B, 1, none⟩ = some (.slice pa 0 ca)) (by kernel_rfl) (by kernel_rfl) ?_ hKeep (fun _ h => h.2.1) ?_ | refine wp_region_Ks (V10.heap.size) (fun W => Ext V10 W ∧ V10.heap.size ≤ W.heap.size ∧ W.cell? ⟨B, 0, none⟩ = some (.bool false) ∧ W.cell? ⟨B, 1, none⟩ = some (.slice pa 0 ca)) ?_ hKeep (fun _ h => h.2.1) ?_
      · refine ⟨by (repeat (first | exact Below.refl _ _ | assumption | refine Below.drewN ?_ _ | refine Below.drew ?_ | refine Below.setCell ?_ (by first | exact Nat.le_refl _ | (simp; done) | (simp; omega) | omega) _ | refine Below.alloc ?_ (by first | exact Nat.le_refl _ | (simp; done) | (simp; omega) | omega) _)), by first | omega | (simp; done) | (simp; omega), ?_⟩
        go_simp
      repeat (first | (refine F_skip (by rfl) ?_; simp only [Act.put, List.setIfInBounds_toArray, List.set_cons_zero, List.set_cons_succ]) | (refine F_run (v := ?_) (by rfl) ?_ ?_; rotate_left; (· (intro W hW; (try dsimp only at hW); go_simp; try with_reducible rfl)); simp only [Act.put, List.setIfInBounds_toArray, List.set_cons_zero, List.set_cons_succ]))
      refine F_numA V10 (ofZ 0) (by rfl) (by rfl) (by intro W hW; (try dsimp only at hW); have hwW : V10.heap.size ≤ W.heap.size := hW.2.1; go_simp; exact (num_Of 0 _ (by decide) (by decide)).mono fun _ _ h => RetN.isN1 hwW h) ?_
      intro n5 p5 l5 c5 hn5
      simp only [Act.put, List.setIfInBounds_toArray, List.set_cons_zero, List.set_cons_succ]
      repeat (first | (refine F_skip (by rfl) ?_; simp only [Act.put, List.setIfInBounds_toArray, List.set_cons_zero, List.set_cons_succ]) | (refine F_run (v := ?_) (by rfl) ?_ ?_; rotate_left; (· (intro W hW; (try dsimp only at hW); go_simp; try with_reducible rfl)); simp only [Act.put, List.setIfInBounds_toArray, List.set_cons_zero, List.set_cons_succ]))
      refine F_numT V10 (ofZ z3, true) (by rfl) (by rfl) (by intro W hW; (try dsimp only at hW); have hwW : V10.heap.size ≤ W.heap.size := hW.1.2.1; go_simp; exact (ret_num (num_Sub _ _ _ _ _ _ _ _ _ _ _ hW.2 (QA.out.ext hW.1.1)) R3.out).mono fun _ _ h => RetNum.isT hwW h) ?_
      intro n6 p6 l6 c6 hn6
      simp only [Act.put, List.setIfInBounds_toArray, List.set_cons_zero, List.set_cons_succ]
      repeat (first | (refine F_skip (by rfl) ?_; simp only [Act.put, List.setIfInBounds_toArray, List.set_cons_zero, List.set_cons_succ]) | (refine F_run (v := ?_) (by rfl) ?_ ?_; rotate_left; (· (intro W hW; (try dsimp only at hW); go_simp; try with_reducible rfl)); simp only [Act.put, List.setIfInBounds_toArray, List.set_cons_zero, List.set_cons_succ]))
      refine F_alloc (.cells #[.bool false, .slice none 0 0] 26) (by rfl) (by rfl) (by intro W hW; go_simp) ?_
      intro g3 hg3
      simp only [List.mem_cons, List.mem_range, not_or, Nat.not_lt] at hg3
      simp only [Act.put, List.setIfInBounds_toArray, List.set_cons_zero, List.set_cons_succ]
      repeat (first | (refine F_skip (by rfl) ?_; simp only [Act.put, List.setIfInBounds_toArray, List.set_cons_zero, List.set_cons_succ]) | (refine F_run (v := ?_) (by rfl) ?_ ?_; rotate_left; (· (intro W hW; (try dsimp only at hW); go_simp; try with_reducible rfl)); simp only [Act.put, List.setIfInBounds_toArray, List.set_cons_zero, List.set_cons_succ]))
      refine F_store2 (fun W => ((Ext V10 W ∧ V10.heap.size ≤ W.heap.size ∧ W.cell? ⟨B, 0, none⟩ = some (.bool false) ∧ W.cell? ⟨B, 1, none⟩ = some (.slice pa 0 ca)) ∧ NR W n5 p5 l5 c5 (ofZ 0)) ∧ NR W n6 p6 l6 c6 (ofZ z3, true).1) g3 (.bool false) (.slice none 0 0) (.bool n6) (.slice p6 l6 c6) 26 (by rfl) (by rfl) (by intro W c0 c1 cf; go_simp) (fun W hW => hW) ?_ ?_ ?_ ?_
      · repeat (first | exact hRKS | exact RK.keep hKeep (by assumption) | exact RK.obj (by assumption) | exact RK.nr (by intro z h; cases h) (by intro z h; cases h) | refine RK.and ?_ ?_)
      · repeat (first | exact hSM | exact hKeep.mono (fun _ h => h.2.1) | exact fmono_obj _ _ | exact fmono_nr _ _ _ _ _ | refine FMono.and ?_ ?_)
      · (intro W h; first | exact h | exact h.1 | exact h.1.1 | exact h.1.1.1 | exact h.1.1.1.1)
      simp only [Act.put, List.setIfInBounds_toArray, List.set_cons_zero, List.set_cons_succ]
      repeat (first | (refine F_skip (by rfl) ?_; simp only [Act.put, List.setIfInBounds_toArray, List.set_cons_zero, List.set_cons_succ]) | (refine F_run (v := ?_) (by rfl) ?_ ?_; rotate_left; (· (intro W hW; (try dsimp only at hW); go_simp; try with_reducible rfl)); simp only [Act.put, List.setIfInBounds_toArray, List.set_cons_zero, List.set_cons_succ]))
      rintro V11 ⟨⟨⟨⟨hS, _⟩, hn6'⟩, hg⟩, hlt⟩
      have vA := VA.out.ext hS.1
      have vM := VB.heap hg hn6'
      have EX11 : Ext w V11 := EX10.trans (hS.1.mono EX10.size)
      have VX11 := Lib.hid (VX10.out.ext hS.1)
      clear hS hn6' hg hlt hKeep qA1 qA2 qA3 VA QA VX10 hn5 hn6 EX10 EX8
      obtain ⟨qA1, qA2, qA3, qA4⟩ := vA
      have QA := Lib.hid qA4
      obtain ⟨qM1, qM2, qM3, qM4⟩ := vM
      have QM := Lib.hid qM4
      clear qA4 qM4
      go_upto_region 11 with (fail)
      have hKeep : FKeep (V11.heap.size) (fun W => Ext V11 W ∧ V11.heap.size ≤ W.heap.size ∧ W.cell? ⟨B, 0, none⟩ = some (.bool false) ∧ W.cell? ⟨B, 1, none⟩ = some (.slice pa 0 ca)) := (by intro W W' h hb; obtain ⟨hx, hz, hc⟩ := h; have hbc : ∀ b o, b < _ → W'.cell? ⟨b, o, none⟩ = W.cell? ⟨b, o, none⟩ := fun b o h => hb.cell (p := ⟨b, o, none⟩) h; refine ⟨hx.trans (hb.mono (by omega)), Nat.le_trans hz hb.size, ?_⟩; (try dsimp only at hc ⊢); simp (disch := omega) only [hbc]; exact hc)
      first | refine wp_region_K (V11.heap.size) (fun W => Ext V11 W ∧ V11.heap.size ≤ W.heap.size ∧ W.cell? ⟨B, 0, none⟩ = some (.bool false) ∧ W.cell? ⟨B, 1, none⟩ = some (.slice pa 0 ca)) (by kernel_rfl) (by kernel_rfl) ?_ hKeep (fun _ h => h.2.1) ?_ | refine wp_region_Ks (V11.heap.size) (fun W => Ext V11 W ∧ V11.heap.size ≤ W.heap.size ∧ W.cell? ⟨B, 0, none⟩ = some (.bool false) ∧ W.cell? ⟨B, 1, none⟩ = some (.slice pa 0 ca)) ?_ hKeep (fun _ h => h.2.1) ?_
      · refine ⟨by (repeat (first | exact Below.refl _ _ | assumption | refine Below.drewN ?_ _ | refine Below.drew ?_ | refine Below.setCell ?_ (by first | exact Nat.le_refl _ | (simp; done) | (simp; omega) | omega) _ | refine Below.alloc ?_ (by first | exact Nat.le_refl _ | (simp; done) | (simp; omega) | omega) _)), by first | omega | (simp; done) | (simp; omega), ?_⟩
        go_simp
      repeat (first | (refine F_skip (by rfl) ?_; simp only [Act.put, List.setIfInBounds_toArray, List.set_cons_zero, List.set_cons_succ]) | (refine F_run (v := ?_) (by rfl) ?_ ?_; rotate_left; (· (intro W hW; (try dsimp only at hW); go_simp; try with_reducible rfl)); simp only [Act.put, List.setIfInBounds_toArray, List.set_cons_zero, List.set_cons_succ]))
      rintro V12 hS
      have EX12 : Ext w V12 := EX11.trans (hS.1.mono EX11.size)
      obtain ⟨qX1, qX2, qX3, qX4⟩ := VX11.out.ext hS.1
      have QX := Lib.hid qX4
      clear qX4 hS hKeep qA1 qA2 qA3 qM1 qM2 qM3 QA QM VX11
      go_wp2_with fail
      refine (num_Text (ofZ z2) n4 p4 l4 c4 _ (QX.out.ext (by (repeat (first | exact Below.refl _ _ | assumption | refine Below.drewN ?_ _ | refine Below.drew ?_ | refine Below.setCell ?_ (by first | exact Nat.le_refl _ | (simp; done) | (simp; omega) | omega) _ | refine Below.alloc ?_ (by first | exact Nat.le_refl _ | (simp; done) | (simp; omega) | omega) _)))) (TB.out.ext (EX12.trans (by (repeat (first | exact Below.refl _ _ | assumption | refine Below.drewN ?_ _ | refine Below.drew ?_ | refine Below.setCell ?_ (by first | exact Nat.le_refl _ | (simp; done) | (simp; omega) | omega) _ | refine Below.alloc ?_ (by first | exact Nat.le_refl _ | (simp; done) | (simp; omega) | omega) _)))))).mono ?_
      rintro e w9 ⟨rfl, hx9⟩
      have EX13 : Ext w w9 := Ext.step EX12 (Ext.step (by (repeat (first | exact Below.refl _ _ | assumption | refine Below.drewN ?_ _ | refine Below.drew ?_ | refine Below.setCell ?_ (by first | exact Nat.le_refl _ | (simp; done) | (simp; omega) | omega) _ | refine Below.alloc ?_ (by first | exact Nat.le_refl _ | (simp; done) | (simp; omega) | omega) _))) hx9)
      rw [T2.out, EQ0.out]
      go_wp2
      go_ret
      exact ⟨rfl, EX13⟩
    · have hN0 : 0 < N := Nat.pos_of_ne_zero (fun h => hl (hz.1 h))
      have hlp : 0 < la := Nat.pos_of_ne_zero hl
      have e0 : ((la : Int) == 0) = false := by rw [beq_eq_false_iff_ne]; omega
      have EQ1 := Lib.hid (show bytesT (decDigits (10 * N + d)) = sN ++ sD by rw [decDigits_ten hN0 hd, WX.out])
      obtain ⟨sM, SM⟩ : ∃ s, Hid (bytesT (45 :: decDigits N) = s) := ⟨_, rfl⟩
      have WZ : (⟨#[45]⟩ : ByteArray) ++ sN = sM := WY.out.trans SM.out
      rw [SM.out] at SZ2
      have hA : ¬ 9223372036854775807 < 1 + sN.size := by omega
      have hB : ¬ 9223372036854775807 < sN.size + 1 := by omega
      have hC : ¬ 9223372036854775807 < (⟨#[45]⟩ : ByteArray).size + sN.size := by rw [show (⟨#[45]⟩ : ByteArray).size = 1 from rfl]; exact hA
      clear hz hl
      go_upto_region 10 with (fail)
      refine wp_worldT (fun W => Ext wc W) (by (repeat (first | exact Below.refl _ _ | assumption | refine Below.drewN ?_ _ | refine Below.drew ?_ | refine Below.setCell ?_ (by first | exact Nat.le_refl _ | (simp; done) | (simp; omega) | omega) _ | refine Below.alloc ?_ (by first | exact Nat.le_refl _ | (simp; done) | (simp; omega) | omega) _))) ?_
      rintro V10 hx10
      have vA := VA.out.ext hx10
      have EX10 : Ext w V10 := EX8.trans (hx10.mono EX8.size)
      have VX10 := Lib.hid (VX8.out.ext hx10)
      clear qA1 qA2 qA3 VA QA VX8 hx10
      obtain ⟨qA1, qA2, qA3, qA4⟩ := id vA
      have QA := Lib.hid qA4
      have VA := Lib.hid vA
      clear qA4 vA
      have hKeep : FKeep (V10.heap.size) (fun W => Ext V10 W ∧ V10.heap.size ≤ W.heap.size ∧ W.cell? ⟨B, 0, none⟩ = some (.bool false) ∧ W.cell? ⟨B, 1, none⟩ = some (.slice pa la ca)) := (by intro W W' h hb; obtain ⟨hx, hz, hc⟩ := h; have hbc : ∀ b o, b < _ → W'.cell? ⟨b, o, none⟩ = W.cell? ⟨b, o, none⟩ := fun b o h => hb.cell (p := ⟨b, o, none⟩) h; refine ⟨hx.trans (hb.mono (by omega)), Nat.le_trans hz hb.size, ?_⟩; (try dsimp only at hc ⊢); simp (disch := omega) only [hbc]; exact hc)
      first | refine wp_region_K (V10.heap.size) (fun W => Ext V10 W ∧ V10.heap.size ≤ W.heap.size ∧ W.cell? ⟨B, 0, none⟩ = some (.bool false) ∧ W.cell? ⟨B, 1, none⟩ = some (.slice pa la ca)) (by kernel_rfl) (by kernel_rfl) ?_ hKeep (fun _ h => h.2.1) ?_ | refine wp_region_Ks (V10.heap.size) (fun W => Ext V10 W ∧ V10.heap.size ≤ W.heap.size ∧ W.cell? ⟨B, 0, none⟩ = some (.bool false) ∧ W.cell? ⟨B, 1, none⟩ = some (.slice pa la ca)) ?_ hKeep (fun _ h => h.2.1) ?_
      · refine ⟨by (repeat (first | exact Below.refl _ _ | assumption | refine Below.drewN ?_ _ | refine Below.drew ?_ | refine Below.setCell ?_ (by first | exact Nat.le_refl _ | (simp; done) | (simp; omega) | omega) _ | refine Below.alloc ?_ (by first | exact Nat.le_refl _ | (simp; done) | (simp; omega) | omega) _)), by first | omega | (simp; done) | (simp; omega), ?_⟩
        go_simp
      repeat (first | (refine F_skip (by rfl) ?_; simp only [Act.put, List.setIfInBounds_toArray, List.set_cons_zero, List.set_cons_succ]) | (refine F_run (v := ?_) (by rfl) ?_ ?_; rotate_left; (· (intro W hW; (try dsimp only at hW); go_simp; try with_reducible rfl)); simp only [Act.put, List.setIfInBounds_toArray, List.set_cons_zero, List.set_cons_succ]))
      refine F_numA V10 (ofZ 0) (by rfl) (by rfl) (by intro W hW; (try dsimp only at hW); have hwW : V10.heap.size ≤ W.heap.size := hW.2.1; go_simp; exact (num_Of 0 _ (by decide) (by decide)).mono fun _ _ h => RetN.isN1 hwW h) ?_
      intro n5 p5 l5 c5 hn5
      simp only [Act.put, List.setIfInBounds_toArray, List.set_cons_zero, List.set_cons_succ]
      repeat (first | (refine F_skip (by rfl) ?_; simp only [Act.put, List.setIfInBounds_toArray, List.set_cons_zero, List.set_cons_succ]) | (refine F_run (v := ?_) (by rfl) ?_ ?_; rotate_left; (· (intro W hW; (try dsimp only at hW); go_simp; try with_reducible rfl)); simp only [Act.put, List.setIfInBounds_toArray, List.set_cons_zero, List.set_cons_succ]))
      refine F_numT V10 (ofZ z3, true) (by rfl) (by rfl) (by intro W hW; (try dsimp only at hW); have hwW : V10.heap.size ≤ W.heap.size := hW.1.2.1; go_simp; exact (ret_num (num_Sub _ _ _ _ _ _ _ _ _ _ _ hW.2 (QA.out.ext hW.1.1)) R3.out).mono fun _ _ h => RetNum.isT hwW h) ?_
      intro n6 p6 l6 c6 hn6
      simp only [Act.put, List.setIfInBounds_toArray, List.set_cons_zero, List.set_cons_succ]
      repeat (first | (refine F_skip (by rfl) ?_; simp only [Act.put, List.setIfInBounds_toArray, List.set_cons_zero, List.set_cons_succ]) | (refine F_run (v := ?_) (by rfl) ?_ ?_; rotate_left; (· (intro W hW; (try dsimp only at hW); go_simp; try with_reducible rfl)); simp only [Act.put, List.setIfInBounds_toArray, List.set_cons_zero, List.set_cons_succ]))
      refine F_alloc (.cells #[.bool false, .slice none 0 0] 26) (by rfl) (by rfl) (by intro W hW; go_simp) ?_
      intro g3 hg3
      simp only [List.mem_cons, List.mem_range, not_or, Nat.not_lt] at hg3
      simp only [Act.put, List.setIfInBounds_toArray, List.set_cons_zero, List.set_cons_succ]
      repeat (first | (refine F_skip (by rfl) ?_; simp only [Act.put, List.setIfInBounds_toArray, List.set_cons_zero, List.set_cons_succ]) | (refine F_run (v := ?_) (by rfl) ?_ ?_; rotate_left; (· (intro W hW; (try dsimp only at hW); go_simp; try with_reducible rfl)); simp only [Act.put, List.setIfInBounds_toArray, List.set_cons_zero, List.set_cons_succ]))
      refine F_store2 (fun W => ((Ext V10 W ∧ V10.heap.size ≤ W.heap.size ∧ W.cell? ⟨B, 0, none⟩ = some (.bool false) ∧ W.cell? ⟨B, 1, none⟩ = some (.slice pa la ca)) ∧ NR W n5 p5 l5 c5 (ofZ 0)) ∧ NR W n6 p6 l6 c6 (ofZ z3, true).1) g3 (.bool false) (.slice none 0 0) (.bool n6) (.slice p6 l6 c6) 26 (by rfl) (by rfl) (by intro W c0 c1 cf; go_simp) (fun W hW => hW) ?_ ?_ ?_ ?_
      · repeat (first | exact hRKS | exact RK.keep hKeep (by assumption) | exact RK.obj (by assumption) | exact RK.nr (by intro z h; cases h) (by intro z h; cases h) | refine RK.and ?_ ?_)
      · repeat (first | exact hSM | exact hKeep.mono (fun _ h => h.2.1) | exact fmono_obj _ _ | exact fmono_nr _ _ _ _ _ | refine FMono.and ?_ ?_)
      · (intro W h; first | exact h | exact h.1 | exact h.1.1 | exact h.1.1.1 | exact h.1.1.1.1)
      simp only [Act.put, List.setIfInBounds_toArray, List.set_cons_zero, List.set_cons_succ]
      repeat (first | (refine F_skip (by rfl) ?_; simp only [Act.put, List.setIfInBounds_toArray, List.set_cons_zero, List.set_cons_succ]) | (refine F_run (v := ?_) (by rfl) ?_ ?_; rotate_left; (· (intro W hW; (try dsimp only at hW); go_simp; try with_reducible rfl)); simp only [Act.put, List.setIfInBounds_toArray, List.set_cons_zero, List.set_cons_succ]))
      rintro V11 ⟨⟨⟨⟨hS, _⟩, hn6'⟩, hg⟩, hlt⟩
      have vA := VA.out.ext hS.1
      have vM := VB.heap hg hn6'
      have EX11 : Ext w V11 := EX10.trans (hS.1.mono EX10.size)
      have VX11 := Lib.hid (VX10.out.ext hS.1)
      clear hS hn6' hg hlt hKeep qA1 qA2 qA3 VA QA VX10 hn5 hn6 EX10 EX8
      obtain ⟨qA1, qA2, qA3, qA4⟩ := vA
      have QA := Lib.hid qA4
      obtain ⟨qM1, qM2, qM3, qM4⟩ := vM
      have QM := Lib.hid qM4
      clear qA4 qM4
      have TM := Lib.hid (fun W (hx : Ext V11 W) => num_Text (ofZ z3) n6 p6 l6 c6 W (QM.out.ext hx) (TB.out.ext (EX11.trans (hx.mono EX11.size))))
      have TA := Lib.hid (fun W (hx : Ext V11 W) => num_Text (ofZ (N : Int)) false pa la ca W (QA.out.ext hx) (TB.out.ext (EX11.trans (hx.mono EX11.size))))
      rw [T3.out hN0, SM.out] at TM
      rw [T1.out, SN.out] at TA
      go_upto_region 11 with (fail)
      have hKeep : FKeep (V11.heap.size) (fun W => Ext V11 W ∧ V11.heap.size ≤ W.heap.size ∧ W.cell? ⟨B, 0, none⟩ = some (.bool false) ∧ W.cell? ⟨B, 1, none⟩ = some (.slice pa la ca) ∧ W.cell? ⟨g3, 0, none⟩ = some (.bool n6) ∧ W.cell? ⟨g3, 1, none⟩ = some (.slice p6 l6 c6)) := (by intro W W' h hb; obtain ⟨hx, hz, hc⟩ := h; have hbc : ∀ b o, b < _ → W'.cell? ⟨b, o, none⟩ = W.cell? ⟨b, o, none⟩ := fun b o h => hb.cell (p := ⟨b, o, none⟩) h; refine ⟨hx.trans (hb.mono (by omega)), Nat.le_trans hz hb.size, ?_⟩; (try dsimp only at hc ⊢); simp (disch := omega) only [hbc]; exact hc)
      first | refine wp_region_K (V11.heap.size) (fun W => Ext V11 W ∧ V11.heap.size ≤ W.heap.size ∧ W.cell? ⟨B, 0, none⟩ = some (.bool false) ∧ W.cell? ⟨B, 1, none⟩ = some (.slice pa la ca) ∧ W.cell? ⟨g3, 0, none⟩ = some (.bool n6) ∧ W.cell? ⟨g3, 1, none⟩ = some (.slice p6 l6 c6)) (by kernel_rfl) (by kernel_rfl) ?_ hKeep (fun _ h => h.2.1) ?_ | refine wp_region_Ks (V11.heap.size) (fun W => Ext V11 W ∧ V11.heap.size ≤ W.heap.size ∧ W.cell? ⟨B, 0, none⟩ = some (.bool false) ∧ W.cell? ⟨B, 1, none⟩ = some (.slice pa la ca) ∧ W.cell? ⟨g3, 0, none⟩ = some (.bool n6) ∧ W.cell? ⟨g3, 1, none⟩ = some (.slice p6 l6 c6)) ?_ hKeep (fun _ h => h.2.1) ?_
      · refine ⟨by (repeat (first | exact Below.refl _ _ | assumption | refine Below.drewN ?_ _ | refine Below.drew ?_ | refine Below.setCell ?_ (by first | exact Nat.le_refl _ | (simp; done) | (simp; omega) | omega) _ | refine Below.alloc ?_ (by first | exact Nat.le_refl _ | (simp; done) | (simp; omega) | omega) _)), by first | omega | (simp; done) | (simp; omega), ?_⟩
        go_simp
      repeat (first | (refine F_skip (by rfl) ?_; simp only [Act.put, List.setIfInBounds_toArray, List.set_cons_zero, List.set_cons_succ]) | (refine F_run (v := ?_) (by rfl) ?_ ?_; rotate_left; (· (intro W hW; (try dsimp only at hW); go_simp; try with_reducible rfl)); simp only [Act.put, List.setIfInBounds_toArray, List.set_cons_zero, List.set_cons_succ]))
      (refine F_call (v := .string sM) (by rfl) (by rfl) ?_ ?_; (· (intro W hW; (try dsimp only at hW); go_simp; refine (TM.out _ hW.1).mono ?_; rintro e w' ⟨rfl, hx⟩; exact ⟨_, rfl, rfl, hx⟩))); simp only [Act.put, List.setIfInBounds_toArray, List.set_cons_zero, List.set_cons_succ]
      repeat (first | (refine F_skip (by rfl) ?_; simp only [Act.put, List.setIfInBounds_toArray, List.set_cons_zero, List.set_cons_succ]) | (refine F_run (v := ?_) (by rfl) ?_ ?_; rotate_left; (· (intro W hW; (try dsimp only at hW); go_simp; try with_reducible rfl)); simp only [Act.put, List.setIfInBounds_toArray, List.set_cons_zero, List.set_cons_succ]))
      (refine F_call (v := .string sN) (by rfl) (by rfl) ?_ ?_; (· (intro W hW; (try dsimp only at hW); go_simp; refine (TA.out _ hW.1).mono ?_; rintro e w' ⟨rfl, hx⟩; exact ⟨_, rfl, rfl, hx⟩))); simp only [Act.put, List.setIfInBounds_toArray, List.set_cons_zero, List.set_cons_succ]
      repeat (first | (refine F_skip (by rfl) ?_; simp only [Act.put, List.setIfInBounds_toArray, List.set_cons_zero, List.set_cons_succ]) | (refine F_run (v := ?_) (by rfl) ?_ ?_; rotate_left; (· (intro W hW; (try dsimp only at hW); go_simp; try with_reducible rfl)); simp only [Act.put, List.setIfInBounds_toArray, List.set_cons_zero, List.set_cons_succ]))
      rintro V12 hS
      have EX12 : Ext w V12 := EX11.trans (hS.1.mono EX11.size)
      obtain ⟨qX1, qX2, qX3, qX4⟩ := VX11.out.ext hS.1
      have QX := Lib.hid qX4
      clear qX4 hS hKeep qA1 qA2 qA3 qM1 qM2 qM3 QA QM VX11 TM TA
      go_wp2_with fail
      refine (num_Text (ofZ z2) n4 p4 l4 c4 _ (QX.out.ext (by (repeat (first | exact Below.refl _ _ | assumption | refine Below.drewN ?_ _ | refine Below.drew ?_ | refine Below.setCell ?_ (by first | exact Nat.le_refl _ | (simp; done) | (simp; omega) | omega) _ | refine Below.alloc ?_ (by first | exact Nat.le_refl _ | (simp; done) | (simp; omega) | omega) _)))) (TB.out.ext (EX12.trans (by (repeat (first | exact Below.refl _ _ | assumption | refine Below.drewN ?_ _ | refine Below.drew ?_ | refine Below.setCell ?_ (by first | exact Nat.le_refl _ | (simp; done) | (simp; omega) | omega) _ | refine Below.alloc ?_ (by first | exact Nat.le_refl _ | (simp; done) | (simp; omega) | omega) _)))))).mono ?_
      rintro e w9 ⟨rfl, hx9⟩
      have EX13 : Ext w w9 := Ext.step EX12 (Ext.step (by (repeat (first | exact Below.refl _ _ | assumption | refine Below.drewN ?_ _ | refine Below.drew ?_ | refine Below.setCell ?_ (by first | exact Nat.le_refl _ | (simp; done) | (simp; omega) | omega) _ | refine Below.alloc ?_ (by first | exact Nat.le_refl _ | (simp; done) | (simp; omega) | omega) _))) hx9)
      rw [T2.out, EQ1.out]
      go_wp2
      go_ret
      exact ⟨rfl, EX13⟩
end Go.Proofs.YtdaaknfmodbjcaaDoor
