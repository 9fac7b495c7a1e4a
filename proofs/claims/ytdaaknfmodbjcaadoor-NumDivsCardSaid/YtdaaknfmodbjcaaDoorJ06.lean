/- Contract: etchantref01.Made: a right number of at most six digits. | Contract: num.divide, where the divisor is greater, or has one digit. -/
import Derived.Test.YtdaaknfmodbjcaaDoorJ05
import Derived.Test.YtdaaknfmodbjcaaDoorJ04
set_option linter.unusedVariables false
set_option linter.unusedSimpArgs false

namespace Go.Proofs.YtdaaknfmodbjcaaDoor
open Go.RowKit

/-- A slice of ints. -/
def Ints (w : World) (p : Option Addr) (l c : Nat) : Prop :=
  l ≤ c ∧ c ≤ 9223372036854775807 ∧ (0 < l → ∃ b o, p = some ⟨b, o, none⟩ ∧ b < w.heap.size ∧ ∀ i, i < l → ∃ z : Int, (-9223372036854775808 ≤ z ∧ z ≤ 9223372036854775807) ∧ w.cell? ⟨b, o + i, none⟩ = some (.int .i64 z))
theorem Ints.ext {w w' : World} {p : Option Addr} {l c : Nat} (h : Ints w p l c) (hb : Ext w w') : Ints w' p l c := by
  refine ⟨h.1, h.2.1, fun h0 => ?_⟩
  obtain ⟨b, o, hp, hlt, hc⟩ := h.2.2 h0
  refine ⟨b, o, hp, Nat.lt_of_lt_of_le hlt hb.size, fun i hi => ?_⟩
  obtain ⟨z, hz, hcz⟩ := hc i hi
  exact ⟨z, hz, (hb.cell (p := ⟨b, o + i, none⟩) hlt).trans hcz⟩
/-- A right number of at most n digits is returned. -/
def RetMk (w : World) (n : Nat) (e : Ending) (w' : World) : Prop :=
  ∃ (g : Bool) (p : Option Addr) (l c : Nat) (X : Nm), e = .returned (.agg #[.bool g, .slice p l c]) ∧ NR w' g p l c X ∧ X.right = true ∧ X.d.length ≤ n ∧ Ext w w'
theorem mk_fit {neg : Bool} {o : List Nat} (hd : Dig o) (hl : o.length ≤ 6) : ∃ X, madeP neg o = (X, true) ∧ X.right = true ∧ X.d.length ≤ 6 := by
  have hv := val_lt hd
  have h6 : (4294967296 : Nat) ^ o.length ≤ 4294967296 ^ 6 := Nat.pow_le_pow_right (by omega) hl
  have hs : small (if neg then -(val o : Int) else val o) = true := by
    unfold small
    rw [decide_eq_true_eq]
    have e : (if neg = true then -(val o : Int) else (val o : Int)).natAbs = val o := by split <;> omega
    rw [e]
    have : (4294967296 : Nat) ^ 6 ≤ 4294967296 ^ 64 := Nat.pow_le_pow_right (by omega) (by omega)
    omega
  refine ⟨_, by rw [madeP_fit]; unfold fit; rw [if_pos hs], ofZ_right hs, ?_⟩
  simp only [ofZ]
  refine (digs_length_le _ _).2 ?_
  have e : (if neg = true then -(val o : Int) else (val o : Int)).natAbs = val o := by split <;> omega
  rw [e]
  omega

set_option maxRecDepth 100000 in
set_option maxHeartbeats 2000000 in
theorem r01_Made (p : Option Addr) (l c : Nat) (w : World) (hz : Ints w p l c) : Calls Tryd.prog 10 #[.slice p l c] w (RetMk w 6) := by
  obtain ⟨i, hi, hz0, hz1, hz2⟩ := info_parts info32
  have hlc := hz.1
  have hcm := hz.2.1
  have HZ := Lib.hid hz
  clear hz
  go_enter Tryd.func10, Tryd.ntmps10
  go_wp2
  go_loopw [3, 4] (fun v k wr => ∃ (o : List Nat), o.length ≤ 6 ∧ k = .int .i64 ((o.length + 1 : Nat) : Int) ∧ Dig o ∧ wr.ownsRow (w.heap.size + 1) 48 1 v o.length (enc o) ∧ Below (w.heap.size + 1) (w.alloc (.cells #[.bool false, .slice none 0 0] 26)) wr) (fun _ k _ => 8 - (intOf k).toNat)
  case atStart => exact ⟨[], by simp, rfl, Dig.nil, World.ownsRow_nil _ _ _ _, Below.refl _ _⟩
  case round =>
    obtain ⟨o, ho, rfl, hd, hown, hx⟩ := hrel
    have hsz := hx.size
    simp at hsz
    have hx0 : Ext w wr := Below.trans ((Below.refl _ _).alloc (Nat.le_refl _) _) (hx.mono (Nat.le_succ _))
    have kc : ∀ j, wr.cell? ⟨w.heap.size, j, none⟩ = (w.alloc (.cells #[.bool false, .slice none 0 0] 26)).cell? ⟨w.heap.size, j, none⟩ := fun j => hx.cell (p := ⟨w.heap.size, j, none⟩) (Nat.lt_succ_self _)
    have kf : ∀ j, wr.frozen? ⟨w.heap.size, j, none⟩ = (w.alloc (.cells #[.bool false, .slice none 0 0] 26)).frozen? ⟨w.heap.size, j, none⟩ := fun j => hx.frozen (p := ⟨w.heap.size, j, none⟩) (Nat.lt_succ_self _)
    have HZ2 := HZ.out.ext hx0
    by_cases hr : o.length + 1 < l ∧ o.length < 6
    · obtain ⟨b, oo, rfl, hb, hc⟩ := HZ2.2.2 (by omega)
      obtain ⟨z, hzb, hcz⟩ := hc (o.length + 1) (by omega)
      obtain ⟨x, hx1⟩ : ∃ x : Nat, z % 4294967296 = (x : Int) := ⟨(z % 4294967296).toNat, by omega⟩
      have hxl : x < 4294967296 := by omega
      have hr1 := hr.1
      have hr2 := hr.2
      have D1 : decide (((o.length + 1 : Nat) : Int) < (l : Int)) = true := by rw [decide_eq_true_eq]; omega
      have D2 : decide (((o.length + 1 : Nat) : Int) < 7) = true := by rw [decide_eq_true_eq]; omega
      clear hc hr HZ2
      go_wp2_with (at_builtin; refine wpList_append_own _ rfl _ _ 24 rfl (w.heap.size + 1) 48 i (.int .u32 0) 1 4 Tryd.underlying24 hi hz0 hz1 hz2 rfl (by decide) _ _ _ rfl (hown.alloc _) ⟨wr.heap.size, 0, none⟩ 1 1 [.int .u32 (x : Int)] rfl rfl (one_news _ _ _ (by first | exact hx1 | rfl)) (by intro u hu; simp at hu; subst hu; rfl) (by unfold maxLen; omega) (by omega) (by simp; omega) ?_)
      intro v' w1 hown' hgr _
      have hown2 : w1.ownsRow (w.heap.size + 1) 48 1 v' (o.length + 1) (enc o ++ [.int .u32 (x : Int)]) := hown'
      rw [enc_snoc] at hown2
      have hl := hown.lt
      have hx2 : Below (w.heap.size + 1) (w.alloc (.cells #[.bool false, .slice none 0 0] 26)) w1 := (hx.alloc (by omega) _).grown hgr (by simp; omega) (fun k hk => (hl k hk).1)
      have OWN := Lib.hid hown2
      have X2 := Lib.hid hx2
      have DD := Lib.hid (hd.append (Dig.cons hxl Dig.nil))
      clear hown' hown2 hgr hown hl hx2 hx hx0 kc kf hcz hd
      go_wp2
      exact ⟨⟨o ++ [x], by rw [enc_len_one]; omega, by rw [enc_len_one]; push_cast; rfl, DD.out, by rw [enc_len_one]; exact OWN.out, X2.out⟩, by simp [intOf]; omega⟩
    · obtain ⟨q, cq, rfl, hrow, hnew⟩ := row_of_owns hown hd
      have hcond : o.length + 1 < l → ¬ o.length < 6 := fun a b => hr ⟨a, b⟩
      by_cases h1 : o.length + 1 < l
      · have h6 := hcond h1
        have D1 : decide (((o.length + 1 : Nat) : Int) < (l : Int)) = true := by rw [decide_eq_true_eq]; omega
        have D2 : decide (((o.length + 1 : Nat) : Int) < 7) = false := by rw [decide_eq_false_iff_not]; omega
        have hl0 : 0 < l := by omega
        have MK := Lib.hid (fun neg W (hW : Ext wr W) => r01_made neg o q o.length cq W (hrow.ext hW) rfl)
        have FT := Lib.hid (fun neg => mk_fit (neg := neg) hd ho)
        obtain ⟨b, oo, rfl, hb, hc⟩ := HZ2.2.2 hl0
        obtain ⟨z, hzb, hcz⟩ := hc 0 hl0
        rw [Nat.add_zero] at hcz
        obtain ⟨neg, NEG⟩ : ∃ neg : Bool, Hid ((z.tmod 2 != 0) = neg) := ⟨_, rfl⟩
        have DN : (z.tmod 2 != 0) = neg := NEG.out
        clear hc
        clear HZ2 hr hcond hd hrow hown hnew
        go_wp2_with fail
        refine (MK.out _ _ (by (repeat (first | exact Below.refl _ _ | assumption | refine Below.drewN ?_ _ | refine Below.drew ?_ | refine Below.setCell ?_ (by first | exact Nat.le_refl _ | (simp; done) | (simp; omega) | omega) _ | refine Below.alloc ?_ (by first | exact Nat.le_refl _ | (simp; done) | (simp; omega) | omega) _)))).mono ?_
        rintro e w5 ⟨n5, p5, l5, c5, rfl, hn5, hnew5, hx5⟩
        obtain ⟨X, FX, FR, FL⟩ := FT.out neg
        rw [FX] at hn5
        have hs5 := hx5.size
        have hx6 : Ext w w5 := Ext.step hx0 hx5
        have kc5 : ∀ j, w5.cell? ⟨w.heap.size, j, none⟩ = (w.alloc (.cells #[.bool false, .slice none 0 0] 26)).cell? ⟨w.heap.size, j, none⟩ := fun j => (hx5.cell (p := ⟨w.heap.size, j, none⟩) (by show w.heap.size < _; omega)).trans (kc j)
        have kf5 : ∀ j, w5.frozen? ⟨w.heap.size, j, none⟩ = (w.alloc (.cells #[.bool false, .slice none 0 0] 26)).frozen? ⟨w.heap.size, j, none⟩ := fun j => (hx5.frozen (p := ⟨w.heap.size, j, none⟩) (by show w.heap.size < _; omega)).trans (kf j)
        rw [FX]
        have HN := Lib.hid hn5
        have hwl : w.heap.size < w5.heap.size := by omega
        have k0 : w5.cell? ⟨w.heap.size, 0, none⟩ = some (.bool false) := (kc5 0).trans (by go_simp)
        have k1 : w5.cell? ⟨w.heap.size, 1, none⟩ = some (.slice none 0 0) := (kc5 1).trans (by go_simp)
        have k2 : ∀ j, w5.frozen? ⟨w.heap.size, j, none⟩ = false := fun j => (kf5 j).trans (by go_simp)
        clear kc kf kc5 kf5 hx hx5 FX
        go_wp2
        refine bodyPost_ret (v := .agg #[.bool n5, .slice p5 l5 c5]) (by simp only [results, Tryd.results10]; go_simp) rfl ?_
        refine ⟨n5, p5, l5, c5, X, rfl, ?_, FR, FL, by (repeat (first | exact Below.refl _ _ | assumption | refine Below.drewN ?_ _ | refine Below.drew ?_ | refine Below.setCell ?_ (by first | exact Nat.le_refl _ | (simp; done) | (simp; omega) | omega) _ | refine Below.alloc ?_ (by first | exact Nat.le_refl _ | (simp; done) | (simp; omega) | omega) _))⟩
        have hn5 := HN.out
        exact (by repeat (first | assumption | refine NR.set ?_ (by assumption) _ (by first | (simp; done) | (simp; omega) | omega) _ | refine NR.alloc ?_ _))
      · have D1 : decide (((o.length + 1 : Nat) : Int) < (l : Int)) = false := by rw [decide_eq_false_iff_not]; omega
        by_cases hl0 : 0 < l
        · skip
          have MK := Lib.hid (fun neg W (hW : Ext wr W) => r01_made neg o q o.length cq W (hrow.ext hW) rfl)
          have FT := Lib.hid (fun neg => mk_fit (neg := neg) hd ho)
          obtain ⟨b, oo, rfl, hb, hc⟩ := HZ2.2.2 hl0
          obtain ⟨z, hzb, hcz⟩ := hc 0 hl0
          rw [Nat.add_zero] at hcz
          obtain ⟨neg, NEG⟩ : ∃ neg : Bool, Hid ((z.tmod 2 != 0) = neg) := ⟨_, rfl⟩
          have DN : (z.tmod 2 != 0) = neg := NEG.out
          clear hc
          clear HZ2 hr hcond hd hrow hown hnew
          go_wp2_with fail
          refine (MK.out _ _ (by (repeat (first | exact Below.refl _ _ | assumption | refine Below.drewN ?_ _ | refine Below.drew ?_ | refine Below.setCell ?_ (by first | exact Nat.le_refl _ | (simp; done) | (simp; omega) | omega) _ | refine Below.alloc ?_ (by first | exact Nat.le_refl _ | (simp; done) | (simp; omega) | omega) _)))).mono ?_
          rintro e w5 ⟨n5, p5, l5, c5, rfl, hn5, hnew5, hx5⟩
          obtain ⟨X, FX, FR, FL⟩ := FT.out neg
          rw [FX] at hn5
          have hs5 := hx5.size
          have hx6 : Ext w w5 := Ext.step hx0 hx5
          have kc5 : ∀ j, w5.cell? ⟨w.heap.size, j, none⟩ = (w.alloc (.cells #[.bool false, .slice none 0 0] 26)).cell? ⟨w.heap.size, j, none⟩ := fun j => (hx5.cell (p := ⟨w.heap.size, j, none⟩) (by show w.heap.size < _; omega)).trans (kc j)
          have kf5 : ∀ j, w5.frozen? ⟨w.heap.size, j, none⟩ = (w.alloc (.cells #[.bool false, .slice none 0 0] 26)).frozen? ⟨w.heap.size, j, none⟩ := fun j => (hx5.frozen (p := ⟨w.heap.size, j, none⟩) (by show w.heap.size < _; omega)).trans (kf j)
          rw [FX]
          have HN := Lib.hid hn5
          have hwl : w.heap.size < w5.heap.size := by omega
          have k0 : w5.cell? ⟨w.heap.size, 0, none⟩ = some (.bool false) := (kc5 0).trans (by go_simp)
          have k1 : w5.cell? ⟨w.heap.size, 1, none⟩ = some (.slice none 0 0) := (kc5 1).trans (by go_simp)
          have k2 : ∀ j, w5.frozen? ⟨w.heap.size, j, none⟩ = false := fun j => (kf5 j).trans (by go_simp)
          clear kc kf kc5 kf5 hx hx5 FX
          go_wp2
          refine bodyPost_ret (v := .agg #[.bool n5, .slice p5 l5 c5]) (by simp only [results, Tryd.results10]; go_simp) rfl ?_
          refine ⟨n5, p5, l5, c5, X, rfl, ?_, FR, FL, by (repeat (first | exact Below.refl _ _ | assumption | refine Below.drewN ?_ _ | refine Below.drew ?_ | refine Below.setCell ?_ (by first | exact Nat.le_refl _ | (simp; done) | (simp; omega) | omega) _ | refine Below.alloc ?_ (by first | exact Nat.le_refl _ | (simp; done) | (simp; omega) | omega) _))⟩
          have hn5 := HN.out
          exact (by repeat (first | assumption | refine NR.set ?_ (by assumption) _ (by first | (simp; done) | (simp; omega) | omega) _ | refine NR.alloc ?_ _))
        · obtain rfl : l = 0 := by omega
          have MK := Lib.hid (fun neg W (hW : Ext wr W) => r01_made neg o q o.length cq W (hrow.ext hW) rfl)
          have FT := Lib.hid (fun neg => mk_fit (neg := neg) hd ho)
          obtain ⟨neg, NEG⟩ : ∃ neg : Bool, neg = false := ⟨_, rfl⟩
          subst NEG
          clear HZ2 hr hcond hd hrow hown hnew
          go_wp2_with fail
          refine (MK.out _ _ (by (repeat (first | exact Below.refl _ _ | assumption | refine Below.drewN ?_ _ | refine Below.drew ?_ | refine Below.setCell ?_ (by first | exact Nat.le_refl _ | (simp; done) | (simp; omega) | omega) _ | refine Below.alloc ?_ (by first | exact Nat.le_refl _ | (simp; done) | (simp; omega) | omega) _)))).mono ?_
          rintro e w5 ⟨n5, p5, l5, c5, rfl, hn5, hnew5, hx5⟩
          obtain ⟨X, FX, FR, FL⟩ := FT.out false
          rw [FX] at hn5
          have hs5 := hx5.size
          have hx6 : Ext w w5 := Ext.step hx0 hx5
          have kc5 : ∀ j, w5.cell? ⟨w.heap.size, j, none⟩ = (w.alloc (.cells #[.bool false, .slice none 0 0] 26)).cell? ⟨w.heap.size, j, none⟩ := fun j => (hx5.cell (p := ⟨w.heap.size, j, none⟩) (by show w.heap.size < _; omega)).trans (kc j)
          have kf5 : ∀ j, w5.frozen? ⟨w.heap.size, j, none⟩ = (w.alloc (.cells #[.bool false, .slice none 0 0] 26)).frozen? ⟨w.heap.size, j, none⟩ := fun j => (hx5.frozen (p := ⟨w.heap.size, j, none⟩) (by show w.heap.size < _; omega)).trans (kf j)
          rw [FX]
          have HN := Lib.hid hn5
          have hwl : w.heap.size < w5.heap.size := by omega
          have k0 : w5.cell? ⟨w.heap.size, 0, none⟩ = some (.bool false) := (kc5 0).trans (by go_simp)
          have k1 : w5.cell? ⟨w.heap.size, 1, none⟩ = some (.slice none 0 0) := (kc5 1).trans (by go_simp)
          have k2 : ∀ j, w5.frozen? ⟨w.heap.size, j, none⟩ = false := fun j => (kf5 j).trans (by go_simp)
          clear kc kf kc5 kf5 hx hx5 FX
          go_wp2
          refine bodyPost_ret (v := .agg #[.bool n5, .slice p5 l5 c5]) (by simp only [results, Tryd.results10]; go_simp) rfl ?_
          refine ⟨n5, p5, l5, c5, X, rfl, ?_, FR, FL, by (repeat (first | exact Below.refl _ _ | assumption | refine Below.drewN ?_ _ | refine Below.drew ?_ | refine Below.setCell ?_ (by first | exact Nat.le_refl _ | (simp; done) | (simp; omega) | omega) _ | refine Below.alloc ?_ (by first | exact Nat.le_refl _ | (simp; done) | (simp; omega) | omega) _))⟩
          have hn5 := HN.out
          exact (by repeat (first | assumption | refine NR.set ?_ (by assumption) _ (by first | (simp; done) | (simp; omega) | omega) _ | refine NR.alloc ?_ _))
end Go.Proofs.YtdaaknfmodbjcaaDoor

namespace Go.Proofs.YtdaaknfmodbjcaaDoor
open Go.RowKit

theorem row_one (W : World) (r B : Nat) (T : TypeId) (h1 : r < 4294967296) (hB : B = W.heap.size) : Row (W.alloc (.cells #[.int .u32 (r : Int)] T)) (some ⟨B, 0, none⟩) 1 [r] := by
  subst hB
  refine ⟨by simp, by omega, Dig.cons h1 Dig.nil, fun _ => ⟨_, 0, rfl, by simp, fun i hi' => ?_⟩⟩
  have h := heap_alloc_new W (.cells #[.int .u32 (r : Int)] T)
  rw [cell_of_row _ _ (0 + i) _ _ _ h]
  simp only [List.length_cons, List.length_nil] at hi'
  match i, hi' with
  | 0, _ => rfl
/-- Quotient and rest are returned. -/
def RetQR (w : World) (q r : List Nat) (e : Ending) (w' : World) : Prop :=
  ∃ p c p2 c2, e = .returned (.tuple #[.slice p q.length c, .slice p2 r.length c2]) ∧ Row w' p c q ∧ Row w' p2 c2 r ∧ Ext w w'
theorem val_one (x : Nat) : val [x] = x := by simp [val]
theorem cmpL_neg {a b : List Nat} (ha : Dig a) (hb : Dig b) (ta : Tight a) (tb : Tight b) : cmpL a b < 0 ↔ val a < val b := by
  rw [cmpL_tight ha hb ta tb]
  unfold cmpN
  (repeat' split) <;> omega
theorem tight_pos {b : List Nat} (tb : Tight b) (h : 0 < b.length) : 0 < val b := by
  rcases Nat.eq_zero_or_pos (val b) with h0 | h0
  · exfalso
    rcases List.eq_nil_or_concat b with rfl | ⟨c, x, rfl⟩
    · simp at h
    · have hx : x ≠ 0 := by have := tb (by simp); simpa using this
      rw [List.concat_eq_append, val_append, val_one] at h0
      have h1 : 0 < 4294967296 ^ c.length := Nat.pow_pos (by omega)
      have h2 := Nat.mul_pos h1 (show 0 < x by omega)
      omega
  · exact h0

set_option maxRecDepth 100000 in
set_option maxHeartbeats 2000000 in
theorem num_divide_less (a b : List Nat) (pa pb : Option Addr) (la ca lb cb : Nat) (w : World) (ha : Row w pa ca a) (hb : Row w pb cb b) (hla : la = a.length) (hlb : lb = b.length) (ta : Tight a) (tb : Tight b)
    (hlt : val a < val b) : Calls Tryd.prog 27 #[.slice pa la ca, .slice pb lb cb] w (RetQR w (digs (val a / val b)) (digs (val a % val b))) := by
  have hc : decide (cmpL a b < 0) = true := by simpa using (cmpL_neg ha.dig hb.dig ta tb).2 hlt
  have CP := Lib.hid (fun w' (hx : Ext w w') => num_compare a b pa pb la ca lb cb w' (ha.ext hx) (hb.ext hx) hla hlb)
  rw [Nat.div_eq_of_lt hlt, Nat.mod_eq_of_lt hlt, digs_zero, digs_val ha.dig ta]
  subst hla hlb
  go_enter Tryd.func27, Tryd.ntmps27
  go_wp2_with fail
  refine (CP.out _ (by (repeat (first | exact Below.refl _ _ | assumption | refine Below.drewN ?_ _ | refine Below.drew ?_ | refine Below.setCell ?_ (by first | exact Nat.le_refl _ | (simp; done) | (simp; omega) | omega) _ | refine Below.alloc ?_ (by first | exact Nat.le_refl _ | (simp; done) | (simp; omega) | omega) _)))).mono ?_
  rintro e w1 ⟨rfl, hx⟩
  go_wp2
  go_ret2
  exact ⟨none, 0, pa, ca, rfl, Row.nil _, ha.ext hx, hx⟩

set_option maxRecDepth 100000 in
set_option maxHeartbeats 2000000 in
theorem num_divide_one (a : List Nat) (x : Nat) (pa pb : Option Addr) (la ca lb cb : Nat) (w : World) (ha : Row w pa ca a) (hb : Row w pb cb [x]) (hla : la = a.length) (hlb : lb = 1) (ta : Tight a) (hx0 : 0 < x)
    (h64 : a.length ≤ 1000) (hge : x ≤ val a) : Calls Tryd.prog 27 #[.slice pa la ca, .slice pb lb cb] w (RetQR w (digs (val a / x)) (digs (val a % x))) := by
  have tb : Tight [x] := by intro h; simp; omega
  have hxd : x < 4294967296 := hb.dig.head
  have hc : decide (cmpL a [x] < 0) = false := by
    rw [decide_eq_false_iff_not, cmpL_neg ha.dig hb.dig ta tb, val_one]
    omega
  have CP := Lib.hid (fun w' (hx : Ext w w') => num_compare a [x] pa pb la ca lb cb w' (ha.ext hx) (hb.ext hx) hla hlb)
  have SH := Lib.hid (fun w' (hx : Ext w w') => num_short a pa la ca x w' (ha.ext hx) hla hx0 hxd h64)
  obtain ⟨bb, ob, rfl, hbb, hcb⟩ := hb.at (by simp)
  have hc0 := hcb 0 (by simp)
  simp only [List.getElem?_cons_zero, Option.getD_some, Nat.add_zero] at hc0
  have hr : val a % x < x := Nat.mod_lt _ hx0
  obtain ⟨r, R⟩ : ∃ r, Hid (val a % x = r) := ⟨_, rfl⟩
  rw [R.out] at hr SH ⊢
  subst hla hlb
  have hcb1 := hb.le
  have hcb2 := hb.max
  have hla := ha.le
  have hma := ha.max
  clear hcb hge ta tb
  go_enter Tryd.func27, Tryd.ntmps27
  go_wp2_with fail
  refine (CP.out _ (by (repeat (first | exact Below.refl _ _ | assumption | refine Below.drewN ?_ _ | refine Below.drew ?_ | refine Below.setCell ?_ (by first | exact Nat.le_refl _ | (simp; done) | (simp; omega) | omega) _ | refine Below.alloc ?_ (by first | exact Nat.le_refl _ | (simp; done) | (simp; omega) | omega) _)))).mono ?_
  rintro e w1 ⟨rfl, hx1⟩
  have hc1 : w1.cell? ⟨bb, ob, none⟩ = some (.int .u32 (x : Int)) := (hx1.cell (p := ⟨bb, ob, none⟩) hbb).trans hc0
  go_wp2_with fail
  refine (SH.out _ hx1).mono ?_
  rintro e w2 ⟨p, c, rfl, hq, _, hx2⟩
  have hx3 : Ext w w2 := Ext.step hx1 hx2
  go_wp2_with fail
  have T := Lib.hid (show trim [r] = digs r by unfold trim; rw [val_one])
  refine (num_trim [r] _ _ _ _ (row_one _ _ _ _ (by omega) rfl) rfl).mono ?_
  rintro e w3 ⟨rfl, hr2, hx4⟩
  rw [T.out] at hr2 ⊢
  have hx5 : Ext w w3 := Ext.step (hx3.alloc hx3.size _) hx4
  have hq2 := hq.ext (Below.trans ((Below.refl w2.heap.size w2).alloc (Nat.le_refl _) _) (hx4.mono (by simp)))
  go_wp2
  go_ret2
  exact ⟨p, c, _, _, rfl, hq2, hr2, hx5⟩
end Go.Proofs.YtdaaknfmodbjcaaDoor
