/- Plain: the binary greatest common divisor. | Contract: etchantref01.half. -/
import Derived.Test.YtdaaknfmodbjcaaDoorJ11
import Derived.Test.YtdaaknfmodbjcaaDoorJ20
import Derived.Test.YtdaaknfmodbjcaaDoorJ12
import Derived.StillTailTactics
import Derived.Deep.DeepCutAuto
set_option linter.unusedVariables false
set_option linter.unusedSimpArgs false

namespace Go.Proofs.YtdaaknfmodbjcaaDoor
open Go.RowKit

theorem val_even (d : List Nat) : val d % 2 = d[0]?.getD 0 % 2 := by
  cases d with
  | nil => rfl
  | cons x t => rw [val]; simp only [List.getElem?_cons_zero, Option.getD_some]; omega
theorem gcd_half_left {x y : Nat} (hx : x % 2 = 0) (hy : y % 2 = 1) : Nat.gcd (x / 2) y = Nat.gcd x y := by
  have hc : Nat.Coprime 2 y := by rw [Nat.Coprime, Nat.gcd_rec, hy]; rfl
  have := Nat.Coprime.gcd_mul_left_cancel (x / 2) hc
  rw [← this, show 2 * (x / 2) = x by omega]
theorem gcd_half_right {x y : Nat} (hx : x % 2 = 1) (hy : y % 2 = 0) : Nat.gcd x (y / 2) = Nat.gcd x y := by
  rw [Nat.gcd_comm, gcd_half_left hy hx, Nat.gcd_comm]
theorem gcd_half_both {x y : Nat} (hx : x % 2 = 0) (hy : y % 2 = 0) : Nat.gcd x y = 2 * Nat.gcd (x / 2) (y / 2) := by
  have := Nat.gcd_mul_left 2 (x / 2) (y / 2)
  rw [← this, show 2 * (x / 2) = x by omega, show 2 * (y / 2) = y by omega]
theorem gcd_minus {x y : Nat} (h : y ≤ x) : Nat.gcd (x - y) y = Nat.gcd x y := Nat.gcd_sub_self_left h
/-- The first loop: t twos are out. -/
def TwoInv (A B x y t : Nat) : Prop := 2 ^ t * Nat.gcd x y = Nat.gcd A B ∧ 0 < x ∧ 0 < y ∧ 2 ^ t * x ≤ A ∧ 2 ^ t * y ≤ B
theorem two_start {A B : Nat} (ha : 0 < A) (hb : 0 < B) : TwoInv A B A B 0 := by simp [TwoInv, ha, hb]
theorem two_step {A B x y t : Nat} (h : TwoInv A B x y t) (hx : x % 2 = 0) (hy : y % 2 = 0) : TwoInv A B (x / 2) (y / 2) (t + 1) := by
  obtain ⟨h1, h2, h3, h4, h5⟩ := h
  have e (z : Nat) (hz : z % 2 = 0) : 2 ^ (t + 1) * (z / 2) = 2 ^ t * z := by rw [Nat.pow_succ, Nat.mul_assoc, show 2 * (z / 2) = z by omega]
  refine ⟨?_, by omega, by omega, by rw [e x hx]; exact h4, by rw [e y hy]; exact h5⟩
  rw [← h1, gcd_half_both hx hy, Nat.pow_succ, Nat.mul_assoc]
theorem pow_eG (k : Nat) {E : Nat} (h : 32 * k = E) : (4294967296 : Nat) ^ k = 2 ^ E := by
  subst h
  rw [Nat.pow_mul]
theorem two_small {A B x y t : Nat} (h : TwoInv A B x y t) (hA : A < 4294967296 ^ 64) : t < 2048 := by
  obtain ⟨_, h2, _, h4, _⟩ := h
  refine Nat.lt_of_not_le fun ht => ?_
  obtain ⟨E, hE⟩ : ∃ E, 32 * 64 = E := ⟨_, rfl⟩
  have e : (4294967296 : Nat) ^ 64 = 2 ^ E := pow_eG 64 hE
  rw [e] at hA
  have h5 : 2 ^ E ≤ 2 ^ t := Nat.pow_le_pow_right (by decide) (by omega)
  have h6 : 2 ^ t ≤ 2 ^ t * x := Nat.le_mul_of_pos_right _ h2
  exact Nat.lt_irrefl _ (Nat.lt_of_le_of_lt (Nat.le_trans h5 (Nat.le_trans h6 h4)) hA)
/-- The main loop. -/
def GInv (g x y : Nat) : Prop := Nat.gcd x y = g ∧ 0 < y ∧ (x % 2 = 1 ∨ y % 2 = 1)
theorem g_left {g x y : Nat} (h : GInv g x y) (hx : x % 2 = 0) : GInv g (x / 2) y := by
  obtain ⟨h1, h2, h3⟩ := h
  have hy : y % 2 = 1 := by omega
  exact ⟨by rw [gcd_half_left hx hy, h1], h2, .inr hy⟩
theorem g_right {g x y : Nat} (h : GInv g x y) (hx : x % 2 = 1) (hy : y % 2 = 0) : GInv g x (y / 2) := by
  obtain ⟨h1, h2, h3⟩ := h
  exact ⟨by rw [gcd_half_right hx hy, h1], by omega, .inl hx⟩
theorem g_minus {g x y : Nat} (h : GInv g x y) (hx : x % 2 = 1) (hy : y % 2 = 1) (hle : y ≤ x) : GInv g (x - y) y := by
  obtain ⟨h1, h2, h3⟩ := h
  exact ⟨by rw [gcd_minus hle, h1], h2, .inr hy⟩
theorem g_swap {g x y : Nat} (h : GInv g x y) (hx : 0 < x) : GInv g y x := by
  obtain ⟨h1, h2, h3⟩ := h
  exact ⟨by rw [Nat.gcd_comm, h1], hx, h3.symm⟩
theorem g_end {g y : Nat} (h : GInv g 0 y) : y = g := by rw [← h.1, Nat.gcd_zero_left]
end Go.Proofs.YtdaaknfmodbjcaaDoor

namespace Go.Proofs.YtdaaknfmodbjcaaDoor
open Go.RowKit

theorem half_digit (x0 x1 : Nat) (h0 : x0 < 4294967296) : (x1 * 4294967296 + x0) / 2 % 4294967296 = 2147483648 * (x1 % 2) + x0 / 2 := by omega
theorem half_or (x0 x1 : Nat) (h0 : x0 < 4294967296) : bits .or .u32 ((x0 / 2 : Nat) : Int) ((x1 : Int) * 2147483648 % 4294967296) = ((2147483648 * (x1 % 2) + x0 / 2 : Nat) : Int) := by
  have e : (x1 : Int) * 2147483648 % 4294967296 = ((2147483648 * (x1 % 2) : Nat) : Int) := by omega
  rw [e, u32_or_nat (x0 / 2) (2147483648 * (x1 % 2)) (by omega) (by omega), Nat.or_comm, or_mul 2147483648 (x1 % 2) (x0 / 2) 31 (by decide) (by omega)]
theorem half_end {a o : List Nat} (h : ShrInv 2 a o) (hl : o.length = a.length) : val o = val a / 2 := by
  obtain ⟨_, h2⟩ := h
  rw [hl, List.take_of_length_le (Nat.le_refl a.length), List.getElem?_eq_none (Nat.le_refl _)] at h2
  simp only [Option.getD_none, Nat.zero_mod, Nat.mul_zero, Nat.add_zero] at h2
  omega

set_option maxRecDepth 100000 in
set_option maxHeartbeats 4000000 in
theorem r01_half (a : List Nat) (pa : Option Addr) (la ca : Nat) (w : World) (ha : Row w pa ca a) (hla : la = a.length) (h0 : 0 < a.length) (h64 : a.length ≤ 900) :
    Calls Tryd.prog 35 #[.slice pa la ca] w (RetDigs w (val a / 2)) := by
  subst hla
  obtain ⟨i, hi, hz0, hz1, hz2⟩ := info_parts info32
  have hla := ha.le
  have hma := ha.max
  obtain ⟨b, o, rfl, hb, hc⟩ := ha.at h0
  have Hc := Lib.hid hc
  have R := Lib.hid ha
  have hdig := ha.dig
  clear hc ha
  go_enter Tryd.func35, Tryd.ntmps35
  go_wp2_with (at_builtin; refine wpList_append_own _ rfl _ _ 24 rfl w.heap.size 48 i (.int .u32 0) 1 4 Tryd.underlying24 hi hz0 hz1 hz2 rfl (by decide) _ _ _ rfl (World.ownsRow_made w #[] 0 (Nat.le_refl _) (by decide) rfl) ⟨b, o, none⟩ a.length ca (enc a) rfl (by simp [enc]) ?c2 (enc_one a) ?c3 ?c4 ?c5 ?_)
  case c2 => exact row_news (fun i hi => (cell_later ((Below.refl _ _).alloc (Nat.le_refl _) _) (Hc.out i hi)))
  case c3 => unfold maxLen; omega
  case c4 => omega
  case c5 => simp
  intro v' w2 hown hgr _
  have hown2 : w2.ownsRow w.heap.size 48 1 v' a.length (enc a) := by simpa using hown
  have hx2 : Ext w w2 := ((Below.refl _ _).alloc (Nat.le_refl _) _).grown hgr (by simp) (fun k hk => by simp [Value.ownBlock] at hk; omega)
  obtain ⟨g, cg, rfl, hBg⟩ : ∃ g cg, v' = .slice (some ⟨g, 0, none⟩) a.length cg ∧ w.heap.size ≤ g := by
    rcases hown2.2 with ⟨_, h⟩ | ⟨g, cap, cur, h1, h2, _⟩
    · omega
    · exact ⟨g, cap, h1, h2⟩
  have eNn : (enc a).length = a.length := enc_length a
  have hown0 : w2.ownsRow w.heap.size 48 1 (.slice (some ⟨g, 0, none⟩) a.length cg) a.length (enc ([] ++ ([] ++ a.drop 0))) := by simpa using hown2
  clear hown hown2 hgr
  go_wp2_with fail
  go_loopw [4] (fun k wr => ∃ (o' : List Nat), o'.length ≤ a.length ∧ k = .int .i64 (o'.length : Int) ∧ ShrInv 2 a o' ∧ wr.ownsRow w.heap.size 48 1 (.slice (some ⟨g, 0, none⟩) a.length cg) a.length (enc ([] ++ (o' ++ a.drop o'.length))) ∧ Ext w wr) (fun k _ => a.length - (intOf k).toNat)
  case atStart => exact ⟨[], Nat.zero_le _, rfl, shr_start (s := 2) (e := 2147483648) rfl a h0, hown0, hx2⟩
  case round =>
    clear hown0 hx2
    obtain ⟨o', ho, rfl, hinv, hown, hx⟩ := hrel
    by_cases hlt : o'.length < a.length
    · rw [drop_at hlt] at hown
      have hd0 := hdig.getD o'.length
      rw [List.getD_eq_getElem?_getD] at hd0
      have STEP := fun x1 (h1 : a[o'.length + 1]?.getD 0 = x1) => shr_step (s := 2) (e := 2147483648) rfl hinv rfl h1 hd0
      obtain ⟨x0, X0⟩ : ∃ x, Hid (a[o'.length]?.getD 0 = x) := ⟨_, rfl⟩
      rw [X0.out] at hown hd0
      simp only [X0.out] at STEP
      have hcx := own_at (i := o'.length) hown (by simp)
      have hfx := hown.frozenAt o'.length
      obtain ⟨y0, Y0⟩ : ∃ y, Hid (x0 / 2 = y) := ⟨_, rfl⟩
      have D0 : (x0 : Int) / 2 = (y0 : Int) := by have := Y0.out; omega
      have hown1 := own_put (i := o'.length) hown (by simp) y0
      by_cases hl2 : o'.length + 1 < a.length
      · have hx5 : Ext w (wr.setCell ⟨g, o'.length, none⟩ (.int .u32 (y0 : Int))) := Below.setCell hx hBg _
        obtain ⟨b2, o2, hp2, hb2, hca⟩ := (R.out.ext hx5).at h0
        have hc1 := hca (o'.length + 1) hl2
        obtain ⟨x1, X1⟩ : ∃ x, Hid (a[o'.length + 1]?.getD 0 = x) := ⟨_, rfl⟩
        rw [X1.out] at hc1
        have hq : b2 = b ∧ o2 = o := by
          have := congrArg (fun x => x.map (fun y => (y.block, y.off))) hp2
          simp at this
          exact ⟨this.1.symm, this.2.symm⟩
        rw [hq.1, hq.2] at hc1
        clear hca hq hp2 hb2
        have S := STEP x1 X1.out
        rw [half_digit x0 x1 hd0] at S
        have OR := half_or x0 x1 hd0
        rw [Y0.out] at OR S
        obtain ⟨y, Y⟩ : ∃ y, Hid (2147483648 * (x1 % 2) + y0 = y) := ⟨_, rfl⟩
        rw [Y.out] at OR S
        rw [List.append_assoc o' [y0], List.singleton_append] at hown1
        have SS := Lib.hid S
        clear S STEP hinv
        go_upto_region 7 with (fail)
        generalize hW5 : wr.setCell ⟨g, o'.length, none⟩ (.int .u32 (y0 : Int)) = w5 at hx5 hown1 hc1 ⊢
        have hcy := own_at (i := o'.length) hown1 (by simp)
        have hfy := hown1.frozenAt o'.length
        have hown5 := own_put (w := w5.drew) (i := o'.length) hown1 (by simp) y
        have OWN := Lib.hid hown5
        have X5 : Hid (Ext w (w5.drew.setCell ⟨g, o'.length, none⟩ (.int .u32 (y : Int)))) := (Below.drew hx5).setCell hBg _
        clear hown hown1 hown5 hx hx5 hcx hfx hW5
        have hI1 : (o'.length : Int) < (a.length : Int) := by omega
        have hI2 : (0 : Int) ≤ (o'.length : Int) := by omega
        have hI3 : (o'.length : Int) + 1 < (a.length : Int) := by omega
        have hI4 : (0 : Int) ≤ (o'.length : Int) + 1 := by omega
        have hI5 : IntKind.i64.wrap ((o'.length : Int) + 1) = (o'.length : Int) + 1 := IntWalk.i64_in _ (by omega)
        have hI6 : ((o'.length : Int) + 1).toNat = o'.length + 1 := by omega
        go_still_tail 14, (by kernel_rfl)
        go_wp2
        refine ⟨⟨o' ++ [y], by rw [List.length_append, List.length_singleton]; omega, by rw [List.length_append, List.length_singleton]; push_cast; rfl, SS.out, ?_, X5.out⟩, by simp [intOf]; omega⟩
        rw [List.length_append, List.length_singleton]
        exact OWN.out
      · have hx5 : Ext w (wr.setCell ⟨g, o'.length, none⟩ (.int .u32 (y0 : Int))) := Below.setCell hx hBg _
        have S := STEP 0 (by rw [List.getElem?_eq_none (by omega)]; rfl)
        rw [half_digit x0 0 hd0, Y0.out, show 2147483648 * (0 % 2) + y0 = y0 by omega] at S
        have SS := Lib.hid S
        have OWN := Lib.hid hown1
        have X5 := Lib.hid hx5
        clear S STEP hinv hown hown1 hx hx5
        go_wp2
        refine ⟨⟨o' ++ [y0], by rw [List.length_append, List.length_singleton]; omega, by rw [List.length_append, List.length_singleton]; push_cast; rfl, SS.out, ?_, X5.out⟩, by simp [intOf]; omega⟩
        rw [List.length_append, List.length_singleton]
        exact OWN.out
    · have hol : o'.length = a.length := by omega
      have END := Lib.hid (half_end hinv hol)
      have DO := Lib.hid hinv.1
      rw [hol, List.drop_of_length_le (Nat.le_refl _), List.append_nil, List.nil_append] at hown
      obtain ⟨p', c', hv', hrow, hnew⟩ := row_of_owns hown DO.out
      obtain ⟨rfl, rfl⟩ : some (⟨g, 0, none⟩ : Addr) = p' ∧ cg = c' := by
        simp only [Value.slice.injEq] at hv'
        exact ⟨hv'.1, hv'.2.2⟩
      have ROW := Lib.hid hrow
      clear hinv hown hv' hrow
      rw [hol]
      go_wp2_with fail
      refine (r01_trim o' _ _ _ _ ROW.out hol.symm).mono ?_
      rintro e w4 ⟨rfl, hrow1, hx6⟩
      have hx7 : Ext w w4 := Ext.step hx hx6
      have T : trim o' = digs (val a / 2) := by rw [← END.out]; rfl
      go_wp2
      go_ret
      rw [T] at hrow1
      exact ⟨_, cg, rfl, hrow1, hnew, hx7⟩
end Go.Proofs.YtdaaknfmodbjcaaDoor
