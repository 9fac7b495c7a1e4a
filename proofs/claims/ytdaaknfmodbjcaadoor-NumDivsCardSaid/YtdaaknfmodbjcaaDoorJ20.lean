/- Contract: num.reduce. | Contract: num.divide by a divisor of two digits or more. -/
import Derived.Test.YtdaaknfmodbjcaaDoorJ19
import Derived.Test.YtdaaknfmodbjcaaDoorJ11
import Derived.Test.YtdaaknfmodbjcaaDoorJ12
import Derived.Test.YtdaaknfmodbjcaaDoorShelf
import Derived.StillTailTactics
import Derived.BigRegion
set_option linter.unusedVariables false
set_option linter.unusedSimpArgs false

namespace Go.Proofs.YtdaaknfmodbjcaaDoor
open Go.RowKit

theorem own_at {w : World} {B e g N c : Nat} {pre o z : List Nat} {x i : Nat} (h : w.ownsRow B e 1 (.slice (some ⟨g, 0, none⟩) N c) N (enc (pre ++ (o ++ x :: z)))) (hi : i = pre.length + o.length) : w.cell? ⟨g, i, none⟩ = some (.int .u32 (x : Int)) := by
  have hl := own_len h
  subst hi
  simp only [List.length_append, List.length_cons] at hl
  rw [h.cellAt _ (by omega), enc_get _ _ (by simp), ← List.append_assoc, List.getElem?_append_right (by simp)]
  simp
theorem own_put {w : World} {B e g N c : Nat} {pre o z : List Nat} {x i : Nat} (h : w.ownsRow B e 1 (.slice (some ⟨g, 0, none⟩) N c) N (enc (pre ++ (o ++ x :: z)))) (hi : i = pre.length + o.length) (y : Nat) :
    (w.setCell ⟨g, i, none⟩ (.int .u32 (y : Int))).ownsRow B e 1 (.slice (some ⟨g, 0, none⟩) N c) N (enc (pre ++ ((o ++ [y]) ++ z))) := by
  subst hi
  obtain ⟨h3, _⟩ := h.stored (pre.length + o.length) (.int .u32 (y : Int))
  have e : (enc (pre ++ (o ++ x :: z))).set (pre.length + o.length) (.int .u32 (y : Int)) = enc (pre ++ ((o ++ [y]) ++ z)) := by
    have := enc_mid (pre ++ o) z y x
    rw [List.length_append, List.append_assoc, List.append_assoc, List.append_assoc] at this
    rw [this, List.append_assoc]
  rw [e] at h3
  exact h3
theorem drop_at {d : List Nat} {k : Nat} (h : k < d.length) : d.drop k = d[k]?.getD 0 :: d.drop (k + 1) := by rw [List.drop_eq_getElem_cons h, getD_eq h]
theorem and_low (t : Nat) (ht : t < 18446744073709551616) : bits .and .u64 (t : Int) 4294967295 = ((t % 4294967296 : Nat) : Int) := by
  have := u64_and_nat t 4294967295 ht (by omega)
  rw [show ((4294967295 : Nat) : Int) = 4294967295 from rfl] at this
  rw [this, show (4294967295 : Nat) = 2 ^ 32 - 1 from rfl, Nat.and_two_pow_sub_one_eq_mod]
theorem u64w (n : Int) : IntKind.u64.wrap n = n % 18446744073709551616 := by simp [IntKind.wrap, IntKind.signed, IntKind.bits]
/-- Two borrows in a row, as the machine counts. -/
theorem minus_two (x a b : Nat) (hx : x < 4294967296) (ha : a < 4294967296) (hb : b ≤ 1) : ∃ y1 y2 : Nat, IntKind.u64.wrap ((x : Int) - (a : Int)) = (y1 : Int) ∧ IntKind.u64.wrap ((y1 : Int) - (b : Int)) = (y2 : Int) ∧
    (y2 : Int) % 4294967296 = (((x + 8589934592 - a - b) % 4294967296 : Nat) : Int) ∧ (y2 : Int) / 9223372036854775808 = ((if x < a + b then 1 else 0 : Nat) : Int) ∧ (a + b ≤ x → y2 = x - a - b) := by
  refine ⟨if a ≤ x then x - a else x + 18446744073709551616 - a, if a + b ≤ x then x - a - b else x + 18446744073709551616 - a - b, ?_, ?_, ?_, ?_, ?_⟩
  · rw [u64w]; split <;> omega
  · rw [u64w]; split <;> split <;> omega
  · split <;> omega
  · split <;> split <;> omega
  · intro h; rw [if_pos h]

set_option maxRecDepth 100000 in
set_option maxHeartbeats 8000000 in
theorem num_reduce (pre part post v : List Nat) (g K N n cu cv B q : Nat) (pv : Option Addr) (w : World) (hown : w.ownsRow B 48 1 (.slice (some ⟨g, 0, none⟩) N N) N (enc (pre ++ (part ++ post)))) (hK : pre.length = K) (hp : part.length = n + 1) (hvl : v.length = n)
    (hv : Row w pv cv v) (hne : ∀ x, pv = some x → x.block ≠ g) (dp : Dig part) (hn : 0 < n) (hn2 : n ≤ 1000) (hcu : n + 1 ≤ cu) (hcu2 : cu ≤ 9223372036854775807) (hV : 0 < val v) (hq : q < 4294967296) (hq1 : val part / val v ≤ q) (hq2 : q ≤ val part / val v + 1) :
    Calls Tryd.prog 49 #[.slice (some ⟨g, K, none⟩) (n + 1) cu, .slice pv n cv, .int .u64 (q : Int)] w fun e w' =>
      ∃ part' : List Nat, part'.length = n + 1 ∧ Dig part' ∧ val part' = val part % val v ∧ e = .returned (.int .u32 ((val part / val v : Nat) : Int)) ∧
        w'.ownsRow B 48 1 (.slice (some ⟨g, 0, none⟩) N N) N (enc (pre ++ (part' ++ post))) ∧ w.grownBy w' (some g) := by
  have lv0 := hv.le
  have lv1 := hv.max
  have hgw : g < w.heap.size := (hown.lt g rfl).2
  have DV := Lib.hid hv.dig
  have DP := Lib.hid dp
  have HV := Lib.hid hv
  have HNE := Lib.hid hne
  have HPL := Lib.hid hp
  have HVL := Lib.hid hvl
  clear hv hne dp
  have hown0 : w.ownsRow B 48 1 (.slice (some ⟨g, 0, none⟩) N N) N (enc (pre ++ ([] ++ (part.drop 0 ++ post)))) := by rw [List.drop_zero]; exact hown
  go_enter Tryd.func49, Tryd.ntmps49
  go_wp2_with fail
  go_loopw [7, 8, 17] (fun cs bs k wr => ∃ (o : List Nat) (c b : Nat), o.length ≤ n ∧ cs = .int .u64 (c : Int) ∧ bs = .int .u64 (b : Int) ∧ k = .int .i64 (o.length : Int) ∧ RedInv q part v o c b ∧ wr.ownsRow B 48 1 (.slice (some ⟨g, 0, none⟩) N N) N (enc (pre ++ (o ++ (part.drop o.length ++ post)))) ∧ w.grownBy wr (some g)) (fun _ _ k _ => n - (intOf k).toNat)
  case atStart => exact ⟨[], 0, 0, Nat.zero_le _, rfl, rfl, rfl, ⟨Dig.nil, Nat.zero_le _, Nat.zero_le _, by simp [val]⟩, hown0, ⟨rfl, rfl, rfl, Nat.le_refl _, fun _ _ _ => rfl⟩⟩
  case round =>
    clear hown hown0
    obtain ⟨o, c, b, ho, rfl, rfl, rfl, hinv, hown, hgr⟩ := hrel
    by_cases hlt : o.length < n
    · have hvr := HV.out.grown (fun _ => HNE.out) hgr
      obtain ⟨bv, ov, rfl, hbv, hcv⟩ := hvr.at (by omega)
      have hc1 := hcv o.length (by omega)
      have hdd := DV.out.getD o.length
      have hxx := DP.out.getD o.length
      rw [List.getD_eq_getElem?_getD] at hdd hxx
      rw [drop_at (show o.length < part.length by omega), List.cons_append] at hown
      obtain ⟨d, D⟩ : ∃ x, Hid (v[o.length]?.getD 0 = x) := ⟨_, rfl⟩
      obtain ⟨x, X⟩ : ∃ x, Hid (part[o.length]?.getD 0 = x) := ⟨_, rfl⟩
      rw [D.out] at hc1 hdd
      rw [X.out] at hown hxx
      have hcx := own_at (i := K + o.length) hown (by omega)
      have hfx := hown.frozenAt (K + o.length)
      obtain ⟨STEP, hT⟩ := red_step hq hinv X.out D.out hdd hxx
      have hc := hinv.2.1
      have hb := hinv.2.2.1
      have QD : (q : Int) * (d : Int) = ((q * d : Nat) : Int) := by push_cast; rfl
      obtain ⟨t, T⟩ : ∃ t, Hid (q * d = t) := ⟨_, rfl⟩
      rw [T.out] at QD STEP hT
      have CT : (c : Int) + (t : Int) = ((c + t : Nat) : Int) := by omega
      obtain ⟨u, HU⟩ : ∃ u, Hid (c + t = u) := ⟨_, rfl⟩
      rw [HU.out] at CT STEP hT
      have htu : t < 18446744073709551616 := by have := HU.out; omega
      have AN := and_low u hT
      have hlo : u % 4294967296 < 4294967296 := Nat.mod_lt _ (by omega)
      obtain ⟨lo, LO⟩ : ∃ lo, Hid (u % 4294967296 = lo) := ⟨_, rfl⟩
      rw [LO.out] at AN STEP hlo
      obtain ⟨y1, y2, M1, M2, M3, M4, _⟩ := minus_two x lo b hxx hlo hb
      obtain ⟨y, Y⟩ : ∃ y, Hid ((x + 8589934592 - lo - b) % 4294967296 = y) := ⟨_, rfl⟩
      obtain ⟨b', B'⟩ : ∃ b' : Nat, Hid ((if x < lo + b then (1 : Nat) else 0) = b') := ⟨_, rfl⟩
      rw [Y.out] at M3 STEP
      rw [B'.out] at M4 STEP
      obtain ⟨c', C'⟩ : ∃ c', Hid (u / 4294967296 = c') := ⟨_, rfl⟩
      rw [C'.out] at STEP
      have UC : (u : Int) / 4294967296 = (c' : Int) := by have := C'.out; omega
      have OWN := Lib.hid (own_put (i := K + o.length) hown (by omega) y)
      have G3 := Lib.hid (grownBy_trans hgr (grownBy_setCell wr ⟨g, K + o.length, none⟩ (.int .u32 (y : Int))))
      have SS := Lib.hid STEP
      clear hown hgr hvr hcv STEP hinv
      go_wp2
      refine ⟨⟨o ++ [y], c', b', by rw [List.length_append, List.length_singleton]; omega, rfl, rfl, by rw [List.length_append, List.length_singleton]; push_cast; rfl, SS.out, ?_, G3.out⟩, by simp [intOf]; omega⟩
      rw [List.length_append, List.length_singleton]
      exact OWN.out
    · have hol : o.length = n := by omega
      have hpl : part.length = n + 1 := HPL.out
      rw [hol, drop_at (show n < part.length by omega), List.drop_of_length_le (show part.length ≤ n + 1 by omega), List.cons_append, List.nil_append] at hown
      have hxx := DP.out.getD n
      rw [List.getD_eq_getElem?_getD] at hxx
      obtain ⟨x, X⟩ : ∃ x, Hid (part[n]?.getD 0 = x) := ⟨_, rfl⟩
      rw [X.out] at hown hxx
      have hcx := own_at (i := K + n) hown (by omega)
      have hfx := hown.frozenAt (K + n)
      have hc := hinv.2.1
      have hb := hinv.2.2.1
      obtain ⟨y1, y2, M1, M2, M3, M4, M5⟩ := minus_two x c b hxx (by omega) hb
      by_cases hle : c + b ≤ x
      · -- nothing is to be put back
        have hy2 := M5 hle
        have E := red_keep (x := x) hinv (hol.trans HVL.out.symm) (by rw [HVL.out]; exact hpl) (by rw [HVL.out]; exact X.out) hle
        obtain ⟨Q1, Q2⟩ := quot_of hV E hq1
        have hyb : x - c - b < 4294967296 := by omega
        have hD := hinv.1.append (Dig.cons hyb Dig.nil)
        rw [← hy2] at Q2 hyb hD
        have R3 : (y2 : Int) % 4294967296 = (y2 : Int) := by omega
        have R4 : (y2 : Int) / 9223372036854775808 = 0 := by omega
        have R5 : (q : Int) % 4294967296 = (q : Int) := by omega
        have OWN := Lib.hid (own_put (i := K + n) hown (by omega) y2)
        have G3 := Lib.hid (grownBy_trans hgr (grownBy_setCell wr ⟨g, K + n, none⟩ (.int .u32 (y2 : Int))))
        have HQ1 := Lib.hid Q1
        have HQ2 := Lib.hid Q2
        have HD := Lib.hid hD
        clear hown hgr hinv M3 M4 M5 E Q1 Q2 hD hy2
        go_wp2
        go_ret
        refine ⟨o ++ [y2], by rw [List.length_append, List.length_singleton, hol], HD.out, HQ2.out, by rw [← HQ1.out]; rfl, ?_, G3.out⟩
        have := OWN.out
        exact this
      · have E := red_borrow (x := x) hinv hq (hol.trans HVL.out.symm) (by rw [HVL.out]; exact hpl) (by rw [HVL.out]; exact X.out) (by omega)
        have hye : (x + 8589934592 - c - b) % 4294967296 = x + 4294967296 - c - b := by omega
        obtain ⟨y, Y⟩ : ∃ y, Hid (x + 4294967296 - c - b = y) := ⟨_, rfl⟩
        rw [hye, Y.out] at M3
        rw [Y.out] at E
        have hyb : y < 4294967296 := by have := Y.out; omega
        rw [if_pos (show x < c + b by omega)] at M4
        have R4 : (y2 : Int) / 9223372036854775808 = 1 := M4
        have DO := Lib.hid hinv.1
        have EE := Lib.hid E
        have hown1 := own_put (i := K + n) hown (by omega) y
        have OWN := Lib.hid hown1
        have G3 := Lib.hid (grownBy_trans hgr (grownBy_setCell wr ⟨g, K + n, none⟩ (.int .u32 (y : Int))))
        clear hown hown1 hgr hinv M4 M5 E hye
        have hob : (o ++ [y]).length = n + 1 := by rw [List.length_append, List.length_singleton, hol]
        have hown0 : (wr.setCell ⟨g, K + n, none⟩ (.int .u32 (y : Int))).ownsRow B 48 1 (.slice (some ⟨g, 0, none⟩) N N) N (enc (pre ++ ([] ++ ((o ++ [y]).drop 0 ++ post)))) := OWN.out
        have HOB := Lib.hid hob
        have HOL := Lib.hid hol
        have DOY := Lib.hid (DO.out.append (Dig.cons hyb Dig.nil))
        have OY := Lib.hid (show (o ++ [y])[n]?.getD 0 = y by rw [List.getElem?_append_right (by omega), hol, Nat.sub_self]; rfl)
        obtain ⟨u, HU⟩ : ∃ u, Hid (o ++ [y] = u) := ⟨_, rfl⟩
        rw [HU.out] at hown0 hob DOY OY
        have wn1 : wr.cell? ⟨g, K + n, none⟩ = some (.int .u32 (x : Int)) := hcx
        clear hol hob
        go_wp2_with fail
        go_loopw [7, 71] (fun cs k w1 => ∃ (p : List Nat) (s : Nat), p.length ≤ n ∧ cs = .int .u64 (s : Int) ∧ k = .int .i64 (p.length : Int) ∧ sumInv u v p s ∧ w1.ownsRow B 48 1 (.slice (some ⟨g, 0, none⟩) N N) N (enc (pre ++ (p ++ (u.drop p.length ++ post)))) ∧ w.grownBy w1 (some g)) (fun _ k _ => n - (intOf k).toNat)
        case atStart => exact ⟨[], 0, Nat.zero_le _, rfl, rfl, ⟨Dig.nil, by omega, by simp [val]⟩, hown0, G3.out⟩
        case round =>
          clear hown0 G3 wn1 hcx hfx OWN
          obtain ⟨p, s, hp, rfl, rfl, hinv, hown, hgr⟩ := hrel
          by_cases hlt2 : p.length < n
          · have hvr := HV.out.grown (fun _ => HNE.out) hgr
            obtain ⟨bv, ov, rfl, hbv, hcv⟩ := hvr.at (by omega)
            have hc1 := hcv p.length (by omega)
            have hdd := DV.out.getD p.length
            have hzz := DOY.out.getD p.length
            rw [List.getD_eq_getElem?_getD] at hdd hzz
            rw [drop_at (show p.length < u.length by rw [← HU.out, HOB.out]; omega), List.cons_append] at hown
            have STEP := sumInv_step DOY.out DV.out hinv
            have hs := hinv.2.1
            obtain ⟨d, D⟩ : ∃ x, Hid (v[p.length]?.getD 0 = x) := ⟨_, rfl⟩
            obtain ⟨z, Z⟩ : ∃ x, Hid (u[p.length]?.getD 0 = x) := ⟨_, rfl⟩
            rw [D.out] at hc1 hdd STEP
            rw [Z.out] at hown hzz STEP
            have hcx := own_at (i := K + p.length) hown (by omega)
            have hfx := hown.frozenAt (K + p.length)
            obtain ⟨e, E1⟩ : ∃ e, Hid ((s + (z + d)) % 4294967296 = e) := ⟨_, rfl⟩
            obtain ⟨s', S1⟩ : ∃ s', Hid ((s + (z + d)) / 4294967296 = s') := ⟨_, rfl⟩
            rw [E1.out, S1.out] at STEP
            have R1 : ((s : Int) + ((z : Int) + (d : Int))) % 4294967296 = (e : Int) := by have := E1.out; omega
            have R2 : ((s : Int) + ((z : Int) + (d : Int))) / 4294967296 = (s' : Int) := by have := S1.out; omega
            have OWN := Lib.hid (own_put (i := K + p.length) hown (by omega) e)
            have G4 := Lib.hid (grownBy_trans hgr (grownBy_setCell _ ⟨g, K + p.length, none⟩ (.int .u32 (e : Int))))
            have SS := Lib.hid STEP
            clear hown hgr hvr hcv STEP hinv
            go_wp2
            refine ⟨⟨p ++ [e], s', by rw [List.length_append, List.length_singleton]; omega, rfl, by rw [List.length_append, List.length_singleton]; push_cast; rfl, SS.out, ?_, G4.out⟩, by simp [intOf]; omega⟩
            rw [List.length_append, List.length_singleton]
            exact OWN.out
          · have hpn : p.length = n := by omega
            have hul : u.length = n + 1 := by rw [← HU.out]; exact HOB.out
            rw [hpn, drop_at (show n < u.length by omega), OY.out, List.drop_of_length_le (show u.length ≤ n + 1 by omega), List.cons_append, List.nil_append] at hown
            have hcx := own_at (i := K + n) hown (by omega)
            have hfx := hown.frozenAt (K + n)
            have hs := hinv.2.1
            have hinv' := hinv
            rw [← HU.out] at hinv'
            obtain ⟨F1, F2, F3, F4⟩ := red_back (y := y) EE.out (HOL.out.trans HVL.out.symm) (hpn.trans HVL.out.symm) hinv' hyb DO.out DP.out (by rw [HVL.out]; exact hpl) hV hq2
            have R1 : ((y : Int) + (s : Int)) % 4294967296 = ((0 : Nat) : Int) := by omega
            have R2 : (s : Int) % 4294967296 = (s : Int) := by omega
            have R3 : ((q : Int) - 1) % 4294967296 = ((q - 1 : Nat) : Int) := by omega
            obtain ⟨q', Q'⟩ : ∃ q', Hid (q - 1 = q') := ⟨_, rfl⟩
            have R5 : (q : Int) - 1 = (q' : Int) := by have := Q'.out; omega
            rw [Q'.out] at R3 F2
            have OWN := Lib.hid (own_put (i := K + n) hown (by omega) 0)
            have G4 := Lib.hid (grownBy_trans hgr (grownBy_setCell _ ⟨g, K + n, none⟩ (.int .u32 ((0 : Nat) : Int))))
            have HF2 := Lib.hid F2
            have HF4 := Lib.hid F4
            have DPP := Lib.hid hinv.1
            clear hown hgr hinv hinv' F1 F2 F4
            go_wp2
            go_ret
            refine ⟨p ++ [0], by rw [List.length_append, List.length_singleton, hpn], DPP.out.append (Dig.cons (by omega) Dig.nil), ?_, by rw [← HF2.out]; rfl, OWN.out, G4.out⟩
            rw [val_snocK, Nat.mul_zero, Nat.add_zero]
            exact HF4.out
end Go.Proofs.YtdaaknfmodbjcaaDoor

namespace Go.Proofs.YtdaaknfmodbjcaaDoor
open Go.RowKit
attribute [local go_sem] Gives givesU

/-- By how much the divisor is moved up. -/
theorem lead {x : Nat} (h0 : 0 < x) (hx : x < 4294967296) : ∃ i : Nat, i < 32 ∧ (32 - (Lib.bitLen x : Int)) = (i : Int) ∧ (x + 1) * 2 ^ i ≤ 4294967296 := by
  have hl := Lib.bitLen_le x 32 (by omega) hx
  obtain ⟨b1, _, b3⟩ := Lib.bitLenAux_bounds 64 x (by omega) (by omega)
  change 1 ≤ Lib.bitLen x at b1
  change x < 2 ^ Lib.bitLen x at b3
  refine ⟨32 - Lib.bitLen x, by omega, by omega, ?_⟩
  have h1 := Nat.mul_le_mul_right (2 ^ (32 - Lib.bitLen x)) (Nat.succ_le_of_lt b3)
  rw [← Nat.pow_add, show Lib.bitLen x + (32 - Lib.bitLen x) = 32 by omega] at h1
  exact h1
theorem lead_val {b : List Nat} {n x i : Nat} (hl : b.length = n + 1) (db : Dig b) (hx : b[n]?.getD 0 = x) (h : (x + 1) * 2 ^ i ≤ 4294967296) : 2 ^ i * val b < 4294967296 ^ (n + 1) := by
  have h1 := val_pos_of hl hx
  have h2 := val_lt (db.take n)
  rw [List.length_take, Nat.min_eq_left (by omega)] at h2
  have hs : 0 < 2 ^ i := Nat.pow_pos (by omega)
  rw [Nat.pow_succ]
  have h3 : val b < 4294967296 ^ n * (x + 1) := by
    have e : 4294967296 ^ n * (x + 1) = 4294967296 ^ n * x + 4294967296 ^ n := by grind
    omega
  have h4 : 2 ^ i * val b < 2 ^ i * (4294967296 ^ n * (x + 1)) := Nat.mul_lt_mul_of_pos_left h3 hs
  have h5 : 4294967296 ^ n * ((x + 1) * 2 ^ i) ≤ 4294967296 ^ n * 4294967296 := Nat.mul_le_mul_left _ h
  have e : 2 ^ i * (4294967296 ^ n * (x + 1)) = 4294967296 ^ n * ((x + 1) * 2 ^ i) := by grind
  omega
theorem top_pos {v : List Nat} {n : Nat} (hl : v.length = n + 1) (dv : Dig v) (h : 4294967296 ^ n ≤ val v) : 0 < v[n]?.getD 0 := by
  have h1 := val_pos_of hl rfl
  have h2 := val_lt (dv.take n)
  rw [List.length_take, Nat.min_eq_left (by omega)] at h2
  rcases Nat.eq_zero_or_pos (v[n]?.getD 0) with g | g
  · rw [g, Nat.mul_zero] at h1; omega
  · exact g
theorem tight_ge {b : List Nat} {n : Nat} (hl : b.length = n + 1) (tb : Tight b) : 4294967296 ^ n ≤ val b := by
  rcases List.eq_nil_or_concat b with rfl | ⟨c, x, rfl⟩
  · simp at hl
  · have hx : x ≠ 0 := by have := tb (by simp); simpa using this
    have hc : c.length = n := by simpa using hl
    rw [List.concat_eq_append, val_append, hc, val_one]
    have := Nat.mul_le_mul_left (4294967296 ^ n) (show 1 ≤ x by omega)
    omega
/-- A part of a row of its own, as a row. -/
theorem own_part {w : World} {B e g N c cap : Nat} {pre part post : List Nat} (h : w.ownsRow B e 1 (.slice (some ⟨g, 0, none⟩) N c) N (enc (pre ++ (part ++ post)))) (dp : Dig part) (hc : part.length ≤ cap) (hm : cap ≤ 9223372036854775807) :
    Row w (some ⟨g, pre.length, none⟩) cap part := by
  have hl := own_len h
  refine ⟨hc, hm, dp, fun h0 => ⟨g, pre.length, rfl, (h.lt g rfl).2, fun i hi => ?_⟩⟩
  simp only [List.length_append] at hl
  rw [h.cellAt _ (by omega), enc_get _ _ (by simp; omega), List.getElem?_append_right (by omega), Nat.add_sub_cancel_left, List.getElem?_append_left hi]

theorem ownsRow_base {w : World} {base base' e size n : Nat} {v : Value} {xs : List Value} (h : w.ownsRow base e size v n xs) (hb : base' ≤ base) : w.ownsRow base' e size v n xs := by
  refine ⟨h.1, ?_⟩
  rcases h.2 with g | ⟨g, cap, cur, h1, h2, h3⟩
  · exact .inl g
  · exact .inr ⟨g, cap, cur, h1, Nat.le_trans hb h2, h3⟩
theorem split3 (u : List Nat) (k n : Nat) (h : k + n ≤ u.length) : ∃ pre part post : List Nat, u = pre ++ (part ++ post) ∧ pre.length = k ∧ part.length = n :=
  ⟨u.take k, (u.drop k).take n, (u.drop k).drop n, by rw [List.take_append_drop, List.take_append_drop], by rw [List.length_take, Nat.min_eq_left (by omega)], by rw [List.length_take, List.length_drop, Nat.min_eq_left (by omega)]⟩
/-- The value is a new row of N digits that stand for A. -/
def IsSh (base N A : Nat) (nt : Nat → Prop) (W : World) (v : Value) (w' : World) : Prop :=
  ∃ t : Nat × List Nat, v = .slice (some ⟨t.1, 0, none⟩) N N ∧ Below W.heap.size W w' ∧ t.2.length = N ∧ Dig t.2 ∧ val t.2 = A ∧ nt t.1 ∧ w'.ownsRow base 48 1 (.slice (some ⟨t.1, 0, none⟩) N N) N (enc t.2)
theorem F_shift {P : Program} {ops : Array Oper} {S : World → Prop} {Q : Act → World → Prop} {o : Oper} {l : List Oper} {a : Act} {own : List Nat} {F : World → Prop} (base N A : Nat) (nt : Nat → Prop) (hk : fkind o = 2) (hw : Region.wanted o (yielded ops a.tmps) = true)
    (hg : ∀ w, F w → Gives P o a w (IsSh base N A nt w))
    (h : ∀ g d, List.length d = N → Dig d → val d = A → nt g → WpF P ops S Q l (a.put o.dst (.slice (some ⟨g, 0, none⟩) N N)) own (fun w => F w ∧ w.ownsRow base 48 1 (.slice (some ⟨g, 0, none⟩) N N) N (enc d))) : WpF P ops S Q (o :: l) a own F := by
  refine F_callE (I := Nat × List Nat) (fun t => .slice (some ⟨t.1, 0, none⟩) N N) (fun t W => (t.2.length = N ∧ Dig t.2 ∧ val t.2 = A ∧ nt t.1) ∧ W.ownsRow base 48 1 (.slice (some ⟨t.1, 0, none⟩) N N) N (enc t.2)) (fun t W W' h hb => ⟨h.1, ownsRow_extT h.2 hb⟩) hk hw (fun w hf => ?_) ?_
  · refine (hg w hf).imp ?_
    rintro v w' ⟨t, h1, h2, h3, h4, h5, h6, h7⟩
    exact ⟨t, h1, h2, ⟨h3, h4, h5, h6⟩, h7⟩
  · rintro ⟨g, d⟩ ⟨w1, hf, hp, hr⟩
    have e : (fun w => F w ∧ (List.length d = N ∧ Dig d ∧ val d = A ∧ nt g) ∧ w.ownsRow base 48 1 (.slice (some ⟨g, 0, none⟩) N N) N (enc d)) = (fun w => F w ∧ w.ownsRow base 48 1 (.slice (some ⟨g, 0, none⟩) N N) N (enc d)) := by
      funext w; exact propext ⟨fun ⟨a, _, b⟩ => ⟨a, b⟩, fun ⟨a, b⟩ => ⟨a, hp, b⟩⟩
    have := h g d hp.1 hp.2.1 hp.2.2.1 hp.2.2.2
    rw [← e] at this
    exact this
def RetSh (base N A : Nat) (nt : Nat → Prop) (W : World) (e : Ending) (w' : World) : Prop := ∃ v, e = .returned v ∧ IsSh base N A nt W v w'

set_option maxRecDepth 100000 in
set_option maxHeartbeats 8000000 in
theorem num_divide_long (a b : List Nat) (pa pb : Option Addr) (la ca lb cb n0 : Nat) (w : World) (ha : Row w pa ca a) (hb : Row w pb cb b) (hla : la = a.length) (hlb : lb = b.length) (ta : Tight a) (tb : Tight b) (h64 : a.length ≤ 900)
    (hn : b.length = n0 + 2) (hge : val b ≤ val a) : Calls Tryd.prog 27 #[.slice pa la ca, .slice pb lb cb] w (RetQR w (digs (val a / val b)) (digs (val a % val b))) := by
  have hc : decide (cmpL a b < 0) = false := by
    rw [decide_eq_false_iff_not, cmpL_neg ha.dig hb.dig ta tb]
    omega
  have CP := Lib.hid (fun w' (hx : Ext w w') => num_compare a b pa pb la ca lb cb w' (ha.ext hx) (hb.ext hx) hla hlb)
  have hnm : b.length ≤ a.length := tight_len ha.dig tb hge
  have hx0 := top_pos (n := n0 + 1) hn hb.dig (tight_ge hn tb)
  have hxd := hb.dig.getD (n0 + 1)
  rw [List.getD_eq_getElem?_getD] at hxd
  obtain ⟨x, X⟩ : ∃ x, Hid (b[n0 + 1]?.getD 0 = x) := ⟨_, rfl⟩
  rw [X.out] at hx0 hxd
  obtain ⟨i, hi, hie, hix⟩ := lead hx0 hxd
  have LZ := Lib.hid (fun W => (Tryd.bits_LeadingZeros32 (x : Int) W (by omega) (by omega)).mono (fun e w' h => (show e = .returned (.int .i64 (i : Int)) ∧ w' = W from ⟨by rw [h.1, Int.toNat_natCast, hie], h.2⟩)))
  have SA := Lib.hid (fun W (hx : Ext w W) => num_shifted a pa la ca i W (ha.ext hx) hla hi (by omega))
  have SB := Lib.hid (fun W (hx : Ext w W) => num_shifted b pb lb cb i W (hb.ext hx) hlb hi (by omega))
  have hVn := lead_val (n := n0 + 1) hn hb.dig X.out hix
  have hVg : 4294967296 ^ (n0 + 1) ≤ 2 ^ i * val b := Nat.le_trans (tight_ge (n := n0 + 1) hn tb) (Nat.le_mul_of_pos_left _ (Nat.pow_pos (by omega)))
  have hse : 2 ^ i * 2 ^ (32 - i) = 4294967296 := by rw [← Nat.pow_add, show i + (32 - i) = 32 by omega]
  have hs0 : 0 < 2 ^ i := Nat.pow_pos (by omega)
  have hAQ : 2 ^ i * val a / (2 ^ i * val b) = val a / val b := Nat.mul_div_mul_left _ _ hs0
  have hAR : 2 ^ i * val a % (2 ^ i * val b) = 2 ^ i * (val a % val b) := Nat.mul_mod_mul_left _ _ _
  have hAlt : 2 ^ i * val a < 4294967296 ^ (a.length - b.length + 1) * (2 ^ i * val b) := by
    have h1 := val_lt ha.dig
    have h2 : 4294967296 ^ a.length ≤ 4294967296 ^ (a.length - b.length + 1) * val b := by
      have h3 := Nat.mul_le_mul_left (4294967296 ^ (a.length - b.length + 1)) (tight_ge (n := n0 + 1) hn tb)
      rw [← Nat.pow_add, show a.length - b.length + 1 + (n0 + 1) = a.length by omega] at h3
      exact h3
    have e : 4294967296 ^ (a.length - b.length + 1) * (2 ^ i * val b) = 2 ^ i * (4294967296 ^ (a.length - b.length + 1) * val b) := by grind
    rw [e]
    exact Nat.mul_lt_mul_of_pos_left (Nat.lt_of_lt_of_le h1 h2) hs0
  obtain ⟨bb, ob, rfl, hbb, hcb⟩ := hb.at (by omega)
  have hc0 := hcb (n0 + 1) (by omega)
  rw [X.out] at hc0
  have hcb1 := hb.le
  have hcb2 := hb.max
  have hla1 := ha.le
  have hma1 := ha.max
  obtain ⟨iA, hiA⟩ : ∃ A, Hid (2 ^ i * val a = A) := ⟨_, rfl⟩
  obtain ⟨V, HV⟩ : ∃ V, Hid (2 ^ i * val b = V) := ⟨_, rfl⟩
  obtain ⟨m, HM⟩ : ∃ m, Hid (a.length = m) := ⟨_, rfl⟩
  obtain ⟨M, HMM⟩ : ∃ M, Hid (m - (n0 + 2) + 1 = M) := ⟨_, rfl⟩
  subst hla hlb
  rw [hiA.out, HM.out] at SA
  rw [HV.out, hn] at SB
  rw [hiA.out, HV.out] at hAQ hAR hAlt
  rw [HV.out] at hVn hVg
  rw [HM.out, hn, HMM.out] at hAlt
  rw [HM.out] at h64 hnm hla1
  rw [hn] at hnm hcb1
  rw [HM.out, hn] at CP ⊢
  have hMm : M + n0 + 1 = m := by have := HMM.out; omega
  obtain ⟨ii, hii, hz0, hz1, hz2⟩ := info_parts info32
  have hn2 : ((n0 : Int) + 2 == 1) = false := by rw [beq_eq_false_iff_ne]; omega
  have AQ := Lib.hid hAQ
  have AR := Lib.hid hAR
  have ALT := Lib.hid hAlt
  clear hAQ hAR hAlt hcb ta tb hge hix hie ha hb
  go_enter Tryd.func27, Tryd.ntmps27
  go_wp2_with fail
  refine (CP.out _ (by (repeat (first | exact Below.refl _ _ | assumption | refine Below.drewN ?_ _ | refine Below.drew ?_ | refine Below.setCell ?_ (by first | exact Nat.le_refl _ | (simp; done) | (simp; omega) | omega) _ | refine Below.alloc ?_ (by first | exact Nat.le_refl _ | (simp; done) | (simp; omega) | omega) _)))).mono ?_
  rintro e w1 ⟨rfl, hx1⟩
  have hc1 : w1.cell? ⟨bb, ob + (n0 + 1), none⟩ = some (.int .u32 (x : Int)) := (hx1.cell (p := ⟨bb, ob + (n0 + 1), none⟩) hbb).trans hc0
  go_wp2_with fail
  refine (LZ.out _).mono ?_
  rintro e w2 ⟨rfl, rfl⟩
  have hs1 := hx1.size
  go_upto_region 8 with (fail)
  first | refine wp_region_FC (fun W => W.cell? ⟨bb, ob + (n0 + 1), none⟩ = some (.int .u32 (x : Int))) (by kernel_rfl) (by kernel_rfl) ?_ ?_ ?_ | refine wp_region_FCs (fun W => W.cell? ⟨bb, ob + (n0 + 1), none⟩ = some (.int .u32 (x : Int))) ?_ ?_ ?_
  · go_simp
  · (intro W W' h hx hb; have hs := hx.size; (try simp at hs); have hbc : ∀ b o, b < W.heap.size → W'.cell? ⟨b, o, none⟩ = W.cell? ⟨b, o, none⟩ := fun b o h => hb.cell (p := ⟨b, o, none⟩) h; (try dsimp only at h ⊢); simp (disch := omega) only [hbc]; exact h)
  repeat (first | (refine F_skip (by rfl) ?_; simp only [Act.put, List.setIfInBounds_toArray, List.set_cons_zero, List.set_cons_succ]) | (refine F_run (v := ?_) (by rfl) ?_ ?_; rotate_left; (· (intro W hW; (try dsimp only at hW); go_simp; try with_reducible rfl)); simp only [Act.put, List.setIfInBounds_toArray, List.set_cons_zero, List.set_cons_succ]))
  refine F_shift w2.heap.size (m + 1) iA (fun _ => True) (by rfl) (by rfl) (by intro W hW; (try dsimp only at hW); have hwW : w2.heap.size ≤ W.heap.size := hW.1.size; go_simp; refine (SA.out W (Ext.step hx1 hW.1)).mono ?_; rintro e w' ⟨o, h1, h2, h3, rfl, h5, h6⟩; exact ⟨_, rfl, (W.heap.size, o), rfl, h6, h1, h2, h3, trivial, ownsRow_base h5 hwW⟩) ?_
  intro gu U hU1 hU2 hU3 _
  simp only [Act.put, List.setIfInBounds_toArray, List.set_cons_zero, List.set_cons_succ]
  repeat (first | (refine F_skip (by rfl) ?_; simp only [Act.put, List.setIfInBounds_toArray, List.set_cons_zero, List.set_cons_succ]) | (refine F_run (v := ?_) (by rfl) ?_ ?_; rotate_left; (· (intro W hW; (try dsimp only at hW); go_simp; try with_reducible rfl)); simp only [Act.put, List.setIfInBounds_toArray, List.set_cons_zero, List.set_cons_succ]))
  refine F_shift w2.heap.size (n0 + 2 + 1) V (fun g => g ≠ gu) (by rfl) (by rfl) (by intro W hW; (try dsimp only at hW); have hwW : w2.heap.size ≤ W.heap.size := hW.1.1.size; have hlt := (World.ownsRow.lt hW.2 gu rfl).2; go_simp; refine (SB.out W (Ext.step hx1 hW.1.1)).mono ?_; rintro e w' ⟨o, h1, h2, h3, rfl, h5, h6⟩; exact ⟨_, rfl, (W.heap.size, o), rfl, h6, h1, h2, h3, Nat.ne_of_gt hlt, ownsRow_base h5 hwW⟩) ?_
  intro gv V0 hV1 hV2 hV3 hV4
  simp only [Act.put, List.setIfInBounds_toArray, List.set_cons_zero, List.set_cons_succ]
  repeat (first | (refine F_skip (by rfl) ?_; simp only [Act.put, List.setIfInBounds_toArray, List.set_cons_zero, List.set_cons_succ]) | (refine F_run (v := ?_) (by rfl) ?_ ?_; rotate_left; (· (intro W hW; (try dsimp only at hW); go_simp; try with_reducible rfl)); simp only [Act.put, List.setIfInBounds_toArray, List.set_cons_zero, List.set_cons_succ]))
  refine F_run (v := .slice (some ⟨gv, 0, none⟩) (n0 + 2) (n0 + 2 + 1)) (by rfl) ?_ ?_
  · intro W hW
    (try dsimp only at hW)
    go_simp
    rw [if_pos ⟨by omega, by omega⟩, show ((n0 : Int) + 2).toNat = n0 + 2 by omega]
  simp only [Act.put, List.setIfInBounds_toArray, List.set_cons_zero, List.set_cons_succ]
  repeat (first | (refine F_skip (by rfl) ?_; simp only [Act.put, List.setIfInBounds_toArray, List.set_cons_zero, List.set_cons_succ]) | (refine F_run (v := ?_) (by rfl) ?_ ?_; rotate_left; (· (intro W hW; (try dsimp only at hW); go_simp; try with_reducible rfl)); simp only [Act.put, List.setIfInBounds_toArray, List.set_cons_zero, List.set_cons_succ]))
  rintro w3 ⟨⟨⟨hx3, _⟩, hownU⟩, hownV⟩
  have hxw3 : Ext w w3 := Ext.step hx1 hx3
  have hvd : Dig (V0.take (n0 + 2)) := hV2.take _
  have hvl : (V0.take (n0 + 2)).length = n0 + 2 := by rw [List.length_take, Nat.min_eq_left (by omega)]
  have hvv : val (V0.take (n0 + 2)) = V := by
    have h1 := val_pos_of (n := n0 + 2) hV1 rfl
    rw [hV3] at h1
    rcases Nat.eq_zero_or_pos (V0[n0 + 2]?.getD 0) with g | g
    · rw [g, Nat.mul_zero] at h1; exact h1.symm
    · have h2 := Nat.mul_le_mul_left (4294967296 ^ (n0 + 2)) g
      have h3 : V < 4294967296 ^ (n0 + 2) := hVn
      omega
  obtain ⟨pv', cv', hvs, hvrow0, _⟩ := row_of_owns hownV hV2
  have hvrow : Row w3 (some ⟨gv, 0, none⟩) (n0 + 2 + 1) (V0.take (n0 + 2)) := by
    injection hvs with e1 e2 e3
    rw [← e1, ← e3] at hvrow0
    exact hvrow0.take _ (by omega)
  have hgu : gu < w3.heap.size := (World.ownsRow.lt hownU gu rfl).2
  have hgu2 : w2.heap.size ≤ gu := (World.ownsRow.lt hownU gu rfl).1
  have hVpos : 0 < V := Nat.lt_of_lt_of_le (Nat.pow_pos (by omega)) hVg
  have hvtop := top_pos (n := n0 + 1) (v := V0.take (n0 + 2)) hvl hvd (by rw [hvv]; exact hVg)
  obtain ⟨v, Hv⟩ : ∃ v, Hid (V0.take (n0 + 2) = v) := ⟨_, rfl⟩
  rw [Hv.out] at hvd hvl hvv hvrow hvtop
  have VROW := Lib.hid hvrow
  have OWNU := Lib.hid hownU
  have HX3 := Lib.hid hx3
  clear hvs hvrow0 hownV hownU hvrow hx3 hc1 hc0
  have eM : (m : Int) - ((n0 : Int) + 2) + 1 = (M : Int) := by omega
  have hM1 : M ≤ 900 := by omega
  go_wp2_with (at_make; refine wpList_make_full _ rfl _ _ 24 rfl w3.heap.size 48 ii (.int .u32 0) 1 Tryd.underlying24 hii hz0 hz1 _ _ _ _ M rfl rfl (by omega) (by omega) (by rw [hz2]; omega) (by unfold maxLen; omega) (Nat.le_refl _) ?_)
  all_goals
    intro w4 hown hgr
    rw [show (madeCells #[Value.int IntKind.u32 0] M).toList = enc (List.replicate M 0 ++ []) from by rw [enc, List.append_nil, List.map_replicate]; exact toList_madeCells_one _ _] at hown
    have hx4 : Ext w3 w4 := ⟨hgr.os, hgr.tape, hgr.output, hgr.size, fun k hk => hgr.block k hk (by simp)⟩
    have hownU4 := ownsRow_extT OWNU.out hx4
    clear hgr
    go_wp2_with fail
    have hv3 : gv < w3.heap.size := by
      obtain ⟨b', o', hp', hlt', _⟩ := VROW.out.at (by omega)
      cases hp'
      exact hlt'
    go_loopw [12] (fun ks wr => ∃ (k : Nat) (u qs : List Nat), ks = .int .i64 ((k : Int) - 1) ∧ qs.length + k = M ∧ u.length = m + 1 ∧ LongInv iA V k u qs ∧ wr.ownsRow w2.heap.size 48 1 (.slice (some ⟨gu, 0, none⟩) (m + 1) (m + 1)) (m + 1) (enc u) ∧ wr.ownsRow w3.heap.size 48 1 (.slice (some ⟨w3.heap.size, 0, none⟩) M M) M (enc (List.replicate k 0 ++ qs)) ∧ Row wr (some ⟨gv, 0, none⟩) (n0 + 2 + 1) v ∧ Below w2.heap.size w2 wr) (fun ks _ => (intOf ks + 1).toNat)
    case atStart => exact ⟨M, U, [], rfl, by simp, hU1, ⟨hU2, Dig.nil, by rw [hU3]; simp [val], by rw [hU3]; exact ALT.out⟩, hownU4, hown, VROW.out.ext hx4, HX3.out.trans (hx4.mono HX3.out.size)⟩
    case round =>
      clear hown hownU4 hx4 hU1 hU2 hU3
      obtain ⟨k, u, qs, rfl, hkM, hul, hinv, hownU, hownQ, hvr, hx⟩ := hrel
      cases k with
      | zero =>
        obtain ⟨L1, L2⟩ := long_end hVpos hinv
        rw [AQ.out] at L1
        rw [AR.out] at L2
        have HQ := Lib.hid L1
        have DQ := Lib.hid hinv.dq
        have DU := Lib.hid hinv.du
        have hult : val u < 4294967296 ^ (n0 + 2) := by
          have h1 := hinv.lt
          rw [Nat.pow_zero, Nat.one_mul] at h1
          exact Nat.lt_trans h1 hVn
        rw [List.replicate_zero, List.nil_append] at hownQ
        have hql : qs.length = M := by omega
        have e : (((0 : Nat) : Int) - 1) = -1 := by omega
        rw [e]
        clear e
        have S0 := Lib.hid (shr_start hse u (by omega))
        have SE := Lib.hid (fun o (h : ShrInv (2 ^ i) u o) (hl : o.length = n0 + 2) => shr_end h hs0 hl hult DU.out (by omega) L2)
        have hwr2 : w2.heap.size ≤ wr.heap.size := hx.size
        have HOU := Lib.hid hownU
        have HOQ := Lib.hid hownQ
        have hgr1 := (World.ownsRow.lt hownU gu rfl).2
        clear hinv L1 L2 hownU hownQ hvr hult
        go_wp2_with (at_make; refine wpList_make_full _ rfl _ _ 24 rfl wr.heap.size 48 ii (.int .u32 0) 1 Tryd.underlying24 hii hz0 hz1 _ _ _ _ (n0 + 2) rfl rfl (by omega) (by omega) (by rw [hz2]; omega) (by unfold maxLen; omega) (Nat.le_refl _) ?_)
        all_goals
          intro w5 hownR hgr
          have eMk : (madeCells #[Value.int IntKind.u32 0] (n0 + 2)).toList = enc ([] ++ List.replicate (n0 + 2) 0) := by
            rw [enc, List.nil_append, List.map_replicate]
            exact toList_madeCells_one _ _
          rw [eMk] at hownR
          clear eMk
          have hx5 : Ext wr w5 := ⟨hgr.os, hgr.tape, hgr.output, hgr.size, fun k hk => hgr.block k hk (by simp)⟩
          have hownU5 := ownsRow_extT HOU.out hx5
          have hownQ5 := ownsRow_extT HOQ.out hx5
          clear hgr
          have hgrR := (World.ownsRow.lt hownR wr.heap.size rfl).2
          have hw3r : w3.heap.size < wr.heap.size := (World.ownsRow.lt HOQ.out w3.heap.size rfl).2
          have hx55 := hx.trans (hx5.mono hwr2)
          obtain ⟨gr, GR⟩ : ∃ gr, Hid (wr.heap.size = gr) := ⟨_, rfl⟩
          rw [GR.out] at hownR hgr1 hw3r hwr2 ⊢
          go_wp2_with fail
          go_loopw [83] (fun ks W => ∃ (o : List Nat), o.length ≤ n0 + 2 ∧ ks = .int .i64 (o.length : Int) ∧ ShrInv (2 ^ i) u o ∧ W.ownsRow w2.heap.size 48 1 (.slice (some ⟨gu, 0, none⟩) (m + 1) (m + 1)) (m + 1) (enc u) ∧ W.ownsRow w3.heap.size 48 1 (.slice (some ⟨w3.heap.size, 0, none⟩) M M) M (enc qs) ∧ W.ownsRow gr 48 1 (.slice (some ⟨gr, 0, none⟩) (n0 + 2) (n0 + 2)) (n0 + 2) (enc (o ++ List.replicate (n0 + 2 - o.length) 0)) ∧ Below w2.heap.size w2 W) (fun ks _ => n0 + 2 - (intOf ks).toNat)
          case atStart => exact ⟨[], by simp, rfl, S0.out, hownU5, hownQ5, hownR, hx55⟩
          case round =>
            clear hownU5 hownQ5 hownR hx5 hx55
            obtain ⟨o, ho, rfl, hsh, hownU, hownQ, hownR, hx5⟩ := hrel
            by_cases hlt : o.length < n0 + 2
            · have d0 := DU.out.getD o.length
              have d1 := DU.out.getD (o.length + 1)
              rw [List.getD_eq_getElem?_getD] at d0 d1
              have k0 := own_cell hownU o.length _ (by omega) rfl
              have k1 := own_cell hownU (o.length + 1) _ (by omega) rfl
              obtain ⟨x0, X0⟩ : ∃ x, Hid (u[o.length]?.getD 0 = x) := ⟨_, rfl⟩
              obtain ⟨x1, X1⟩ : ∃ x, Hid (u[o.length + 1]?.getD 0 = x) := ⟨_, rfl⟩
              rw [X0.out] at k0 d0
              rw [X1.out] at k1 d1
              have STEP := shr_step hse hsh X0.out X1.out d0
              have OR := or_u64 x1 x0 d1 d0
              obtain ⟨tt, TT⟩ : ∃ x, Hid (x1 * 4294967296 + x0 = x) := ⟨_, rfl⟩
              rw [TT.out] at STEP OR
              have htt : tt < 18446744073709551616 := by have := TT.out; omega
              have hp : (2 : Int) ^ i = ((2 ^ i : Nat) : Int) := (Int.natCast_pow 2 i).symm
              have DV : (tt : Int) / 2 ^ i % 4294967296 = ((tt / 2 ^ i % 4294967296 : Nat) : Int) := by rw [hp]; rfl
              obtain ⟨y, Y⟩ : ∃ x, Hid (tt / 2 ^ i % 4294967296 = x) := ⟨_, rfl⟩
              rw [Y.out] at DV STEP
              clear hp
              rw [replicate_pred _ (show 0 < n0 + 2 - o.length by omega)] at hownR
              have hcw := own_at (pre := []) (o := o) (i := o.length) hownR (by simp)
              have hfw := World.ownsRow.frozenAt hownR o.length
              have hownR2 : (wr.drew.setCell ⟨gr, o.length, none⟩ (.int .u32 (y : Int))).ownsRow gr 48 1 (.slice (some ⟨gr, 0, none⟩) (n0 + 2) (n0 + 2)) (n0 + 2) (enc ([] ++ ((o ++ [y]) ++ List.replicate (n0 + 2 - o.length - 1) 0))) := own_put (w := wr.drew) (pre := []) (o := o) (i := o.length) hownR (by simp) y
              have hs7 := grownBy_setCell wr.drew ⟨gr, o.length, none⟩ (.int .u32 (y : Int))
              have hownU2 := World.ownsRow.kept (w := wr.drew) hownU hs7 (.inr (by simp [Value.ownBlock]; omega))
              have hownQ2 := World.ownsRow.kept (w := wr.drew) hownQ hs7 (.inr (by simp [Value.ownBlock]; omega))
              have hx8 : Below w2.heap.size w2 (wr.drew.setCell ⟨gr, o.length, none⟩ (.int .u32 (y : Int))) := (Below.drew hx5).setCell (by show w2.heap.size ≤ gr; omega) _
              have hgl : gr < wr.heap.size := (World.ownsRow.lt hownR gr rfl).2
              have A1 := Lib.hid hownU2
              have A2 := Lib.hid hownQ2
              have A3 := Lib.hid hownR2
              have A4 := Lib.hid hx8
              have A5 := Lib.hid STEP
              clear hownU hownQ hownR hownU2 hownQ2 hownR2 hx5 hx8 hs7 STEP hsh
              have hI1 : (0 : Int) ≤ (o.length : Int) + 1 := by omega
              have hI2 : (o.length : Int) + 1 < (m : Int) + 1 := by omega
              have hI3 : (o.length : Int) < (m : Int) := by omega
              have hI4 : (o.length : Int) < (m : Int) + 1 := by omega
              have hI5 : (o.length : Int) < (n0 : Int) + 2 := by omega
              have hI6 : IntKind.i64.wrap ((o.length : Int) + 1) = (o.length : Int) + 1 := IntWalk.i64_in _ (by omega)
              have hI7 : ((o.length : Int) + 1).toNat = o.length + 1 := by omega
              have hI8 : (0 : Int) ≤ (o.length : Int) := by omega
              go_upto_region 19 with (fail)
              go_still_tail 19, (by kernel_rfl)
              go_wp2
              refine ⟨⟨o ++ [y], by simp; omega, by simp, A5.out, A1.out, A2.out, ?_, A4.out⟩, by simp [intOf]; omega⟩
              rw [List.length_append, List.length_singleton, Nat.sub_add_eq]
              exact A3.out
            · have hol : o.length = n0 + 2 := by omega
              have hvo := SE.out o hsh hol
              rw [hol, Nat.sub_self, List.replicate_zero, List.append_nil] at hownR
              obtain ⟨pq, cq, hvq, hrowQ, _⟩ := row_of_owns (d := qs) hownQ DQ.out
              obtain ⟨pr, cr, hvr, hrowR, _⟩ := row_of_owns (d := o) hownR hsh.1
              injection hvq with e1 e2 e3
              injection hvr with f1 f2 f3
              subst e1 f1
              rw [← e3] at hrowQ
              rw [← f3] at hrowR
              have TQ := Lib.hid (num_trim qs _ _ _ _ hrowQ hql.symm)
              have hxw : Ext w wr := (Ext.step hx1 (Below.refl _ _)).trans (hx5.mono hx1.size)
              have TR := Lib.hid (fun W (hx : Ext wr W) => num_trim o _ _ _ W (hrowR.ext hx) hol.symm)
              have EQ := Lib.hid (show trim qs = digs (val a / val b) by unfold trim; rw [HQ.out])
              have ER := Lib.hid (show trim o = digs (val a % val b) by unfold trim; rw [hvo])
              rw [EQ.out] at TQ
              rw [ER.out] at TR
              clear hownU hownQ hownR hsh hvo e2 e3 f2 f3 hrowQ hrowR
              go_wp2_with fail
              refine TQ.out.mono ?_
              rintro e w7 ⟨rfl, hr7, hx7⟩
              have HR7 := Lib.hid hr7
              clear hr7
              go_wp2_with fail
              refine (TR.out _ hx7).mono ?_
              rintro e w8 ⟨rfl, hr8, hx8⟩
              have hx9 : Ext w w8 := Ext.step (Ext.step hxw hx7) hx8
              have HR8 := Lib.hid hr8
              have HR9 := Lib.hid (HR7.out.ext hx8)
              clear hr8 hx7 hx8 hx5
              go_wp2
              go_ret2
              exact ⟨_, _, _, _, rfl, HR9.out, HR8.out, hx9⟩
      | succ k =>
        have e : (((k + 1 : Nat) : Int) - 1) = (k : Int) := by omega
        rw [e]
        clear e
        obtain ⟨pre, part, post, rfl, hpre, hpart⟩ := split3 u k (n0 + 2 + 1) (by omega)
        obtain ⟨hpost, hplt⟩ := long_part hpre hpart hVn hinv
        have dpart : Dig part := fun x hx => hinv.du x (List.mem_append_right _ (List.mem_append_left _ hx))
        have PR := own_part (cap := m + 1 - k) hownU dpart (by omega) (by omega)
        rw [hpre] at PR
        have GS := Lib.hid (num_guess part v _ _ _ _ n0 wr PR hvr hpart hvl (by omega) hvtop (by rw [hvv]; exact hplt))
        have INV := Lib.hid hinv
        have HOU := Lib.hid hownU
        have HOQ := Lib.hid hownQ
        have HVR := Lib.hid hvr
        clear hinv hownU hownQ hvr PR
        have hw4 : w2.heap.size ≤ wr.heap.size := hx.size
        go_wp2_with fail
        rw [show k + (n0 + 2) + 1 - k = n0 + 3 by omega]
        refine GS.out.mono ?_
        rintro e w5 ⟨q, rfl, hq1, hq2, hq3, hx5⟩
        have RD := Lib.hid (num_reduce pre part post v gu k (m + 1) (n0 + 2) (m + 1 - k) (n0 + 2 + 1) w2.heap.size q (some ⟨gv, 0, none⟩) w5 (ownsRow_extT HOU.out hx5) hpre hpart hvl (HVR.out.ext hx5) (fun x hx => by cases hx; exact hV4) dpart (by omega) (by omega) (by omega) (by omega) (by rw [hvv]; exact hVpos) hq1 hq2 hq3)
        have hownQ5 := ownsRow_extT HOQ.out hx5
        have hvr5 := HVR.out.ext hx5
        have hx6 : Below w2.heap.size w2 w5 := hx.trans (hx5.mono hw4)
        have hw5 := hx5.size
        clear hx5 hq1 hq2 hq3
        go_wp2_with fail
        refine RD.out.mono ?_
        rintro e w6 ⟨part', hl', hd', hv', rfl, hownU6, hg6⟩
        rw [hvv] at hv' ⊢
        have hownQ6 := World.ownsRow.kept hownQ5 hg6 (.inr (by simp [Value.ownBlock]; omega))
        have hvr6 := hvr5.grown (fun _ x hx => by cases hx; exact hV4) hg6
        have hx7 : Below w2.heap.size w2 w6 := hx6.grown hg6 (by omega) (fun k hk => by injection hk with hk; omega)
        have hw6 := hg6.size
        have hdq : val part / V < 4294967296 := (Nat.div_lt_iff_lt_mul hVpos).2 hplt
        have STEP := long_step hpre hpart hl' hVn hVpos INV.out hd' hv'
        obtain ⟨dq, DQ⟩ : ∃ x, Hid (val part / V = x) := ⟨_, rfl⟩
        rw [DQ.out] at hdq STEP ⊢
        have hcq : w6.cell? ⟨w3.heap.size, k, none⟩ = some (.int .u32 0) := by
          rw [World.ownsRow.cellAt hownQ6 k (by omega)]
          exact enc_zero k qs
        have hfq := World.ownsRow.frozenAt hownQ6 k
        obtain ⟨hownQ7, _⟩ := World.ownsRow.stored hownQ6 k (.int .u32 (dq : Int))
        rw [enc_put] at hownQ7
        have hs7 := grownBy_setCell w6 ⟨w3.heap.size, k, none⟩ (.int .u32 (dq : Int))
        have hownU7 := World.ownsRow.kept hownU6 hs7 (.inr (by simp [Value.ownBlock]; omega))
        have hvr7 := hvr6.grown (fun _ x hx => by cases hx; exact Nat.ne_of_lt hv3) hs7
        have hx8 : Below w2.heap.size w2 (w6.setCell ⟨w3.heap.size, k, none⟩ (.int .u32 (dq : Int))) := hx7.setCell (by show w2.heap.size ≤ w3.heap.size; exact HX3.out.size) _
        have A1 := Lib.hid hownU7
        have A2 := Lib.hid hownQ7
        have A3 := Lib.hid hvr7
        have A4 := Lib.hid hx8
        have A5 := Lib.hid STEP
        clear hownU6 hownU7 hownQ6 hownQ7 hownQ5 hvr5 hvr6 hvr7 hx6 hx7 hx8 hs7 hg6 STEP
        go_wp2
        refine ⟨⟨k, pre ++ (part' ++ post), dq :: qs, rfl, by simp; omega, ?_, A5.out, A1.out, A2.out, A3.out, A4.out⟩, by simp [intOf]⟩
        rw [← hul, List.length_append, List.length_append, List.length_append, List.length_append, hl', hpart]

/-- num.divide at all numbers of up to 64 digits. -/
theorem divOn_all : DivOn 64 := by
  intro x y px py lx cx ly cy W hx hy h1 h2 tx ty h3 h4 h5
  by_cases hlt : val x < val y
  · exact num_divide_less x y px py lx cx ly cy W hx hy h1 h2 tx ty hlt
  · by_cases h6 : y.length = 1
    · exact num_divide_small x y px py lx cx ly cy W hx hy h1 h2 tx ty (by omega) h6
    · exact num_divide_long x y px py lx cx ly cy (y.length - 2) W hx hy h1 h2 tx ty (by omega) (by omega) (by omega)
end Go.Proofs.YtdaaknfmodbjcaaDoor
