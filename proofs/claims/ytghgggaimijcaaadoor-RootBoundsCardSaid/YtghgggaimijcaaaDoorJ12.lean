/- Contract: num.Div, given that of num.divide at the two numbers. | Contract: num.Gcd, given that of num.divide. | Plain: the decimal digits of a number, nine at a time. | Contract: num.Text. | Contract: num.Text. -/
import Derived.Test.YtghgggaimijcaaaDoorJ11
import Derived.Test.YtghgggaimijcaaaDoorJ01
import Derived.Test.YtghgggaimijcaaaDoorJ10
import Derived.Lib.ItoaNum
import Derived.Test.YtghgggaimijcaaaDoorShelf
import Derived.Lib.AppendIntMem
import Derived.Laws.IdiomCopy
set_option linter.unusedVariables false
set_option linter.unusedSimpArgs false

namespace Go.Proofs.YtghgggaimijcaaaDoor
open Go.RowKit

/-- Given what num.divide does at the digits of the two numbers. -/
theorem num_Div (a b : Nm) (na nb : Bool) (pa pb : Option Addr) (la ca lb cb : Nat) (w : World) (ha : NR w na pa la ca a) (hb : NR w nb pb lb cb b)
    (DV : a.right = true → b.right = true → 0 < b.d.length → ∀ W, Ext w W → Calls Tryd.prog 40 #[.slice pa la ca, .slice pb lb cb] W (RetQR W (digs (val a.d / val b.d)) (digs (val a.d % val b.d)))) :
    Calls Tryd.prog 22 #[.agg #[.bool na, .slice pa la ca], .agg #[.bool nb, .slice pb lb cb]] w (RetDiv w (divP a b)) := by
  cases ra : a.right with
  | false => exact Div_no a b na nb pa pb la ca lb cb w ha hb (.inl ra)
  | true =>
    cases rb : b.right with
    | false => exact Div_no a b na nb pa pb la ca lb cb w ha hb (.inr (.inl rb))
    | true =>
      cases hn : b.neg with
      | true => exact Div_no a b na nb pa pb la ca lb cb w ha hb (.inr (.inr (.inl hn)))
      | false =>
        by_cases h0 : b.d.length = 0
        · exact Div_no a b na nb pa pb la ca lb cb w ha hb (.inr (.inr (.inr h0)))
        · have hnb := hb.1
          rw [hn] at hnb
          subst hnb
          have hlb := hb.2.1
          have hna := ha.1
          have da := ha.2.2.dig
          rw [divP_yes ra rb hn (by omega)]
          have D := DV ra rb (by omega)
          have vq : val (digs (val a.d / val b.d)) = val a.d / val b.d := val_digs _
          have vr : val (digs (val a.d % val b.d)) = val a.d % val b.d := val_digs _
          have hbp : 0 < val b.d := tight_pos (b.right_iff.1 rb).2.1 (by omega)
          have hqle : val a.d / val b.d ≤ val a.d := Nat.div_le_self _ _
          have hrle : val a.d % val b.d ≤ val a.d := Nat.mod_le _ _
          have l64 (n : Nat) (h : n ≤ val a.d) : (digs n).length ≤ 64 := by
            refine (digs_length_le _ _).2 (Nat.lt_of_le_of_lt h ?_)
            exact Nat.lt_of_lt_of_le (val_lt da) (Nat.pow_le_pow_right (by omega) (a.right_iff.1 ra).1)
          by_cases hs : a.neg = true ∧ val a.d % val b.d ≠ 0
          · obtain ⟨hneg, hrest⟩ := hs
            rw [hneg] at hna
            subst hna
            have hrb : val a.d % val b.d < val b.d := Nat.mod_lt _ hbp
            have z : a.z = -(val a.d : Int) := by unfold Nm.z; rw [hneg]; rfl
            refine Div_neg a b pa pb la ca lb cb w ha hb ra rb (by omega) _ _ _ _ D ?_ ?_ ?_ (l64 _ hqle) (l64 _ hrle) (by rw [vr]; omega)
            · refine List.length_pos_iff.2 (fun h => hrest ?_)
              exact digs_eq_nil.1 h
            · intro o ho
              rw [vq] at ho
              have := made_nat da ra (succ_le hbp hrest) ho true
              simp only [if_true] at this
              rw [this, z, ((ediv_neg hbp).2 hrest).1]
            · intro o ho
              rw [vr] at ho
              rw [madeP_fit, ho, fit_small]
              · simp only [Bool.false_eq_true, if_false]
                rw [z, ((ediv_neg hbp).2 hrest).2]
              · refine small_of_le hb.2.2.dig rb ?_
                simp only [Bool.false_eq_true, if_false]
                omega
          · refine Div_simple a b na pa pb la ca lb cb w ha hb ra rb (by omega) _ _ _ _ D ?_ ?_ ?_
            · intro h
              rw [hna] at h
              have : val a.d % val b.d = 0 := by
                rcases Nat.eq_zero_or_pos (val a.d % val b.d) with g | g
                · exact g
                · exact absurd ⟨h, by omega⟩ hs
              rw [this, digs_zero]
            · rw [made_nat da ra hqle vq na]
              unfold Nm.z
              rw [hna]
              cases h : a.neg with
              | false => simp only [Bool.false_eq_true, if_false]; rw [ediv_pos.1]
              | true =>
                simp only [if_true]
                have : val a.d % val b.d = 0 := by
                  rcases Nat.eq_zero_or_pos (val a.d % val b.d) with g | g
                  · exact g
                  · exact absurd ⟨h, by omega⟩ hs
                rw [((ediv_neg hbp).1 this).1]
            · rw [made_nat da ra hrle vr false]
              simp only [Bool.false_eq_true, if_false]
              unfold Nm.z
              cases h : a.neg with
              | false => simp only [Bool.false_eq_true, if_false]; rw [ediv_pos.2]
              | true =>
                simp only [if_true]
                have : val a.d % val b.d = 0 := by
                  rcases Nat.eq_zero_or_pos (val a.d % val b.d) with g | g
                  · exact g
                  · exact absurd ⟨h, by omega⟩ hs
                rw [((ediv_neg hbp).1 this).2]
/-- num.divide by a divisor of one digit. -/
theorem num_divide_small (a b : List Nat) (pa pb : Option Addr) (la ca lb cb : Nat) (w : World) (ha : Row w pa ca a) (hb : Row w pb cb b) (hla : la = a.length) (hlb : lb = b.length) (ta : Tight a) (tb : Tight b) (h64 : a.length ≤ 1000) (h1 : b.length = 1) :
    Calls Tryd.prog 40 #[.slice pa la ca, .slice pb lb cb] w (RetQR w (digs (val a / val b)) (digs (val a % val b))) := by
  by_cases hlt : val a < val b
  · exact num_divide_less a b pa pb la ca lb cb w ha hb hla hlb ta tb hlt
  · obtain ⟨x, rfl⟩ : ∃ x, b = [x] := by
      match b, h1 with
      | [x], _ => exact ⟨x, rfl⟩
    have h0 := tight_pos tb (by simp)
    rw [val_one] at h0 hlt ⊢
    exact num_divide_one a x pa pb la ca lb cb w ha hb hla (by rw [hlb]; rfl) ta h0 h64 (by omega)
end Go.Proofs.YtghgggaimijcaaaDoor

namespace Go.Proofs.YtghgggaimijcaaaDoor
open Go.RowKit

/-- What a slice of digits stands for, as it lies in memory. -/
def rowVal (w : World) (v : Value) : Nat :=
  match v with
  | .slice (some ⟨b, o, none⟩) l _ => val ((List.range l).map fun i => match w.cell? ⟨b, o + i, none⟩ with | some (.int _ n) => n.toNat | _ => 0)
  | _ => 0
theorem rowVal_eq {w : World} {p : Option Addr} {c : Nat} {d : List Nat} (h : Row w p c d) : rowVal w (.slice p d.length c) = val d := by
  by_cases h0 : 0 < d.length
  · obtain ⟨b, o, rfl, _, hc⟩ := h.at h0
    have e : ((List.range d.length).map fun i => match w.cell? ⟨b, o + i, none⟩ with | some (.int _ n) => n.toNat | _ => 0) = d := by
      refine List.ext_getElem (by rw [List.length_map, List.length_range]) (fun i h1 h2 => ?_)
      have := hc i h2
      simp only [List.getElem_map, List.getElem_range, this, getD_eq h2]
      rfl
    show val ((List.range d.length).map fun i => match w.cell? ⟨b, o + i, none⟩ with | some (.int _ n) => n.toNat | _ => 0) = val d
    rw [e]
  · have : d = [] := List.eq_nil_of_length_eq_zero (by omega)
    subst this
    unfold rowVal
    split
    · rename_i e; injection e with _ e2 _; subst e2; rfl
    · rfl
def gcdP (a b : Nm) : Nm × Bool := if a.right && b.right then (ofZ (Nat.gcd (val a.d) (val b.d)), true) else (zero, false)
/-- What is asked of num.divide. -/
def DivOn (N : Nat) : Prop := ∀ (x y : List Nat) (px py : Option Addr) (lx cx ly cy : Nat) (W : World), Row W px cx x → Row W py cy y → lx = x.length → ly = y.length → Tight x → Tight y → x.length ≤ 64 → 0 < y.length → y.length ≤ N →
  Calls Tryd.prog 40 #[.slice px lx cx, .slice py ly cy] W (RetQR W (digs (val x / val y)) (digs (val x % val y)))
theorem divOn_one : DivOn 1 := fun x y px py lx cx ly cy W hx hy h1 h2 tx ty h3 h4 h5 => num_divide_small x y px py lx cx ly cy W hx hy h1 h2 tx ty (by omega) (by omega)
theorem made_gcd {a b : Nm} (da : Dig a.d) (db : Dig b.d) (ra : a.right = true) (rb : b.right = true) {o : List Nat} (ho : val o = Nat.gcd (val a.d) (val b.d)) : madeP false o = (ofZ (Nat.gcd (val a.d) (val b.d)), true) := by
  rw [madeP_fit, ho, fit_small]
  · rfl
  · simp only [Bool.false_eq_true, if_false]
    by_cases h : val a.d = 0
    · rw [h, Nat.gcd_zero_left]
      exact small_of_le db rb (by omega)
    · exact small_of_le da ra (by have := Nat.gcd_le_left (val b.d) (Nat.pos_of_ne_zero h); omega)
theorem digs_le {y : List Nat} (dy : Dig y) (ty : Tight y) {n : Nat} (h : n ≤ val y) : (digs n).length ≤ y.length := by
  refine (digs_length_le _ _).2 (Nat.lt_of_le_of_lt h (val_lt dy))

set_option maxRecDepth 100000 in
set_option maxHeartbeats 4000000 in
theorem num_Gcd (a b : Nm) (na nb : Bool) (pa pb : Option Addr) (la ca lb cb : Nat) (w : World) (ha : NR w na pa la ca a) (hb : NR w nb pb lb cb b) (N : Nat) (hN : b.d.length ≤ N) (DV : DivOn N) :
    Calls Tryd.prog 21 #[.agg #[.bool na, .slice pa la ca], .agg #[.bool nb, .slice pb lb cb]] w (RetNum w (gcdP a b)) := by
  have RA := Lib.hid (fun w' (hx : Ext w w') => num_Right a na pa la ca w' (ha.ext hx))
  have RB := Lib.hid (fun w' (hx : Ext w w') => num_Right b nb pb lb cb w' (hb.ext hx))
  have NO : (a.right = false ∨ b.right = false) → ∀ W', Ext w W' → RetNum w (gcdP a b) (.returned (.tuple #[.agg #[.bool false, .slice none 0 0], .bool false])) W' := by
    intro h W' hx
    have : gcdP a b = (zero, false) := by unfold gcdP; rw [if_neg]; rcases h with h | h <;> simp [h]
    rw [this]
    exact ⟨false, none, 0, 0, rfl, ⟨rfl, rfl, Row.nil _⟩, New.none _, hx⟩
  replace NO := Lib.hid NO
  cases ra : a.right with
  | false =>
    rw [ra] at RA
    go_enter Tryd.func21, Tryd.ntmps21
    go_wp2_with fail
    refine (RA.out _ bxx).mono ?_
    rintro e w1 ⟨rfl, hx⟩
    have hx0 : Ext w w1 := Ext.step bxx hx
    have hz_w1 : w.heap.size + 3 ≤ w1.heap.size := Nat.le_trans omm hx.size
    obtain ⟨hl_w1_0, hk_w1_0, hf_w1_0⟩ := extK hx (w.heap.size)
    obtain ⟨hl_w1_1, hk_w1_1, hf_w1_1⟩ := extK hx (w.heap.size + 1)
    obtain ⟨hl_w1_2, hk_w1_2, hf_w1_2⟩ := extK hx (w.heap.size + 2)
    go_wp2
    refine bodyPost_ret (v := .tuple #[.agg #[.bool false, .slice none 0 0], .bool false]) (by simp only [results, Tryd.results21]; go_simp) rfl ?_
    exact NO.out (.inl ra) _ bxx
  | true =>
    rw [ra] at RA
    cases rb : b.right with
    | false =>
      rw [rb] at RB
      go_enter Tryd.func21, Tryd.ntmps21
      go_wp2_with fail
      refine (RA.out _ bxx).mono ?_
      rintro e w1 ⟨rfl, hx⟩
      have hx0 : Ext w w1 := Ext.step bxx hx
      have hz_w1 : w.heap.size + 3 ≤ w1.heap.size := Nat.le_trans omm hx.size
      obtain ⟨hl_w1_0, hk_w1_0, hf_w1_0⟩ := extK hx (w.heap.size)
      obtain ⟨hl_w1_1, hk_w1_1, hf_w1_1⟩ := extK hx (w.heap.size + 1)
      obtain ⟨hl_w1_2, hk_w1_2, hf_w1_2⟩ := extK hx (w.heap.size + 2)
      go_wp2_with fail
      refine (RB.out _ bxx).mono ?_
      rintro e w2 ⟨rfl, hx2⟩
      have hx1 : Ext w w2 := Ext.step bxx hx2
      have hz_w2 : w.heap.size + 3 ≤ w2.heap.size := Nat.le_trans omm hx2.size
      obtain ⟨hl_w2_0, hk_w2_0, hf_w2_0⟩ := extK hx2 (w.heap.size)
      obtain ⟨hl_w2_1, hk_w2_1, hf_w2_1⟩ := extK hx2 (w.heap.size + 1)
      obtain ⟨hl_w2_2, hk_w2_2, hf_w2_2⟩ := extK hx2 (w.heap.size + 2)
      go_wp2
      refine bodyPost_ret (v := .tuple #[.agg #[.bool false, .slice none 0 0], .bool false]) (by simp only [results, Tryd.results21]; go_simp) rfl ?_
      exact NO.out (.inr rb) _ bxx
    | true =>
      rw [rb] at RB
      have hP : gcdP a b = (ofZ (Nat.gcd (val a.d) (val b.d)), true) := by unfold gcdP; rw [ra, rb]; rfl
      have MG := Lib.hid (fun o (h : val o = Nat.gcd (val a.d) (val b.d)) => made_gcd ha.2.2.dig hb.2.2.dig ra rb h)
      have TA := (a.right_iff.1 ra).2.1
      have TB := (b.right_iff.1 rb).2.1
      have L64 : a.d.length ≤ 64 := (a.right_iff.1 ra).1
      have B64 : b.d.length ≤ 64 := (b.right_iff.1 rb).1
      have HA := Lib.hid ha
      have HB := Lib.hid hb
      have HP := Lib.hid hP
      have DVH := Lib.hid DV
      clear hP ha hb NO ra rb DV
      go_enter Tryd.func21, Tryd.ntmps21
      go_wp2_with fail
      refine (RA.out _ bxx).mono ?_
      rintro e w1 ⟨rfl, hx⟩
      have hx0 : Ext w w1 := Ext.step bxx hx
      have hz_w1 : w.heap.size + 3 ≤ w1.heap.size := Nat.le_trans omm hx.size
      obtain ⟨hl_w1_0, hk_w1_0, hf_w1_0⟩ := extK hx (w.heap.size)
      obtain ⟨hl_w1_1, hk_w1_1, hf_w1_1⟩ := extK hx (w.heap.size + 1)
      obtain ⟨hl_w1_2, hk_w1_2, hf_w1_2⟩ := extK hx (w.heap.size + 2)
      go_wp2_with fail
      refine (RB.out _ bxx).mono ?_
      rintro e w2 ⟨rfl, hx2⟩
      have hx1 : Ext w w2 := Ext.step bxx hx2
      have hz_w2 : w.heap.size + 3 ≤ w2.heap.size := Nat.le_trans omm hx2.size
      obtain ⟨hl_w2_0, hk_w2_0, hf_w2_0⟩ := extK hx2 (w.heap.size)
      obtain ⟨hl_w2_1, hk_w2_1, hf_w2_1⟩ := extK hx2 (w.heap.size + 1)
      obtain ⟨hl_w2_2, hk_w2_2, hf_w2_2⟩ := extK hx2 (w.heap.size + 2)
      go_wp2_with fail
      refine wp_FS (fun W => W.cell? ⟨w.heap.size, 1, none⟩ = some (.slice pa la ca) ∧ W.cell? ⟨w.heap.size + 1, 1, none⟩ = some (.slice pb lb cb) ∧ W.cell? ⟨w.heap.size + 1 + 1, 0, none⟩ = some (.bool false) ∧ W.cell? ⟨w.heap.size + 1 + 1, 1, none⟩ = some (.slice none 0 0)) ?_
      repeat (first | refine F_s ?_ | refine F_r ?_)
      rintro w3 ⟨hx3, hc3⟩
      have hx4 : Ext w w3 := Ext.step hx1 hx3
      have hz_w3 : w.heap.size + 3 ≤ w3.heap.size := Nat.le_trans omm hx3.size
      obtain ⟨hl_w3_0, hk_w3_0, hf_w3_0⟩ := extK hx3 (w.heap.size)
      obtain ⟨hl_w3_1, hk_w3_1, hf_w3_1⟩ := extK hx3 (w.heap.size + 1)
      obtain ⟨hl_w3_2, hk_w3_2, hf_w3_2⟩ := extK hx3 (w.heap.size + 2)
      have HX4 := Lib.hid hx4
      clear hx4 hx3 hx1 hx2 hx0 hx hc3
      go_wp2_with fail
      go_loopw [6, 7] (fun xs ys wr => ∃ (dx dy : List Nat) (px py : Option Addr) (cx cy : Nat), xs = .slice px dx.length cx ∧ ys = .slice py dy.length cy ∧ Row wr px cx dx ∧ Row wr py cy dy ∧ Tight dx ∧ Tight dy ∧ dx.length ≤ 64 ∧ dy.length ≤ N ∧ dy.length ≤ 64 ∧ Nat.gcd (val dx) (val dy) = Nat.gcd (val a.d) (val b.d) ∧ Ext w3 wr) (fun _ ys wr => rowVal wr ys)
      case atStart =>
        refine ⟨a.d, b.d, pa, pb, ca, cb, ?_, ?_, HA.out.2.2.ext HX4.out, HB.out.2.2.ext HX4.out, TA, TB, L64, hN, B64, rfl, Below.refl _ _⟩
        · rw [HA.out.2.1]
        · rw [HB.out.2.1]
      case round =>
        obtain ⟨dx, dy, px, py, cx, cy, rfl, rfl, hrx, hry, tx, ty, lx, ly, ly64, hg, hxr⟩ := hrel
        have G := Lib.hid hg
        have TX := Lib.hid tx
        have TY := Lib.hid ty
        clear hg tx ty TA TB hN
        by_cases h0 : dy.length = 0
        · obtain rfl : dy = [] := List.eq_nil_of_length_eq_zero h0
          have MK := num_made false dx px dx.length cx wr hrx rfl
          rw [MG.out dx (by rw [← G.out]; show val dx = Nat.gcd (val dx) 0; rw [Nat.gcd_zero_right])] at MK
          have MKH := Lib.hid MK
          have hx5 : Ext w wr := Ext.step HX4.out hxr
          have hz_wr : w.heap.size + 3 ≤ wr.heap.size := Nat.le_trans omm hxr.size
          obtain ⟨hl_wr_0, hk_wr_0, hf_wr_0⟩ := extK hxr (w.heap.size)
          obtain ⟨hl_wr_1, hk_wr_1, hf_wr_1⟩ := extK hxr (w.heap.size + 1)
          obtain ⟨hl_wr_2, hk_wr_2, hf_wr_2⟩ := extK hxr (w.heap.size + 2)
          clear h0 hrx hry MK
          go_wp2_with fail
          refine MKH.out.mono ?_
          rintro e w5 ⟨n5, p5, l5, c5, rfl, hn5, hnew5, hx6⟩
          have hx7 : Ext w w5 := Ext.step hx5 hx6
          have hz_w5 : w.heap.size + 3 ≤ w5.heap.size := Nat.le_trans omm hx6.size
          obtain ⟨hl_w5_0, hk_w5_0, hf_w5_0⟩ := extK hx6 (w.heap.size)
          obtain ⟨hl_w5_1, hk_w5_1, hf_w5_1⟩ := extK hx6 (w.heap.size + 1)
          obtain ⟨hl_w5_2, hk_w5_2, hf_w5_2⟩ := extK hx6 (w.heap.size + 2)
          go_wp2
          refine bodyPost_ret (v := .tuple #[.agg #[.bool n5, .slice p5 l5 c5], .bool true]) (by simp only [results, Tryd.results21]; go_simp) rfl ?_
          rw [HP.out]
          exact ⟨n5, p5, l5, c5, rfl, (by repeat (first | assumption | refine NR.set ?_ (by assumption) _ (by first | (simp; done) | (simp; omega) | omega) _ | refine NR.alloc ?_ _)), hnew5.mono hx5.size, bxx⟩
        · have hpos : 0 < dy.length := Nat.pos_of_ne_zero h0
          have CL := Lib.hid (DVH.out dx dy px py dx.length cx dy.length cy wr hrx hry rfl rfl TX.out TY.out lx hpos ly)
          have VB := Lib.hid (tight_pos TY.out hpos)
          have RV := Lib.hid (rowVal_eq hry)
          have HRY := Lib.hid hry
          have HXR := Lib.hid hxr
          have hn0 : dy ≠ [] := List.length_pos_iff.1 hpos
          obtain ⟨m, M⟩ : ∃ m, Hid (dy.length = m) := ⟨_, rfl⟩
          rw [M.out] at hpos CL RV ⊢
          clear h0 hrx hry hxr
          go_wp2_with fail
          refine CL.out.mono ?_
          rintro e w5 ⟨p, c, p2, c2, rfl, hq, hr, hx6⟩
          have HR := Lib.hid hr
          have HX6 := Lib.hid hx6
          clear hq hr hx6
          go_wp2
          have hv : val (digs (val dx % val dy)) = val dx % val dy := val_digs _
          have hlt := Nat.mod_lt (val dx) VB.out
          have hl := digs_le HRY.out.dig TY.out (Nat.le_of_lt hlt)
          refine ⟨⟨dy, digs (val dx % val dy), py, p2, cy, c2, by rw [M.out], rfl, HRY.out.ext HX6.out, HR.out, TY.out, tight_digs _, ly64, by omega, by omega, ?_, Ext.step HXR.out HX6.out⟩, ?_⟩
          · rw [hv, ← G.out]
            exact ((Nat.gcd_comm _ _).trans (Nat.gcd_rec (val dy) (val dx)).symm).trans (Nat.gcd_comm _ _)
          · rw [rowVal_eq HR.out, hv, RV.out]
            exact hlt
end Go.Proofs.YtghgggaimijcaaaDoor

namespace Go.Proofs.YtghgggaimijcaaaDoor
open Go.Lib (decDigits decDigits_one decDigits_length nDigits nDigits_small nDigits_big)

/-- k digits of a number, with zeros ahead. -/
def padK : Nat → Nat → List UInt8
  | 0, _ => []
  | k + 1, r => padK k (r / 10) ++ [UInt8.ofNat (48 + r % 10)]
theorem padK_zero : ∀ k, padK k 0 = List.replicate k 48
  | 0 => rfl
  | k + 1 => by rw [padK, padK_zero k, List.replicate_succ']; rfl
theorem decDigits_more {u : Nat} (h : ¬ u < 10) : decDigits u = decDigits (u / 10) ++ [UInt8.ofNat (48 + u % 10)] := by
  conv => lhs; rw [decDigits, dif_neg h]
/-- A digit behind. -/
theorem decDigits_ten {a d : Nat} (ha : 0 < a) (hd : d < 10) : decDigits (10 * a + d) = decDigits a ++ [UInt8.ofNat (48 + d)] := by
  rw [decDigits_more (by omega), show (10 * a + d) / 10 = a by omega, show (10 * a + d) % 10 = d by omega]
theorem decDigits_split : ∀ (k n : Nat), 0 < n / 10 ^ k → decDigits n = decDigits (n / 10 ^ k) ++ padK k (n % 10 ^ k)
  | 0, n, _ => by simp [padK]
  | k + 1, n, h => by
    have h10 : ¬ n < 10 := by
      intro hn
      have : n / 10 ^ (k + 1) = 0 := Nat.div_eq_of_lt (Nat.lt_of_lt_of_le hn (by rw [Nat.pow_succ]; have := Nat.one_le_pow k 10 (by decide); omega))
      omega
    have e : n / 10 / 10 ^ k = n / 10 ^ (k + 1) := by rw [Nat.pow_succ, Nat.mul_comm, Nat.div_div_eq_div_mul]
    have e2 : n % 10 ^ (k + 1) / 10 = n / 10 % 10 ^ k := by
      rw [Nat.pow_succ, Nat.mul_comm (10 ^ k) 10, Nat.mod_mul_right_div_self]
    have e3 : n % 10 ^ (k + 1) % 10 = n % 10 := by
      rw [Nat.pow_succ, Nat.mul_comm (10 ^ k) 10]; exact Nat.mod_mul_right_mod _ _ _
    rw [decDigits_more h10, decDigits_split k (n / 10) (by rw [e]; exact h), e, padK, e2, e3, List.append_assoc]
theorem pad_eq : ∀ (k r : Nat), r < 10 ^ (k + 1) → List.replicate (k + 1 - nDigits r) 48 ++ decDigits r = padK (k + 1) r
  | 0, r, h => by
    have h' : r < 10 := by simpa using h
    rw [nDigits_small h', decDigits_one h', padK, padK, Nat.mod_eq_of_lt h']
    rfl
  | k + 1, r, h => by
    by_cases h' : r < 10
    · rw [nDigits_small h', decDigits_one h', padK, Nat.div_eq_of_lt h', padK_zero, Nat.mod_eq_of_lt h']
      rfl
    · have hq : r / 10 < 10 ^ (k + 1) := by rw [Nat.pow_succ] at h; omega
      rw [nDigits_big h', decDigits_more h', padK, ← pad_eq k (r / 10) hq, Nat.add_sub_add_right, List.append_assoc]
/-- A number is its upper part, and nine digits. -/
theorem decDigits_nine {n : Nat} (h : 0 < n / 1000000000) : decDigits n = decDigits (n / 1000000000) ++ (List.replicate (9 - nDigits (n % 1000000000)) 48 ++ decDigits (n % 1000000000)) := by
  have := decDigits_split 9 n h
  rw [← pad_eq 8 (n % 10 ^ 9) (Nat.mod_lt _ (by decide))] at this
  exact this
theorem nDigits_nine {r : Nat} (h : r < 1000000000) : nDigits r ≤ 9 := by
  have h10 : ∀ (k r : Nat), r < 10 ^ (k + 1) → nDigits r ≤ k + 1 := by
    intro k
    induction k with
    | zero => intro r h; rw [nDigits_small (by simpa using h)]; exact Nat.le_refl _
    | succ k ih =>
      intro r h
      by_cases h' : r < 10
      · rw [nDigits_small h']; omega
      · rw [nDigits_big h']; have := ih (r / 10) (by rw [Nat.pow_succ] at h; omega); omega
  exact h10 8 r h
/-- The parts that are made, the lowest one first: together they are the digits. -/
def Parts (n d : Nat) (ps : List (List UInt8)) : Prop := if d = 0 then ps.reverse.flatten = decDigits n else decDigits n = decDigits d ++ ps.reverse.flatten
theorem parts_start {n : Nat} (h : 0 < n) : Parts n n [] := by
  unfold Parts
  rw [if_neg (by omega)]
  simp
theorem parts_last {n d : Nat} {ps : List (List UInt8)} (h : Parts n d ps) (h0 : 0 < d) (hq : d / 1000000000 = 0) : Parts n 0 (ps ++ [decDigits (d % 1000000000)]) := by
  unfold Parts at *
  rw [if_neg (by omega)] at h
  rw [if_pos rfl, h, Nat.mod_eq_of_lt (by omega)]
  simp
theorem parts_next {n d : Nat} {ps : List (List UInt8)} (h : Parts n d ps) (hq : 0 < d / 1000000000) :
    Parts n (d / 1000000000) (ps ++ [List.replicate (9 - nDigits (d % 1000000000)) 48 ++ decDigits (d % 1000000000)]) := by
  unfold Parts at *
  rw [if_neg (by omega)] at h
  rw [if_neg (by omega), h, decDigits_nine hq]
  simp
theorem parts_done {n : Nat} {ps : List (List UInt8)} (h : Parts n 0 ps) : ps.reverse.flatten = decDigits n := by
  unfold Parts at h
  rwa [if_pos rfl] at h
/-- What the text of a number is. -/
def textL (a : Nm) : List UInt8 := if a.right then (if a.neg then 45 :: decDigits (val a.d) else decDigits (val a.d)) else []
end Go.Proofs.YtghgggaimijcaaaDoor

namespace Go.Proofs.YtghgggaimijcaaaDoor
open Go.RowKit
open Go.Lib (decDigits decDigits_length nDigits)

/-- The table of powers of ten. -/
def Tab (w : World) : Prop := Lib.TabIs Tryd.prog w "internal/strconv.uint64pow10" .u64 Lib.pow10Tab
theorem Tab.ext {w w' : World} (h : Tab w) (hx : Ext w w') : Tab w' := Lib.tabBelow_of_tabIs h w' hx
/-- A string of these bytes. -/
def bytesT (l : List UInt8) : ByteArray := ⟨l.toArray⟩
theorem bytesT_size (l : List UInt8) : (bytesT l).size = l.length := by simp [bytesT, ByteArray.size]
theorem bytesT_add (a b : List UInt8) : bytesT a ++ bytesT b = bytesT (a ++ b) := by
  apply ByteArray.ext
  simp [bytesT, ByteArray.data_append]
abbrev encT (l : List UInt8) : Value := .string (bytesT l)
theorem infoS : (Tryd.prog.info? 9).map (fun i => (i.zero, i.size, i.bytes)) = some (some (.string ⟨#[]⟩), 1, 16) := by kernel_rfl
theorem info_partsS {P : Program} {t : TypeId} {z : Value} {s b : Nat} (h : (P.info? t).map (fun i => (i.zero, i.size, i.bytes)) = some (some z, s, b)) : ∃ i, P.info? t = some i ∧ i.zero = some z ∧ i.size = s ∧ i.bytes = b := by
  cases hi : P.info? t with
  | none => rw [hi] at h; simp at h
  | some i =>
    rw [hi] at h
    simp only [Option.map_some, Option.some.injEq, Prod.mk.injEq] at h
    exact ⟨i, rfl, h.1, h.2.1, h.2.2⟩
theorem below_setCells {B b : Nat} (hb : B ≤ b) : ∀ (vs : List Value) (o : Nat) {a w : World}, Below B a w → Below B a (w.setCells b o vs)
  | [], _, _, _, h => h
  | v :: r, o, _, _, h => by
    rw [World.setCells]
    exact below_setCells hb r (o + 1) (h.setCell (p := ⟨b, o, none⟩) hb v)
theorem str_news {w : World} (v : Value) (T : TypeId) : ∀ j u, [v][j]? = some u → (w.alloc (.cells #[v] T)).cell? ((⟨w.heap.size, 0, none⟩ : Addr).add j) = some u := by
  intro j u hu
  cases j with
  | zero =>
    simp only [List.getElem?_cons_zero, Option.some.injEq] at hu
    subst hu
    rw [add_none, cell_of_row _ _ _ _ _ _ (heap_alloc_new w _)]
    rfl
  | succ j => simp at hu
/-- What the loop of Text keeps. -/
structure TextInv (n : Nat) (d : List Nat) (L : List (List UInt8)) : Prop where
  tight : Tight d
  le : d.length ≤ 64
  parts : (n = 0 ∧ val d = 0 ∧ L = []) ∨ (0 < n ∧ Parts n (val d) L)
  bd : val d < 2 ^ (2048 - L.length)
  len : L.length ≤ 2048
  nine : ∀ l ∈ L, l.length ≤ 9
theorem TextInv.start {d : List Nat} (hd : Dig d) (ht : Tight d) (hl : d.length ≤ 64) : TextInv (val d) d [] := by
  refine ⟨ht, hl, ?_, ?_, by simp, by simp⟩
  · rcases Nat.eq_zero_or_pos (val d) with h | h
    · exact .inl ⟨h, h, rfl⟩
    · exact .inr ⟨h, parts_start h⟩
  · refine Nat.lt_of_lt_of_le (val_lt hd) ?_
    rw [show (4294967296 : Nat) = 2 ^ 32 from rfl, ← Nat.pow_mul]
    exact Nat.pow_le_pow_right (by omega) (by simp; omega)
theorem TextInv.room {n : Nat} {d : List Nat} {L : List (List UInt8)} (h : TextInv n d L) (h0 : 0 < val d) : L.length < 2048 := by
  have h1 := h.bd
  have h2 := h.len
  rcases Nat.lt_or_ge L.length 2048 with g | g
  · exact g
  · rw [show 2048 - L.length = 0 by omega] at h1
    simp at h1
    omega
theorem TextInv.next {n : Nat} {d d' : List Nat} {L : List (List UInt8)} {l : List UInt8} (h : TextInv n d L) (h0 : 0 < val d) (ht : Tight d') (hle : d'.length ≤ 64) (hv : val d' = val d / 1000000000)
    (hl : l = if 0 < val d / 1000000000 then List.replicate (9 - nDigits (val d % 1000000000)) 48 ++ decDigits (val d % 1000000000) else decDigits (val d % 1000000000)) : TextInv n d' (L ++ [l]) := by
  have hr := h.room h0
  have hn := nDigits_nine (Nat.mod_lt (val d) (show 0 < 1000000000 by omega))
  refine ⟨ht, hle, ?_, ?_, by simp; omega, ?_⟩
  · rcases h.parts with ⟨_, h2, _⟩ | ⟨h1, h2⟩
    · omega
    · refine .inr ⟨h1, ?_⟩
      subst hl
      rw [hv]
      split
      · rename_i hq; exact parts_next h2 hq
      · rename_i hq
        have e : val d / 1000000000 = 0 := by omega
        rw [e]
        exact parts_last h2 h0 e
  · rw [hv, List.length_append, List.length_singleton]
    have h1 := h.bd
    obtain ⟨k, hk⟩ : ∃ k, 2048 - L.length = k + 1 := ⟨2048 - L.length - 1, by omega⟩
    rw [hk, Nat.pow_succ] at h1
    rw [show 2048 - (L.length + 1) = k by omega]
    omega
  · intro x hx
    rcases List.mem_append.1 hx with g | g
    · exact h.nine x g
    · rw [List.mem_singleton] at g
      subst g; subst hl
      split
      · rw [List.length_append, List.length_replicate, decDigits_length]; omega
      · rw [decDigits_length]; exact hn
theorem flatten_len {L : List (List UInt8)} (h : ∀ l ∈ L, l.length ≤ 9) : L.flatten.length ≤ 9 * L.length := by
  induction L with
  | nil => simp
  | cons x r ih =>
    have h1 := h x (List.mem_cons_self ..)
    have h2 := ih fun l hl => h l (List.mem_cons_of_mem _ hl)
    rw [List.flatten_cons, List.length_append, List.length_cons]
    omega
theorem join_none (L : List (List UInt8)) : Lib.join L [] = L.flatten := by
  cases L with
  | nil => rfl
  | cons x r =>
    rw [Lib.join_cons, List.flatten_cons]
    congr 1
    unfold Lib.joinTail
    congr 1
    exact List.map_id _
end Go.Proofs.YtghgggaimijcaaaDoor

namespace Go.Proofs.YtghgggaimijcaaaDoor
open Go.RowKit
open Go.Lib (decDigits decDigits_length nDigits)

theorem itoaC (n : Nat) (hn : n ≤ 9223372036854775807) (w : World) (ht : Tab w) : Calls Tryd.prog 33 #[.int .i64 (n : Int)] w fun e w' => e = .returned (.string (bytesT (decDigits n))) ∧ Ext w w' := by
  refine (Tryd.strconv_Itoa (n : Int) (by omega) (by omega) w ht).mono ?_
  rintro e w' ⟨rfl, k, os, rfl⟩
  exact ⟨by rw [Lib.itoa_nonneg]; rfl, Lib.below_grow _ _ (Nat.le_refl _) _ _⟩
theorem repeatL_zero (c : Nat) : Lib.repeatL [48] c = List.replicate c 48 := by
  induction c with
  | zero => rfl
  | succ c ih => rw [Lib.repeatL, ih, List.replicate_succ]; rfl
theorem repeatC (c : Nat) (hc : c ≤ 9) (w : World) : Calls Tryd.prog 50 #[.string ⟨#[48]⟩, .int .i64 (c : Int)] w fun e w' => e = .returned (.string (bytesT (List.replicate c 48))) ∧ Ext w w' := by
  refine (Tryd.strings_Repeat ⟨#[48]⟩ c w (by omega) (by show 1 * c ≤ _; omega)).mono ?_
  rintro e w' ⟨rfl, hx⟩
  refine ⟨?_, hx⟩
  rw [show (⟨#[48]⟩ : ByteArray).data.toList = [48] from rfl, repeatL_zero]
  rfl
theorem joinC (g c : Nat) (L : List (List UInt8)) (w : World) (hc : ∀ j x, L[j]? = some x → w.cell? ⟨g, j, none⟩ = some (encT x)) (hg : g < w.heap.size) (hl : L.length ≤ 2048) (hlc : L.length ≤ c) (h9 : L.flatten.length ≤ 100000) :
    Calls Tryd.prog 52 #[.slice (some ⟨g, 0, none⟩) L.length c, .string ⟨#[]⟩] w fun e w' => e = .returned (.string (bytesT L.flatten)) ∧ Ext w w' := by
  have e1 : (L.map fun l => (⟨l.toArray⟩ : ByteArray)).map (·.data.toList) = L := by rw [List.map_map]; exact (List.map_congr_left fun _ _ => rfl).trans (List.map_id _)
  have e2 : (L.map fun l => (⟨l.toArray⟩ : ByteArray)).length = L.length := by rw [List.length_map]
  have h := Tryd.strings_Join g 0 c (L.map fun l => (⟨l.toArray⟩ : ByteArray)) ⟨#[]⟩ w (fun j x hx => by
    rw [List.getElem?_map] at hx
    obtain ⟨l, h1, h2⟩ := Option.map_eq_some_iff.1 hx
    rw [Nat.zero_add, hc j l h1, ← h2]
    rfl) hg (by omega) (by omega) (by rw [e1, show (⟨#[]⟩ : ByteArray).data.toList = [] from rfl, join_none]; omega)
  rw [e1, e2, show (⟨#[]⟩ : ByteArray).data.toList = [] from rfl, join_none] at h
  exact h
theorem reverseC (g c B : Nat) (L : List (List UInt8)) (w : World) (hc : ∀ j x, L[j]? = some x → w.cell? ⟨g, j, none⟩ = some (encT x)) (hf : ∀ j, w.frozen? ⟨g, j, none⟩ = false) (hB : B ≤ g) (hl : L.length ≤ 2048) :
    Calls Tryd.prog 51 #[.slice (some ⟨g, 0, none⟩) L.length c] w fun e w' => e = .returned (.tuple #[]) ∧ (∀ j x, L.reverse[j]? = some x → w'.cell? ⟨g, j, none⟩ = some (encT x)) ∧ Below B w w' := by
  refine (Tryd.slices_Reverse_string_cells g 0 L.length c (fun i => ⟨(L[i]?.getD []).toArray⟩) w (by omega) (fun i hi => by
    rw [Nat.zero_add, hc i _ (List.getElem?_eq_getElem hi), List.getElem?_eq_getElem hi]
    rfl) (fun j _ => by rw [Nat.zero_add]; exact hf j)).mono ?_
  rintro e w' ⟨rfl, q, rfl⟩
  have e1 : Lib.strsOf (fun i => (⟨(L[i]?.getD []).toArray⟩ : ByteArray)) L.length = L := by
    refine List.ext_getElem (Lib.strsOf_length _ _) (fun i h1 h2 => ?_)
    simp [Lib.strsOf, h2]
  rw [e1]
  refine ⟨rfl, fun j x hx => ?_, below_setCells hB _ _ (Below.drewN (Below.refl _ _) _)⟩
  have hj : j < (L.reverse.map encStr).length := by
    rw [List.length_map]
    exact (List.getElem?_eq_some_iff.1 hx).1
  have := World.cell?_setCells_in g (L.reverse.map encStr) 0 (w.drewN q) (fun i hi => by
    rw [List.length_map, List.length_reverse] at hi
    rw [Nat.zero_add]
    show (w.cell? _).isSome = true
    rw [hc i _ (List.getElem?_eq_getElem hi)]
    rfl) j hj
  rw [Nat.zero_add] at this
  rw [this, List.getElem_map]
  have := (List.getElem?_eq_some_iff.1 hx).2
  rw [this]
  rfl
end Go.Proofs.YtghgggaimijcaaaDoor
