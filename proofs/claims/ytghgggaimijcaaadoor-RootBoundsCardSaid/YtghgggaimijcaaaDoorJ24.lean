/- Contracts: etchantref02.Same, etchantref02.Right. | Plain: the examples of the chapter on roots. | Contracts: root.sum, root.opposite. -/
import Derived.Test.YtghgggaimijcaaaDoorJ23
import Derived.Test.YtghgggaimijcaaaDoorJ15
import Derived.Test.YtghgggaimijcaaaDoorJ16
set_option linter.unusedVariables false
set_option linter.unusedSimpArgs false

namespace Go.Proofs.YtghgggaimijcaaaDoor
open Go.RowKit
attribute [local go_sem] Gives givesU

theorem sameB_right {x y : Nm} (dx : Dig x.d) (dy : Dig y.d) (rx : x.right = true) (ry : y.right = true) (h : sameB x y = true) : x = y := by
  unfold sameB at h
  simp only [Bool.and_eq_true, beq_iff_eq] at h
  have tx := (x.right_iff.1 rx).2.1
  have ty := (y.right_iff.1 ry).2.1
  rw [cmpL_tight dx dy tx ty] at h
  have hv : val x.d = val y.d := by
    have := h.2
    unfold cmpN at this
    split at this
    · cases this
    · split at this
      · assumption
      · cases this
  cases x; cases y
  simp only at *
  rw [← digs_val dx tx, ← digs_val dy ty, hv, h.1]
/-- What Same says of two roots. -/
def sameR (a b : Rt) : Bool := a.add == b.add && (a.s == b.s && (sameB a.n b.n && sameB a.d b.d))
theorem sameR_self (a : Rt) : sameR a a = true := by simp [sameR, sameB_self]
theorem sameR_eq {a b : Rt} (ka : a.Ok) (kb : b.Ok) (da : Dig a.n.d ∧ Dig a.d.d) (db : Dig b.n.d ∧ Dig b.d.d) (h : sameR a b = true) : a = b := by
  unfold sameR at h
  simp only [Bool.and_eq_true, beq_iff_eq] at h
  obtain ⟨h1, h2, h3, h4⟩ := h
  have e1 := sameB_right da.1 db.1 ka.nr kb.nr h3
  have e2 := sameB_right da.2 db.2 ka.dr kb.dr h4
  cases a; cases b
  simp only at *
  subst h1 h2 e1 e2
  rfl
/-- The reference's way to tell a right root. -/
theorem right_same {a : Rt} (da : Dig a.n.d ∧ Dig a.d.d) {b : Rt} {ok : Bool} (h : ofP a.add a.s a.n a.d = (b, ok)) : (ok && sameR a b) = a.right := by
  cases hr : a.right with
  | true =>
    obtain ⟨_, h2⟩ := right_ok da.1 da.2 hr
    rw [h] at h2
    simp only [Prod.mk.injEq] at h2
    obtain ⟨rfl, rfl⟩ := h2
    rw [sameR_self]
    rfl
  | false =>
    cases ok with
    | false => rfl
    | true =>
      obtain ⟨kb, hb, ha⟩ := ofP_ok da.1 da.2 h
      cases hs : sameR a b with
      | false => rfl
      | true =>
        exfalso
        have hbad : ofBad a.s a.n a.d = false := by
          cases hq : ofBad a.s a.n a.d with
          | false => rfl
          | true => unfold ofP at h; rw [hq] at h; simp at h
        obtain ⟨_, _, rn, rd, _, _⟩ := ofBad_false hbad
        unfold sameR at hs
        simp only [Bool.and_eq_true, beq_iff_eq] at hs
        obtain ⟨_, h2, h3, h4⟩ := hs
        have cm : ∀ {x y : Nm}, Dig x.d → Dig y.d → x.right = true → y.right = true → sameB x y = true → cmpP x y = 0 := fun dx dy rx ry hh => by
          rw [sameB_right dx dy rx ry hh]; exact cmpP_self ry
        have form : Dig b.n.d ∧ Dig b.d.d := by
          have hb2 := h
          unfold ofP at hb2
          rw [hbad, if_neg (by simp)] at hb2
          split at hb2
          · obtain rfl : (⟨a.add, 0, zero, ofZ 1⟩ : Rt) = b := congrArg Prod.fst hb2
            exact ⟨Dig.nil, dig_digs _⟩
          · split at hb2
            · simp at hb2
            · obtain rfl := congrArg Prod.fst hb2
              exact ⟨dig_digs _, dig_digs _⟩
        have : a.right = true := by
          unfold Rt.right
          rw [h]
          simp [h2, cm da.1 form.1 rn kb.nr h3, cm da.2 form.2 rd kb.dr h4]
        rw [hr] at this
        cases this
theorem r01_SameE (a b : Nm) (v : Bool) (na nb : Bool) (pa pb : Option Addr) (la ca lb cb : Nat) (w : World) (ha : NR w na pa la ca a) (hb : NR w nb pb lb cb b) (h : sameB a b = v) :
    Calls Tryd.prog 32 #[.agg #[.bool na, .slice pa la ca], .agg #[.bool nb, .slice pb lb cb]] w fun e w' => e = .returned (.bool v) ∧ Ext w w' := by
  subst h
  exact r01_Same a b _ _ _ _ _ _ _ _ _ ha hb
set_option maxRecDepth 100000 in
set_option maxHeartbeats 4000000 in
theorem r02_Same (add s : Int) (x y : Nm) (n m : Bool) (p q : Option Addr) (l c k d : Nat) (ba bs : Int) (bn bd : Nm) (n1 m1 : Bool) (p1 q1 : Option Addr) (l1 c1' k1 d1 : Nat) (w : World)
    (hn : NR w n p l c x) (hd : NR w m q k d y) (hn1 : NR w n1 p1 l1 c1' bn) (hd1 : NR w m1 q1 k1 d1 bd) :
    Calls Tryd.prog 13 #[.agg #[.int .i64 add, .int .i64 s, .bool n, .slice p l c, .bool m, .slice q k d], .agg #[.int .i64 ba, .int .i64 bs, .bool n1, .slice p1 l1 c1', .bool m1, .slice q1 k1 d1]] w fun e w' => e = .returned (.bool (sameR ⟨add, s, x, y⟩ ⟨ba, bs, bn, bd⟩)) ∧ Ext w w' := by
  have HN := Lib.hid hn
  have HD := Lib.hid hd
  have HN1 := Lib.hid hn1
  have HD1 := Lib.hid hd1
  clear hn hd hn1 hd1
  obtain ⟨v1, V1⟩ : ∃ v, Hid (sameB x bn = v) := ⟨_, Lib.hid rfl⟩
  obtain ⟨v2, V2⟩ : ∃ v, Hid (sameB y bd = v) := ⟨_, Lib.hid rfl⟩
  have RES : Hid (sameR ⟨add, s, x, y⟩ ⟨ba, bs, bn, bd⟩ = (add == ba && (s == bs && (v1 && v2)))) := Lib.hid (by unfold sameR; simp only; rw [V1.out, V2.out])
  go_enter Tryd.func13, Tryd.ntmps13
  go_upto_region 1 with (fail)
  refine wp_know (fun W => Ext w W ∧ RB W w.heap.size add s n p l c m q k d ∧ RB W (w.heap.size + 1) ba bs n1 p1 l1 c1' m1 q1 k1 d1) ?_ ?_
  · exact ⟨bxx, RB.heap (heap_old (heap_new rfl)), RB.heap (heap_new (by simp))⟩
  rintro W0 ⟨ex, rb, rg⟩
  obtain ⟨e0, e1, e2, ⟨e3, e4⟩, ⟨e5, e6⟩, ef⟩ := id rb
  obtain ⟨h0, h1, h2, ⟨h3, h4⟩, ⟨h5, h6⟩, hf⟩ := id rg
  have hN := Lib.hid (HN.out.ext ex)
  have hD := Lib.hid (HD.out.ext ex)
  have hN1 := Lib.hid (HN1.out.ext ex)
  have hD1 := Lib.hid (HD1.out.ext ex)
  clear rb rg ef hf HN HD HN1 HD1
  by_cases b1 : add = ba
  · have f1 : (add == ba) = true := by simpa using b1
    have B1 := Lib.hid b1
    clear b1
    by_cases b2 : s = bs
    · have f2 : (s == bs) = true := by simpa using b2
      have B2 := Lib.hid b2
      clear b2
      cases v1 with
      | true =>
        refine wp_FS (fun W => W.cell? ⟨w.heap.size, 0, none⟩ = some (.int .i64 add) ∧ W.cell? ⟨w.heap.size, 1, none⟩ = some (.int .i64 s) ∧ W.cell? ⟨w.heap.size, 2, none⟩ = some (.bool n) ∧ W.cell? ⟨w.heap.size, 3, none⟩ = some (.slice p l c) ∧ W.cell? ⟨w.heap.size, 4, none⟩ = some (.bool m) ∧ W.cell? ⟨w.heap.size, 5, none⟩ = some (.slice q k d) ∧ W.cell? ⟨w.heap.size + 1, 0, none⟩ = some (.int .i64 ba) ∧ W.cell? ⟨w.heap.size + 1, 1, none⟩ = some (.int .i64 bs) ∧ W.cell? ⟨w.heap.size + 1, 2, none⟩ = some (.bool n1) ∧ W.cell? ⟨w.heap.size + 1, 3, none⟩ = some (.slice p1 l1 c1') ∧ W.cell? ⟨w.heap.size + 1, 4, none⟩ = some (.bool m1) ∧ W.cell? ⟨w.heap.size + 1, 5, none⟩ = some (.slice q1 k1 d1)) ?_
        repeat (first | refine F_s ?_ | refine F_r ?_)
        (refine F_call (v := .bool true) (by rfl) (by rfl) ?_ ?_; (· (intro W hW; (try dsimp only at hW); go_simp; refine (r01_SameE x bn true _ _ _ _ _ _ _ _ _ (hN.out.ext hW.1) (hN1.out.ext hW.1) V1.out).mono ?_; rintro e w' ⟨rfl, hx⟩; exact ⟨_, rfl, rfl, hx⟩))); refine F_put ?_
        repeat (first | refine F_s ?_ | refine F_r ?_)
        (refine F_call (v := .bool v2) (by rfl) (by rfl) ?_ ?_; (· (intro W hW; (try dsimp only at hW); go_simp; refine (r01_SameE y bd v2 _ _ _ _ _ _ _ _ _ (hD.out.ext hW.1) (hD1.out.ext hW.1) V2.out).mono ?_; rintro e w' ⟨rfl, hx⟩; exact ⟨_, rfl, rfl, hx⟩))); refine F_put ?_
        repeat (first | refine F_s ?_ | refine F_r ?_)
        rintro W3 ⟨hx, _⟩
        go_wp2
        go_ret
        refine ⟨?_, Ext.step ex hx⟩
        rw [RES.out, f1, f2]
        first | rfl | simp
      | false =>
        refine wp_FS (fun W => W.cell? ⟨w.heap.size, 0, none⟩ = some (.int .i64 add) ∧ W.cell? ⟨w.heap.size, 1, none⟩ = some (.int .i64 s) ∧ W.cell? ⟨w.heap.size, 2, none⟩ = some (.bool n) ∧ W.cell? ⟨w.heap.size, 3, none⟩ = some (.slice p l c) ∧ W.cell? ⟨w.heap.size, 4, none⟩ = some (.bool m) ∧ W.cell? ⟨w.heap.size, 5, none⟩ = some (.slice q k d) ∧ W.cell? ⟨w.heap.size + 1, 0, none⟩ = some (.int .i64 ba) ∧ W.cell? ⟨w.heap.size + 1, 1, none⟩ = some (.int .i64 bs) ∧ W.cell? ⟨w.heap.size + 1, 2, none⟩ = some (.bool n1) ∧ W.cell? ⟨w.heap.size + 1, 3, none⟩ = some (.slice p1 l1 c1') ∧ W.cell? ⟨w.heap.size + 1, 4, none⟩ = some (.bool m1) ∧ W.cell? ⟨w.heap.size + 1, 5, none⟩ = some (.slice q1 k1 d1)) ?_
        repeat (first | refine F_s ?_ | refine F_r ?_)
        (refine F_call (v := .bool false) (by rfl) (by rfl) ?_ ?_; (· (intro W hW; (try dsimp only at hW); go_simp; refine (r01_SameE x bn false _ _ _ _ _ _ _ _ _ (hN.out.ext hW.1) (hN1.out.ext hW.1) V1.out).mono ?_; rintro e w' ⟨rfl, hx⟩; exact ⟨_, rfl, rfl, hx⟩))); refine F_put ?_
        repeat (first | refine F_s ?_ | refine F_r ?_)
        rintro W3 ⟨hx, _⟩
        go_wp2
        go_ret
        refine ⟨?_, Ext.step ex hx⟩
        rw [RES.out, f1, f2]
        first | rfl | simp
    · have f2 : (s == bs) = false := by simpa using b2
      have B2 := Lib.hid b2
      clear b2
      refine wp_FS (fun W => W.cell? ⟨w.heap.size, 0, none⟩ = some (.int .i64 add) ∧ W.cell? ⟨w.heap.size, 1, none⟩ = some (.int .i64 s) ∧ W.cell? ⟨w.heap.size, 2, none⟩ = some (.bool n) ∧ W.cell? ⟨w.heap.size, 3, none⟩ = some (.slice p l c) ∧ W.cell? ⟨w.heap.size, 4, none⟩ = some (.bool m) ∧ W.cell? ⟨w.heap.size, 5, none⟩ = some (.slice q k d) ∧ W.cell? ⟨w.heap.size + 1, 0, none⟩ = some (.int .i64 ba) ∧ W.cell? ⟨w.heap.size + 1, 1, none⟩ = some (.int .i64 bs) ∧ W.cell? ⟨w.heap.size + 1, 2, none⟩ = some (.bool n1) ∧ W.cell? ⟨w.heap.size + 1, 3, none⟩ = some (.slice p1 l1 c1') ∧ W.cell? ⟨w.heap.size + 1, 4, none⟩ = some (.bool m1) ∧ W.cell? ⟨w.heap.size + 1, 5, none⟩ = some (.slice q1 k1 d1)) ?_
      repeat (first | refine F_s ?_ | refine F_r ?_)
      rintro W3 ⟨hx, _⟩
      go_wp2
      go_ret
      refine ⟨?_, Ext.step ex hx⟩
      rw [RES.out, f1, f2]
      first | rfl | simp
  · have f1 : (add == ba) = false := by simpa using b1
    have B1 := Lib.hid b1
    clear b1
    refine wp_FS (fun W => W.cell? ⟨w.heap.size, 0, none⟩ = some (.int .i64 add) ∧ W.cell? ⟨w.heap.size, 1, none⟩ = some (.int .i64 s) ∧ W.cell? ⟨w.heap.size, 2, none⟩ = some (.bool n) ∧ W.cell? ⟨w.heap.size, 3, none⟩ = some (.slice p l c) ∧ W.cell? ⟨w.heap.size, 4, none⟩ = some (.bool m) ∧ W.cell? ⟨w.heap.size, 5, none⟩ = some (.slice q k d) ∧ W.cell? ⟨w.heap.size + 1, 0, none⟩ = some (.int .i64 ba) ∧ W.cell? ⟨w.heap.size + 1, 1, none⟩ = some (.int .i64 bs) ∧ W.cell? ⟨w.heap.size + 1, 2, none⟩ = some (.bool n1) ∧ W.cell? ⟨w.heap.size + 1, 3, none⟩ = some (.slice p1 l1 c1') ∧ W.cell? ⟨w.heap.size + 1, 4, none⟩ = some (.bool m1) ∧ W.cell? ⟨w.heap.size + 1, 5, none⟩ = some (.slice q1 k1 d1)) ?_
    repeat (first | refine F_s ?_ | refine F_r ?_)
    rintro W3 ⟨hx, _⟩
    go_wp2
    go_ret
    refine ⟨?_, Ext.step ex hx⟩
    rw [RES.out, f1]
    first | rfl | simp
theorem r02_OfE (add s : Int) (x y : Nm) (r : Rt × Bool) (n m : Bool) (p q : Option Addr) (l c k d : Nat) (w : World) (hn : NR w n p l c x) (hd : NR w m q k d y) (h : ofP add s x y = r) :
    Calls Tryd.prog 46 #[.int .i64 add, .int .i64 s, .agg #[.bool n, .slice p l c], .agg #[.bool m, .slice q k d]] w (RetRt w r) := h ▸ r02_Of add s x y n m p q l c k d w hn hd
end Go.Proofs.YtghgggaimijcaaaDoor

namespace Go.Proofs.YtghgggaimijcaaaDoor
open Go.RowKit
open Go.Lib (decDigits decDigits_one)

theorem gcd_self1 (n : Nat) : Nat.gcd n 1 = 1 := Nat.gcd_one_right n
/-- A root without a fraction. -/
def sqR (add s : Int) (n : Nat) : Rt := ⟨add, s, ofZ (n : Int), ofZ 1⟩
theorem ofP_sq {add s : Int} {n : Nat} (hs : s = 1 ∨ s = -1) (hn : n < 4294967296 ^ 8) (h0 : 0 < n) : ofP add s (ofZ (n : Int)) (ofZ 1) = (sqR add s n, true) := by
  have h1 : (1 : Nat) < 4294967296 ^ 8 := by decide +kernel
  have h := ofP_nat (add := add) (s := s) (n := n) (d := 1) (by omega) hn h1 (by decide)
  rw [show ((1 : Nat) : Int) = 1 from rfl] at h
  rw [h]
  unfold rootOf sqR
  rw [if_neg (by omega), Nat.gcd_one_right, Nat.div_one, Nat.div_one]
  rfl
theorem sq_right {add s : Int} {n : Nat} (hs : s = 1 ∨ s = -1) (hn : n < 4294967296 ^ 8) (h0 : 0 < n) : (sqR add s n).right = true := by
  obtain ⟨h1, h2, _⟩ := ofP_ok (dig_digs _) (dig_digs _) (ofP_sq (add := add) hs hn h0)
  exact right_of h2 h1.nr h1.dr
theorem big8 : (1000 : Nat) < 4294967296 ^ 8 := by decide +kernel
theorem ex_of1 : ofP 3 (-1) (ofZ 8) (ofZ 18) = (⟨3, -1, ofZ 4, ofZ 9⟩, true) := by
  have h := ofP_nat (add := 3) (s := -1) (n := 8) (d := 18) (by decide) (by decide +kernel) (by decide +kernel) (by decide)
  exact h.trans (by unfold rootOf; rw [if_neg (by decide)]; rfl)
theorem ex_of2 : ofP 3 1 (ofZ 0) (ofZ 5) = (⟨3, 0, zero, ofZ 1⟩, true) := by
  have h := ofP_nat (add := 3) (s := 1) (n := 0) (d := 5) (by decide) (by decide +kernel) (by decide +kernel) (by decide)
  exact h.trans (by unfold rootOf; rw [if_pos (by decide)])
theorem ex_of3 : ofP 0 1 (ofZ 1) (ofZ 0) = (Rt.no, false) := by
  unfold ofP
  rw [if_pos]
  simp [ofBad, ofZ_z]
theorem ex_of4 : ofP 0 2 (ofZ 1) (ofZ 1) = (Rt.no, false) := by
  unfold ofP
  rw [if_pos]
  simp [ofBad]
theorem ex_right : Rt.right ⟨3, -1, ofZ 4, ofZ 9⟩ = true := by
  obtain ⟨h1, h2, _⟩ := ofP_ok (dig_digs _) (dig_digs _) ex_of1
  exact right_of h2 h1.nr h1.dr
theorem ex_text : bytesT (textR ⟨3, -1, ofZ 4, ofZ 9⟩) = ⟨#[51, 45, 114, 52, 47, 57]⟩ := by
  have s4 : small 4 = true := by decide +kernel
  have s9 : small 9 = true := by decide +kernel
  have t4 : textL (ofZ 4) = [52] := by rw [textL_dec (ofZ_right s4) (by simp [ofZ]), val_ofZ, decDigits_one (by decide)]; rfl
  have t9 : textL (ofZ 9) = [57] := by rw [textL_dec (ofZ_right s9) (by simp [ofZ]), val_ofZ, decDigits_one (by decide)]; rfl
  have e : textR ⟨3, -1, ofZ 4, ofZ 9⟩ = [51, 45, 114, 52, 47, 57] := by
    unfold textR textS textD
    rw [ex_right, if_pos rfl, if_neg (by decide), if_pos rfl, ofZ_z, if_neg (by decide)]
    simp only []
    rw [t4, t9, show textI 3 = [51] by unfold textI; rw [if_neg (by decide), decDigits_one (by decide)]; rfl]
    rfl
  rw [e]
  rfl
theorem good_nat {n : Int} (h : n.natAbs < 1000) : goodB (ofZ n) = true := by
  have hp : (1000 : Nat) < 4294967296 ^ 20 := by decide +kernel
  unfold goodB
  rw [ofZ_right (small_of_lt (k := 20) (by omega) (by decide))]
  have : (ofZ n).d.length ≤ 20 := by
    simp only [ofZ]
    exact (digs_length_le _ _).2 (by omega)
  simp [this]
theorem signP_nat {a b c : Int} (ha : a.natAbs < 1000) (hb : b.natAbs < 1000) (hc : c.natAbs < 1000) (h0 : 0 ≤ c) : signP (ofZ a) (ofZ b) (ofZ c) = sideZ a b c := by
  unfold signP
  rw [good_nat ha, good_nat hb, good_nat hc, show (ofZ c).neg = false by simp [ofZ]; omega, ofZ_z, ofZ_z, ofZ_z]
  rfl
theorem cmp_sq2 {a1 s1 a2 s2 : Int} {n1 n2 : Nat} (h1 : s1 = 1 ∨ s1 = -1) (h2 : s2 = 1 ∨ s2 = -1) (k1 : n1 < 1000) (k2 : n2 < 1000) (p1 : 0 < n1) (p2 : 0 < n2) :
    cmpRt (sqR a1 s1 n1) (sqR a2 s2 n2) = cmpR (a1 - a2) s1 n1 1 s2 n2 1 := by
  unfold cmpRt
  rw [sq_right h1 (Nat.lt_trans k1 big8) p1, sq_right h2 (Nat.lt_trans k2 big8) p2]
  unfold sqR
  simp only [ofZ_z, Bool.and_self, if_true]
theorem cmp_sqI {a1 s1 i : Int} {n1 : Nat} (h1 : s1 = 1 ∨ s1 = -1) (k1 : n1 < 1000) (p1 : 0 < n1) :
    cmpRt (sqR a1 s1 n1) ⟨i, 0, zero, ofZ 1⟩ = cmpR (a1 - i) s1 n1 1 0 0 1 := by
  have hw : Rt.right ⟨i, 0, zero, ofZ 1⟩ = true := by
    have h := ofP_nat (add := i) (s := 0) (n := 0) (d := 1) (by decide) (by decide +kernel) (by decide +kernel) (by decide)
    obtain ⟨q1, q2, _⟩ := ofP_ok (dig_digs _) (dig_digs _) h
    have e : rootOf i 0 0 1 = ⟨i, 0, zero, ofZ 1⟩ := by unfold rootOf; rw [if_pos (.inl rfl)]
    rw [e] at q1 q2
    exact right_of q2 q1.nr q1.dr
  unfold cmpRt
  rw [sq_right h1 (Nat.lt_trans k1 big8) p1, hw]
  unfold sqR
  simp only [ofZ_z, Bool.and_self, if_true]
  rfl
theorem ex_plus : plusR (sqR 9223372036854775807 1 2) 1 = (Rt.no, false) := by
  unfold plusR
  rw [show inI ((sqR 9223372036854775807 1 2).add + 1) = false by decide, Bool.and_false]
  rfl
end Go.Proofs.YtghgggaimijcaaaDoor

namespace Go.Proofs.YtghgggaimijcaaaDoor
open Go.RowKit
attribute [local go_sem] Gives givesU

/-- The sum of numbers. -/
def sumZ (l : List Nm) : Int := l.foldl (fun z a => z + a.z) 0
theorem sumZ_snoc (l : List Nm) (a : Nm) : sumZ (l ++ [a]) = sumZ l + a.z := by simp [sumZ]
theorem sumZ_take (l : List Nm) (k : Nat) (a : Nm) (h : l[k]? = some a) : sumZ (l.take (k + 1)) = sumZ (l.take k) + a.z := by
  have hk := (List.getElem?_eq_some_iff.1 h).1
  rw [List.take_succ_eq_append_getElem hk, sumZ_snoc]
  rw [List.getElem?_eq_getElem hk] at h
  cases h
  rfl
theorem addP_small {a b : Nm} {z : Int} (ra : a.right = true) (rb : b.right = true) (hz : a.z + b.z = z) (hs : small z = true) : addP a b = (ofZ z, true) := by
  unfold addP fit
  rw [ra, rb, hz, hs]
  rfl
theorem ofZ_zero : ofZ 0 = zero := by unfold zero ofZ; simp [digs_zero]

set_option maxRecDepth 100000 in
set_option maxHeartbeats 2000000 in
theorem root_sum (l : List Nm) (b : Nat) (n c : Nat) (w : World) (h : NRs w b l) (hn : n = l.length) (hl : l.length ≤ 1000) (hs : ∀ k, small (sumZ (l.take k)) = true) :
    Calls Tryd.prog 27 #[.slice (some ⟨b, 0, none⟩) n c] w (RetN w (ofZ (sumZ l))) := by
  subst hn
  have HS := Lib.hid hs
  clear hs
  have HN := Lib.hid h
  have hb := h.1
  clear h
  go_enter Tryd.func27, Tryd.ntmps27
  go_wp2_with fail
  obtain ⟨w1, W1⟩ : ∃ w1, Hid (w.alloc (.cells #[.bool false, .slice none 0 0] 25) = w1) := ⟨_, rfl⟩
  rw [W1.out]
  have hx1 : Ext w w1 := by rw [← W1.out]; exact bxx
  have s0 : w1.cell? ⟨w.heap.size, 0, none⟩ = some (.bool false) := by rw [← W1.out]; go_simp
  have s1 : w1.cell? ⟨w.heap.size, 1, none⟩ = some (.slice none 0 0) := by rw [← W1.out]; go_simp
  have sf : ∀ o, w1.frozen? ⟨w.heap.size, o, none⟩ = false := by intro o; rw [← W1.out]; go_simp
  have hz1 : w.heap.size < w1.heap.size := by rw [← W1.out]; simp
  go_loopw [9] (fun i wr => ∃ (k : Nat) (n' : Bool) (p' : Option Addr) (l' c' : Nat), k ≤ l.length ∧ i = .int .i64 (k : Int) ∧ wr.cell? ⟨w.heap.size, 0, none⟩ = some (.bool n') ∧ wr.cell? ⟨w.heap.size, 1, none⟩ = some (.slice p' l' c') ∧ (∀ o, wr.frozen? ⟨w.heap.size, o, none⟩ = false) ∧
      NR wr n' p' l' c' (ofZ (sumZ (l.take k))) ∧ (∀ x, p' = some x → w.heap.size < x.block) ∧ w.heap.size < wr.heap.size ∧ Ext w wr) (fun i _ => l.length - (intOf i).toNat)
  case atStart => exact ⟨0, false, none, 0, 0, Nat.zero_le _, rfl, s0, s1, sf, by rw [show sumZ (l.take 0) = 0 by simp [sumZ], ofZ_zero]; exact NR.zero _, fun x hx => (by cases hx), hz1, hx1⟩
  case round =>
    clear s0 s1 sf hz1 hx1
    obtain ⟨k, n', p', l', c', hk, rfl, s0, s1, sf, hnr, hnew, hzr, hx⟩ := hrel
    by_cases hlt : k < l.length
    · have hb2 : b < wr.heap.size := Nat.lt_of_lt_of_le hb hx.size
      obtain ⟨ra, n2, p2, l2, c2, e0, e1, hna⟩ := (HN.out.ext hx).2 k l[k] (List.getElem?_eq_getElem hlt)
      have PR := Lib.hid (sumZ_take l k l[k] (List.getElem?_eq_getElem hlt))
      clear hnew
      go_wp2_with fail
      have MP := Lib.hid (addP_small (ofZ_right (HS.out k)) ra (by rw [ofZ_z]; exact PR.out.symm) (HS.out (k + 1)))
      refine (num_Add (ofZ (sumZ (l.take k))) l[k] _ _ _ _ _ _ _ _ _ (hnr.alloc _) (hna.alloc _)).mono ?_
      rintro e w3 ⟨n3, p3, l3, c3, rfl, hnr3, hnew3, hx3⟩
      rw [MP.out] at hnr3 ⊢
      have hx4 : Ext wr w3 := Ext.step bxx hx3
      have hx5 : Ext w w3 := Ext.step hx hx4
      have s0' : w3.cell? ⟨w.heap.size, 0, none⟩ = some (.bool n') := (hx4.cell (p := ⟨w.heap.size, 0, none⟩) hzr).trans s0
      have s1' : w3.cell? ⟨w.heap.size, 1, none⟩ = some (.slice p' l' c') := (hx4.cell (p := ⟨w.heap.size, 1, none⟩) hzr).trans s1
      have sf' : ∀ o, w3.frozen? ⟨w.heap.size, o, none⟩ = false := fun o => (hx4.frozen (p := ⟨w.heap.size, o, none⟩) hzr).trans (sf o)
      have hw2 : w.heap.size < w3.heap.size := Nat.lt_of_lt_of_le hzr hx4.size
      have hnew4 : ∀ x, p3 = some x → w.heap.size < x.block := fun x hx => by have := hnew3 x hx; simp at this; omega
      have NEW := Lib.hid hnew4
      clear hnew3 hnew4 s0 s1 sf hnr hna hx3 e0 e1
      go_wp2_with fail
      refine ⟨⟨k + 1, n3, p3, l3, c3, by omega, rfl, by go_simp, by go_simp, fun o => by go_simp, ?_, fun x hx => NEW.out x hx, by simp; omega, bxx⟩, by simp [intOf]; omega⟩
      refine (NR.set' (NR.set' hnr3 _ ?_ _) _ ?_ _).alloc _
      · intro y hy; have := NEW.out y hy; simp; omega
      · intro y hy; have := NEW.out y hy; simp; omega
    · obtain rfl : k = l.length := by omega
      rw [List.take_of_length_le (Nat.le_refl _)] at hnr
      have HNW := Lib.hid hnew
      clear hnew
      go_wp2_with fail
      refine bodyPost_ret (v := .agg #[.bool n', .slice p' l' c']) (by simp [results, Tryd.results27, go_sem, *]) rfl ?_
      refine ⟨n', p', l', c', rfl, ?_, fun x hx => Nat.le_of_lt (HNW.out x hx), bxx⟩
      refine NR.set' (NR.set' hnr _ ?_ _) _ ?_ _
      · intro y hy; have := HNW.out y hy; simp; omega
      · intro y hy; have := HNW.out y hy; simp; omega
set_option maxRecDepth 100000 in
set_option maxHeartbeats 2000000 in
theorem root_opposite (a : Nm) (na : Bool) (pa : Option Addr) (la ca : Nat) (w : World) (ha : NR w na pa la ca a) (ra : a.right = true) (z : Int) (hz : -a.z = z) (hs : small z = true) :
    Calls Tryd.prog 28 #[.agg #[.bool na, .slice pa la ca]] w (RetN w (ofZ z)) := by
  have HA := Lib.hid ha
  have sm1 : small (-1) = true := by decide +kernel
  have rm1 := ofZ_right sm1
  have HS : Hid (∀ k, small (prodZ ([ofZ (-1), a].take k)) = true) := Lib.hid (by
    intro k
    match k with
    | 0 => exact small_one
    | 1 => simpa [prodZ, ofZ_z] using sm1
    | k + 2 =>
      have e : prodZ ([ofZ (-1), a].take (k + 2)) = z := by simp [prodZ, ofZ_z]; omega
      rw [e]; exact hs)
  have HP : Hid (prodZ [ofZ (-1), a] = z) := Lib.hid (by simp [prodZ, ofZ_z]; omega)
  clear ha hz hs sm1
  go_enter Tryd.func28, Tryd.ntmps28
  go_wp2_with fail
  refine wp_GR (w.heap.size + 1) (.cells #[.bool false, .slice none 0 0] 25) (fun W => Ext w W ∧ w.heap.size + 1 + 1 ≤ W.heap.size ∧ W.cell? ⟨w.heap.size, 0, none⟩ = some (.bool na) ∧ W.cell? ⟨w.heap.size, 1, none⟩ = some (.slice pa la ca)) ?_
  intro hSM hRKS
  refine F_num w (ofZ (-1)) (by rfl) (by rfl) (by intro W hW; (try dsimp only at hW); have hwW := (show w.heap.size ≤ W.heap.size by have hzz := hW; (repeat (first | exact hzz.size | exact hzz.1.size | replace hzz := hzz.1))); go_simp; exact (num_Of (-1) _ (by decide) (by decide)).mono fun _ _ h => RetN.isN hwW h) ?_; intro n1 p1 l1 c1 hn1; refine F_put ?_
  repeat (first | refine F_s ?_ | refine F_r ?_)
  refine F_ns2 (ofZ (-1)) a _ _ (by rfl) (by rfl) (by rfl) (by rfl) (by rfl) (fun W hW => ⟨hW.2, HA.out.ext hW.1.1.1⟩) rm1 ra ?_
  intro g
  refine F_put ?_
  repeat (first | refine F_s ?_ | refine F_r ?_)
  refine F_num w (ofZ z) (by rfl) (by rfl) (by intro W hW; (try dsimp only at hW); have hwW := (show w.heap.size ≤ W.heap.size by have hzz := hW; (repeat (first | exact hzz.size | exact hzz.1.size | replace hzz := hzz.1))); go_simp; exact ((HP.out ▸ root_times2 (ofZ (-1)) a g 2 W hW.2 HS.out)).mono fun _ _ h => RetN.isN hwW h) ?_; intro n2 p2 l2 c2 hn2; refine F_put ?_
  repeat (first | refine F_s ?_ | refine F_r ?_)
  refine F_w (fun W => _ ∧ NR W n2 p2 l2 c2 (ofZ z)) (fun W hW => ⟨⟨hW.1.1.1.1, hW.2⟩, hW.1.1.1.2⟩) ?_
  repeat (first | refine F_s ?_ | refine F_r ?_)
  rintro W ⟨⟨⟨⟨hx, hz, hc⟩, hn⟩, hb⟩, _⟩
  obtain ⟨c0, c1, _, hl⟩ := pt_block hb
  clear hc hb
  go_wp2
  refine bodyPost_ret (v := .agg #[.bool n2, .slice p2 l2 c2]) (by simp [results, Tryd.results28, go_sem, *]) rfl ?_
  exact ⟨n2, p2, l2, c2, rfl, hn, hn2, hx⟩
end Go.Proofs.YtghgggaimijcaaaDoor
