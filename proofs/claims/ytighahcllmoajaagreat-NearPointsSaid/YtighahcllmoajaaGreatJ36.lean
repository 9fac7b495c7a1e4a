/- Contracts: etchantref02.Same, etchantref02.Right. | Contract: etchantref02.Cmp. -/
import Derived.Test.YtighahcllmoajaaGreatJ34
import Derived.Test.YtighahcllmoajaaGreatJ35
set_option linter.unusedVariables false
set_option linter.unusedSimpArgs false

namespace Go.Proofs.YtighahcllmoajaaGreat
open Go.RowKit
attribute [local go_sem] Gives givesU

theorem sameB_right {x y : Nm} (dx : Dig x.d) (dy : Dig y.d) (rx : x.right = true) (ry : y.right = true) (h : sameB x y = true) : x = y := by
  unfold sameB at h
  simp only [Bool.and_eq_true, beq_iff_eq] at h
  have tx := (x.right_iff.1 rx).2.1
  have ty := (y.right_iff.1 ry).2.1
  rw [cmpL_tight dx dy tx ty] at h
  have hv : val x.d = val y.d := by
    have := h.2
    unfold cmpN at this
    split at this
    · cases this
    · split at this
      · assumption
      · cases this
  cases x; cases y
  simp only at *
  rw [← digs_val dx tx, ← digs_val dy ty, hv, h.1]
/-- What Same says of two roots. -/
def sameR (a b : Rt) : Bool := a.add == b.add && (a.s == b.s && (sameB a.n b.n && sameB a.d b.d))
theorem sameR_self (a : Rt) : sameR a a = true := by simp [sameR, sameB_self]
theorem sameR_eq {a b : Rt} (ka : a.Ok) (kb : b.Ok) (da : Dig a.n.d ∧ Dig a.d.d) (db : Dig b.n.d ∧ Dig b.d.d) (h : sameR a b = true) : a = b := by
  unfold sameR at h
  simp only [Bool.and_eq_true, beq_iff_eq] at h
  obtain ⟨h1, h2, h3, h4⟩ := h
  have e1 := sameB_right da.1 db.1 ka.nr kb.nr h3
  have e2 := sameB_right da.2 db.2 ka.dr kb.dr h4
  cases a; cases b
  simp only at *
  subst h1 h2 e1 e2
  rfl
/-- The reference's way to tell a right root. -/
theorem right_same {a : Rt} (da : Dig a.n.d ∧ Dig a.d.d) {b : Rt} {ok : Bool} (h : ofP a.add a.s a.n a.d = (b, ok)) : (ok && sameR a b) = a.right := by
  cases hr : a.right with
  | true =>
    obtain ⟨_, h2⟩ := right_ok da.1 da.2 hr
    rw [h] at h2
    simp only [Prod.mk.injEq] at h2
    obtain ⟨rfl, rfl⟩ := h2
    rw [sameR_self]
    rfl
  | false =>
    cases ok with
    | false => rfl
    | true =>
      obtain ⟨kb, hb, ha⟩ := ofP_ok da.1 da.2 h
      cases hs : sameR a b with
      | false => rfl
      | true =>
        exfalso
        have hbad : ofBad a.s a.n a.d = false := by
          cases hq : ofBad a.s a.n a.d with
          | false => rfl
          | true => unfold ofP at h; rw [hq] at h; simp at h
        obtain ⟨_, _, rn, rd, _, _⟩ := ofBad_false hbad
        unfold sameR at hs
        simp only [Bool.and_eq_true, beq_iff_eq] at hs
        obtain ⟨_, h2, h3, h4⟩ := hs
        have cm : ∀ {x y : Nm}, Dig x.d → Dig y.d → x.right = true → y.right = true → sameB x y = true → cmpP x y = 0 := fun dx dy rx ry hh => by
          rw [sameB_right dx dy rx ry hh]; exact cmpP_self ry
        have form : Dig b.n.d ∧ Dig b.d.d := by
          have hb2 := h
          unfold ofP at hb2
          rw [hbad, if_neg (by simp)] at hb2
          split at hb2
          · obtain rfl : (⟨a.add, 0, zero, ofZ 1⟩ : Rt) = b := congrArg Prod.fst hb2
            exact ⟨Dig.nil, dig_digs _⟩
          · split at hb2
            · simp at hb2
            · obtain rfl := congrArg Prod.fst hb2
              exact ⟨dig_digs _, dig_digs _⟩
        have : a.right = true := by
          unfold Rt.right
          rw [h]
          simp [h2, cm da.1 form.1 rn kb.nr h3, cm da.2 form.2 rd kb.dr h4]
        rw [hr] at this
        cases this
theorem r01_SameE (a b : Nm) (v : Bool) (na nb : Bool) (pa pb : Option Addr) (la ca lb cb : Nat) (w : World) (ha : NR w na pa la ca a) (hb : NR w nb pb lb cb b) (h : sameB a b = v) :
    Calls Tryz.prog 49 #[.agg #[.bool na, .slice pa la ca], .agg #[.bool nb, .slice pb lb cb]] w fun e w' => e = .returned (.bool v) ∧ Ext w w' := by
  subst h
  exact r01_Same a b _ _ _ _ _ _ _ _ _ ha hb
set_option maxRecDepth 100000 in
set_option maxHeartbeats 4000000 in
theorem r02_Same (add s : Int) (x y : Nm) (n m : Bool) (p q : Option Addr) (l c k d : Nat) (ba bs : Int) (bn bd : Nm) (n1 m1 : Bool) (p1 q1 : Option Addr) (l1 c1' k1 d1 : Nat) (w : World)
    (hn : NR w n p l c x) (hd : NR w m q k d y) (hn1 : NR w n1 p1 l1 c1' bn) (hd1 : NR w m1 q1 k1 d1 bd) :
    Calls Tryz.prog 15 #[.agg #[.int .i64 add, .int .i64 s, .bool n, .slice p l c, .bool m, .slice q k d], .agg #[.int .i64 ba, .int .i64 bs, .bool n1, .slice p1 l1 c1', .bool m1, .slice q1 k1 d1]] w fun e w' => e = .returned (.bool (sameR ⟨add, s, x, y⟩ ⟨ba, bs, bn, bd⟩)) ∧ Ext w w' := by
  have HN := Lib.hid hn
  have HD := Lib.hid hd
  have HN1 := Lib.hid hn1
  have HD1 := Lib.hid hd1
  clear hn hd hn1 hd1
  obtain ⟨v1, V1⟩ : ∃ v, Hid (sameB x bn = v) := ⟨_, Lib.hid rfl⟩
  obtain ⟨v2, V2⟩ : ∃ v, Hid (sameB y bd = v) := ⟨_, Lib.hid rfl⟩
  have RES : Hid (sameR ⟨add, s, x, y⟩ ⟨ba, bs, bn, bd⟩ = (add == ba && (s == bs && (v1 && v2)))) := Lib.hid (by unfold sameR; simp only; rw [V1.out, V2.out])
  go_enter Tryz.func15, Tryz.ntmps15
  go_upto_region 1 with (fail)
  refine wp_know (fun W => Ext w W ∧ RB W w.heap.size add s n p l c m q k d ∧ RB W (w.heap.size + 1) ba bs n1 p1 l1 c1' m1 q1 k1 d1) ?_ ?_
  · exact ⟨bxx, RB.heap (heap_old (heap_new rfl)), RB.heap (heap_new (by simp))⟩
  rintro W0 ⟨ex, rb, rg⟩
  obtain ⟨e0, e1, e2, ⟨e3, e4⟩, ⟨e5, e6⟩, ef⟩ := id rb
  obtain ⟨h0, h1, h2, ⟨h3, h4⟩, ⟨h5, h6⟩, hf⟩ := id rg
  have hN := Lib.hid (HN.out.ext ex)
  have hD := Lib.hid (HD.out.ext ex)
  have hN1 := Lib.hid (HN1.out.ext ex)
  have hD1 := Lib.hid (HD1.out.ext ex)
  clear rb rg ef hf HN HD HN1 HD1
  by_cases b1 : add = ba
  · have f1 : (add == ba) = true := by simpa using b1
    have B1 := Lib.hid b1
    clear b1
    by_cases b2 : s = bs
    · have f2 : (s == bs) = true := by simpa using b2
      have B2 := Lib.hid b2
      clear b2
      cases v1 with
      | true =>
        refine wp_FSc (fun W => W.cell? ⟨w.heap.size, 0, none⟩ = some (.int .i64 add) ∧ W.cell? ⟨w.heap.size, 1, none⟩ = some (.int .i64 s) ∧ cn W w.heap.size 2 n p l c ∧ cn W w.heap.size 4 m q k d ∧ W.cell? ⟨w.heap.size + 1, 0, none⟩ = some (.int .i64 ba) ∧ W.cell? ⟨w.heap.size + 1, 1, none⟩ = some (.int .i64 bs) ∧ cn W (w.heap.size + 1) 2 n1 p1 l1 c1' ∧ cn W (w.heap.size + 1) 4 m1 q1 k1 d1) ?_
        repeat (first | refine F_s ?_ | refine F_r ?_)
        refine F_c (.bool true) (fun W hW => r01_SameE x bn true _ _ _ _ _ _ _ _ _ (hN.out.ext hW.1) (hN1.out.ext hW.1) V1.out) ?_
        repeat (first | refine F_s ?_ | refine F_r ?_)
        refine F_c (.bool v2) (fun W hW => r01_SameE y bd v2 _ _ _ _ _ _ _ _ _ (hD.out.ext hW.1) (hD1.out.ext hW.1) V2.out) ?_
        repeat (first | refine F_s ?_ | refine F_r ?_)
        rintro W3 ⟨hx, _⟩
        go_wp2
        go_ret
        refine ⟨?_, Ext.step ex hx⟩
        rw [RES.out, f1, f2]
        first | rfl | simp
      | false =>
        refine wp_FSc (fun W => W.cell? ⟨w.heap.size, 0, none⟩ = some (.int .i64 add) ∧ W.cell? ⟨w.heap.size, 1, none⟩ = some (.int .i64 s) ∧ cn W w.heap.size 2 n p l c ∧ cn W w.heap.size 4 m q k d ∧ W.cell? ⟨w.heap.size + 1, 0, none⟩ = some (.int .i64 ba) ∧ W.cell? ⟨w.heap.size + 1, 1, none⟩ = some (.int .i64 bs) ∧ cn W (w.heap.size + 1) 2 n1 p1 l1 c1' ∧ cn W (w.heap.size + 1) 4 m1 q1 k1 d1) ?_
        repeat (first | refine F_s ?_ | refine F_r ?_)
        refine F_c (.bool false) (fun W hW => r01_SameE x bn false _ _ _ _ _ _ _ _ _ (hN.out.ext hW.1) (hN1.out.ext hW.1) V1.out) ?_
        repeat (first | refine F_s ?_ | refine F_r ?_)
        rintro W3 ⟨hx, _⟩
        go_wp2
        go_ret
        refine ⟨?_, Ext.step ex hx⟩
        rw [RES.out, f1, f2]
        first | rfl | simp
    · have f2 : (s == bs) = false := by simpa using b2
      have B2 := Lib.hid b2
      clear b2
      refine wp_FSc (fun W => W.cell? ⟨w.heap.size, 0, none⟩ = some (.int .i64 add) ∧ W.cell? ⟨w.heap.size, 1, none⟩ = some (.int .i64 s) ∧ cn W w.heap.size 2 n p l c ∧ cn W w.heap.size 4 m q k d ∧ W.cell? ⟨w.heap.size + 1, 0, none⟩ = some (.int .i64 ba) ∧ W.cell? ⟨w.heap.size + 1, 1, none⟩ = some (.int .i64 bs) ∧ cn W (w.heap.size + 1) 2 n1 p1 l1 c1' ∧ cn W (w.heap.size + 1) 4 m1 q1 k1 d1) ?_
      repeat (first | refine F_s ?_ | refine F_r ?_)
      rintro W3 ⟨hx, _⟩
      go_wp2
      go_ret
      refine ⟨?_, Ext.step ex hx⟩
      rw [RES.out, f1, f2]
      first | rfl | simp
  · have f1 : (add == ba) = false := by simpa using b1
    have B1 := Lib.hid b1
    clear b1
    refine wp_FSc (fun W => W.cell? ⟨w.heap.size, 0, none⟩ = some (.int .i64 add) ∧ W.cell? ⟨w.heap.size, 1, none⟩ = some (.int .i64 s) ∧ cn W w.heap.size 2 n p l c ∧ cn W w.heap.size 4 m q k d ∧ W.cell? ⟨w.heap.size + 1, 0, none⟩ = some (.int .i64 ba) ∧ W.cell? ⟨w.heap.size + 1, 1, none⟩ = some (.int .i64 bs) ∧ cn W (w.heap.size + 1) 2 n1 p1 l1 c1' ∧ cn W (w.heap.size + 1) 4 m1 q1 k1 d1) ?_
    repeat (first | refine F_s ?_ | refine F_r ?_)
    rintro W3 ⟨hx, _⟩
    go_wp2
    go_ret
    refine ⟨?_, Ext.step ex hx⟩
    rw [RES.out, f1]
    first | rfl | simp
theorem r02_OfE (add s : Int) (x y : Nm) (r : Rt × Bool) (n m : Bool) (p q : Option Addr) (l c k d : Nat) (w : World) (hn : NR w n p l c x) (hd : NR w m q k d y) (h : ofP add s x y = r) :
    Calls Tryz.prog 77 #[.int .i64 add, .int .i64 s, .agg #[.bool n, .slice p l c], .agg #[.bool m, .slice q k d]] w (RetRt w r) := h ▸ r02_Of add s x y n m p q l c k d w hn hd
set_option maxRecDepth 100000 in
set_option maxHeartbeats 4000000 in
theorem r02_Right (add s : Int) (x y : Nm) (n m : Bool) (p q : Option Addr) (l c k d : Nat) (w : World) (hn : NR w n p l c x) (hd : NR w m q k d y) :
    Calls Tryz.prog 98 #[.agg #[.int .i64 add, .int .i64 s, .bool n, .slice p l c, .bool m, .slice q k d]] w fun e w' => e = .returned (.bool (Rt.right ⟨add, s, x, y⟩)) ∧ Ext w w' := by
  obtain ⟨⟨⟨ba, bs, bn, bd⟩, ok⟩, HO⟩ : ∃ r, ofP add s x y = r := ⟨_, rfl⟩
  have RES : Hid (Rt.right ⟨add, s, x, y⟩ = (ok && sameR ⟨add, s, x, y⟩ ⟨ba, bs, bn, bd⟩)) := Lib.hid (right_same (a := ⟨add, s, x, y⟩) ⟨hn.2.2.dig, hd.2.2.dig⟩ HO).symm
  have CO := Lib.hid (r02_OfE add s x y _ n m p q l c k d · · · HO)
  have HN := Lib.hid hn
  have HD := Lib.hid hd
  clear hn hd HO
  obtain ⟨v, V⟩ : ∃ v, Hid (sameR ⟨add, s, x, y⟩ ⟨ba, bs, bn, bd⟩ = v) := ⟨_, Lib.hid rfl⟩
  rw [V.out] at RES
  go_enter Tryz.func98, Tryz.ntmps98
  go_upto_region 1 with (fail)
  refine wp_know (fun W => Ext w W ∧ RB W w.heap.size add s n p l c m q k d) ?_ ?_
  · exact ⟨bxx, RB.heap (heap_new rfl)⟩
  rintro W0 ⟨ex, rb⟩
  obtain ⟨e0, e1, e2, ⟨e3, e4⟩, ⟨e5, e6⟩, ef⟩ := id rb
  go_wp2_with fail
  refine (CO.out _ (HN.out.ext bxx) (HD.out.ext bxx)).mono ?_
  rintro e W1 ⟨n1, p1, l1, c1', m1, q1, k1, d1, rfl, nr1, nr2, hx⟩
  have hx1 : Ext W0 W1 := Ext.step bxx hx
  have ex1 : Ext w W1 := Ext.step ex hx1
  replace rb := rb.ext hx1
  clear e0 e1 e2 e3 e4 e5 e6 ef hx hx1 ex CO
  go_upto_region 2 with (fail)
  refine wp_know (fun W => Ext w W ∧ RB W w.heap.size add s n p l c m q k d ∧ RB W W1.heap.size ba bs n1 p1 l1 c1' m1 q1 k1 d1 ∧ NR W n1 p1 l1 c1' bn ∧ NR W m1 q1 k1 d1 bd) ?_ ?_
  · exact ⟨ex1.alloc ex1.size _, rb.ext ((Below.refl _ _).alloc (Nat.le_refl _) _), RB.heap (heap_new rfl), nr1.alloc _, nr2.alloc _⟩
  obtain ⟨g, G⟩ : ∃ x, Hid (W1.heap.size = x) := ⟨_, rfl⟩
  rw [G.out]
  clear rb ex1 nr1 nr2
  rintro W2 ⟨ex, rb, rg, nr1, nr2⟩
  obtain ⟨e0, e1, e2, ⟨e3, e4⟩, ⟨e5, e6⟩, ef⟩ := id rb
  obtain ⟨h0, h1, h2, ⟨h3, h4⟩, ⟨h5, h6⟩, hf⟩ := id rg
  have CS := Lib.hid (fun W (h : Ext W2 W) => r02_Same add s x y n m p q l c k d ba bs bn bd n1 m1 p1 q1 l1 c1' k1 d1 W ((HN.out.ext ex).ext h) ((HD.out.ext ex).ext h) (nr1.ext h) (nr2.ext h))
  rw [V.out] at CS
  clear rb rg nr1 nr2 ef hf HN HD
  cases ok with
  | false =>
    refine wp_FSc (fun W => W.cell? ⟨w.heap.size, 0, none⟩ = some (.int .i64 add) ∧ W.cell? ⟨w.heap.size, 1, none⟩ = some (.int .i64 s) ∧ cn W w.heap.size 2 n p l c ∧ cn W w.heap.size 4 m q k d ∧ W.cell? ⟨g, 0, none⟩ = some (.int .i64 ba) ∧ W.cell? ⟨g, 1, none⟩ = some (.int .i64 bs) ∧ cn W g 2 n1 p1 l1 c1' ∧ cn W g 4 m1 q1 k1 d1) ?_
    repeat (first | refine F_s ?_ | refine F_r ?_)
    rintro W3 ⟨hx, _⟩
    go_wp2
    go_ret
    exact ⟨by rw [RES.out]; rfl, Ext.step ex hx⟩
  | true =>
    refine wp_FSc (fun W => W.cell? ⟨w.heap.size, 0, none⟩ = some (.int .i64 add) ∧ W.cell? ⟨w.heap.size, 1, none⟩ = some (.int .i64 s) ∧ cn W w.heap.size 2 n p l c ∧ cn W w.heap.size 4 m q k d ∧ W.cell? ⟨g, 0, none⟩ = some (.int .i64 ba) ∧ W.cell? ⟨g, 1, none⟩ = some (.int .i64 bs) ∧ cn W g 2 n1 p1 l1 c1' ∧ cn W g 4 m1 q1 k1 d1) ?_
    repeat (first | refine F_s ?_ | refine F_r ?_)
    refine F_c (.bool v) (fun W hW => CS.out _ hW.1) ?_
    repeat (first | refine F_s ?_ | refine F_r ?_)
    rintro W3 ⟨hx, _⟩
    go_wp2
    go_ret
    exact ⟨by rw [RES.out]; first | rfl | simp, Ext.step ex hx⟩
theorem r02_RightB (add s : Int) (x y : Nm) (b : Bool) (n m : Bool) (p q : Option Addr) (l c k d : Nat) (w : World) (hn : NR w n p l c x) (hd : NR w m q k d y) (hb : Rt.right ⟨add, s, x, y⟩ = b) :
    Calls Tryz.prog 98 #[.agg #[.int .i64 add, .int .i64 s, .bool n, .slice p l c, .bool m, .slice q k d]] w fun e w' => e = .returned (.bool b) ∧ Ext w w' := by
  subst hb
  exact r02_Right add s x y n m p q l c k d w hn hd
end Go.Proofs.YtighahcllmoajaaGreat

namespace Go.Proofs.YtighahcllmoajaaGreat
open Go.RowKit
attribute [local go_sem] Gives givesU

theorem r02_mulE (a b : Nm) (z : Int) (j : Nat) (na nb : Bool) (pa pb : Option Addr) (la ca lb cb : Nat) (w : World) (ha : NR w na pa la ca a) (hb : NR w nb pb lb cb b) (ra : a.right = true) (rb : b.right = true) (hz : a.z * b.z = z) (hs : Bk j z) (hj : j ≤ 64) :
    Calls Tryz.prog 100 #[.agg #[.bool na, .slice pa la ca], .agg #[.bool nb, .slice pb lb cb]] w (RetN w (ofZ z)) := r02_mul a b z _ _ _ _ _ _ _ _ w ha hb ra rb hz (hs.small hj)
theorem r02_addE (x y z : Int) (na nb : Bool) (pa pb : Option Addr) (la ca lb cb : Nat) (w : World) (ha : NR w na pa la ca (ofZ x)) (hb : NR w nb pb lb cb (ofZ y)) (hx : small x = true) (hy : small y = true) (hz : x + y = z) (hs : small z = true) :
    Calls Tryz.prog 102 #[.agg #[.bool na, .slice pa la ca], .agg #[.bool nb, .slice pb lb cb]] w (RetN w (ofZ z)) := by
  have h := r02_plus (ofZ x) (ofZ y) na nb pa pb la ca lb cb w ha hb
  rw [addP_small (ofZ_right hx) (ofZ_right hy) (by rw [ofZ_z, ofZ_z]; exact hz) hs] at h
  exact h
theorem subP_smallE {x y z : Int} (hx : small x = true) (hy : small y = true) (hz : x - y = z) (hs : small z = true) : subP (ofZ x) (ofZ y) = (ofZ z, true) := by
  unfold subP fit
  rw [ofZ_right hx, ofZ_right hy, ofZ_z, ofZ_z, hz, hs]
  rfl
theorem r02_subE (x y z : Int) (na nb : Bool) (pa pb : Option Addr) (la ca lb cb : Nat) (w : World) (ha : NR w na pa la ca (ofZ x)) (hb : NR w nb pb lb cb (ofZ y)) (hx : small x = true) (hy : small y = true) (hz : x - y = z) (hs : small z = true) :
    Calls Tryz.prog 99 #[.agg #[.bool na, .slice pa la ca], .agg #[.bool nb, .slice pb lb cb]] w (RetN w (ofZ z)) := by
  have h := r02_minus (ofZ x) (ofZ y) na nb pa pb la ca lb cb w ha hb
  rw [subP_smallE hx hy hz hs] at h
  exact h
theorem r02_sideE (x y z v : Int) (na nb nc : Bool) (pa pb pc : Option Addr) (la ca lb cb lc cc j k i : Nat) (w : World) (ha : NR w na pa la ca (ofZ x)) (hb : NR w nb pb lb cb (ofZ y)) (hc : NR w nc pc lc cc (ofZ z)) (bx : Bk j x) (by' : Bk k y) (bz' : Bk i z) (h1 : j + j ≤ 64) (h2 : k + k + i ≤ 64) (hz : 0 ≤ z) (hv : sideZ x y z = v) :
    Calls Tryz.prog 101 #[.agg #[.bool na, .slice pa la ca], .agg #[.bool nb, .slice pb lb cb], .agg #[.bool nc, .slice pc lc cc]] w fun e w' => e = .returned (.int .i64 v) ∧ Ext w w' := by
  have h := r02_side (ofZ x) (ofZ y) (ofZ z) na nb nc pa pb pc la ca lb cb lc cc w ha hb hc (ofZ_right (bx.small (by omega))) (ofZ_right (by'.small (by omega))) (ofZ_right (bz'.small (by omega))) (by rw [ofZ_z]; exact (bx.mul bx).small h1) (by rw [ofZ_z]; exact (by'.mul by').small (by omega)) (by rw [ofZ_z, ofZ_z]; exact ((by'.mul by').mul bz').small h2)
  rw [ofZ_z, ofZ_z, ofZ_z, side_eq _ _ _ hz, hv] at h
  exact h
set_option maxRecDepth 100000 in
set_option maxHeartbeats 8000000 in
theorem r02_Cmp (add1 s1 add2 s2 : Int) (x1 y1 x2 y2 : Nm) (n1 m1 n2 m2 : Bool) (p1 q1 p2 q2 : Option Addr) (l1 c1 k1 d1 l2 c2 k2 d2 : Nat) (w : World)
    (hx1 : NR w n1 p1 l1 c1 x1) (hy1 : NR w m1 q1 k1 d1 y1) (hx2 : NR w n2 p2 l2 c2 x2) (hy2 : NR w m2 q2 k2 d2 y2)
    (i1 : -9223372036854775808 ≤ add1 ∧ add1 ≤ 9223372036854775807) (i2 : -9223372036854775808 ≤ add2 ∧ add2 ≤ 9223372036854775807) :
    Calls Tryz.prog 58 #[.agg #[.int .i64 add1, .int .i64 s1, .bool n1, .slice p1 l1 c1, .bool m1, .slice q1 k1 d1], .agg #[.int .i64 add2, .int .i64 s2, .bool n2, .slice p2 l2 c2, .bool m2, .slice q2 k2 d2]] w fun e w' => e = .returned (.int .i64 (cmpRt ⟨add1, s1, x1, y1⟩ ⟨add2, s2, x2, y2⟩)) ∧ Ext w w' := by
  have X1 := Lib.hid hx1
  have Y1 := Lib.hid hy1
  have X2 := Lib.hid hx2
  have Y2 := Lib.hid hy2
  clear hx1 hy1 hx2 hy2
  obtain ⟨b1, B1⟩ : ∃ b, Hid (Rt.right ⟨add1, s1, x1, y1⟩ = b) := ⟨_, Lib.hid rfl⟩
  obtain ⟨b2, B2⟩ : ∃ b, Hid (Rt.right ⟨add2, s2, x2, y2⟩ = b) := ⟨_, Lib.hid rfl⟩
  have RES : Hid (cmpRt ⟨add1, s1, x1, y1⟩ ⟨add2, s2, x2, y2⟩ = if b1 && b2 then cmpR (add1 - add2) s1 x1.z y1.z s2 x2.z y2.z else 0) := Lib.hid (by unfold cmpRt; rw [B1.out, B2.out])
  go_enter Tryz.func58, Tryz.ntmps58
  go_upto_region 1 with (fail)
  refine wp_know (fun W => Ext w W ∧ RB W w.heap.size add1 s1 n1 p1 l1 c1 m1 q1 k1 d1 ∧ RB W (w.heap.size + 1) add2 s2 n2 p2 l2 c2 m2 q2 k2 d2) ?_ ?_
  · exact ⟨bxx, RB.heap (heap_old (heap_new rfl)), RB.heap (heap_new (by simp))⟩
  rintro W0 ⟨ex, ra, rb⟩
  obtain ⟨e0, e1, e2, ⟨e3, e4⟩, ⟨e5, e6⟩, ef⟩ := id ra
  obtain ⟨h0, h1, h2, ⟨h3, h4⟩, ⟨h5, h6⟩, hf⟩ := id rb
  go_wp2_with fail
  refine (r02_RightB add1 s1 x1 y1 b1 _ _ _ _ _ _ _ _ _ (X1.out.ext bxx) (Y1.out.ext bxx) B1.out).mono ?_
  rintro e W1 ⟨rfl, hx⟩
  have hx1 : Ext W0 W1 := Ext.step bxx hx
  have ex1 := Ext.step ex hx1
  replace ra := ra.ext hx1
  replace rb := rb.ext hx1
  clear e0 e1 e2 e3 e4 e5 e6 ef h0 h1 h2 h3 h4 h5 h6 hf hx hx1 ex
  obtain ⟨e0, e1, e2, ⟨e3, e4⟩, ⟨e5, e6⟩, ef⟩ := id ra
  obtain ⟨h0, h1, h2, ⟨h3, h4⟩, ⟨h5, h6⟩, hf⟩ := id rb
  go_wp2_with fail
  refine (r02_RightB add2 s2 x2 y2 b2 _ _ _ _ _ _ _ _ _ (X2.out.ext bxx) (Y2.out.ext bxx) B2.out).mono ?_
  rintro e W2 ⟨rfl, hx⟩
  have hx1 : Ext W1 W2 := Ext.step bxx hx
  have ex2 := Ext.step ex1 hx1
  replace ra := ra.ext hx1
  replace rb := rb.ext hx1
  clear e0 e1 e2 e3 e4 e5 e6 ef h0 h1 h2 h3 h4 h5 h6 hf hx hx1 ex1
  cases b1 with
  | false =>
    go_wp2
    go_ret
    exact ⟨by rw [RES.out]; rfl, ex2⟩
  | true =>
  cases b2 with
  | false =>
    go_wp2
    go_ret
    exact ⟨by rw [RES.out]; rfl, ex2⟩
  | true =>
  obtain ⟨e0, e1, e2, ⟨e3, e4⟩, ⟨e5, e6⟩, ef⟩ := id ra
  obtain ⟨h0, h1, h2, ⟨h3, h4⟩, ⟨h5, h6⟩, hf⟩ := id rb
  clear ra rb ef hf
  obtain ⟨k1', _⟩ := right_ok (a := ⟨add1, s1, x1, y1⟩) X1.out.2.2.dig Y1.out.2.2.dig B1.out
  obtain ⟨k2', _⟩ := right_ok (a := ⟨add2, s2, x2, y2⟩) X2.out.2.2.dig Y2.out.2.2.dig B2.out
  have b1 : -1 ≤ s1 ∧ s1 ≤ 1 := ⟨k1'.sl, k1'.su⟩
  have b2 : -1 ≤ s2 ∧ s2 ≤ 1 := ⟨k2'.sl, k2'.su⟩
  have r1 : x1.right = true := k1'.nr
  have r2 : y1.right = true := k1'.dr
  have r3 : x2.right = true := k2'.nr
  have r4 : y2.right = true := k2'.dr
  have T1 : Hid (Bk 8 x1.z) := Lib.hid (k1'.bk ⟨X1.out.2.2.dig, Y1.out.2.2.dig⟩).1
  have T2 : Hid (Bk 8 y1.z) := Lib.hid (k1'.bk ⟨X1.out.2.2.dig, Y1.out.2.2.dig⟩).2
  have T3 : Hid (Bk 8 x2.z) := Lib.hid (k2'.bk ⟨X2.out.2.2.dig, Y2.out.2.2.dig⟩).1
  have T4 : Hid (Bk 8 y2.z) := Lib.hid (k2'.bk ⟨X2.out.2.2.dig, Y2.out.2.2.dig⟩).2
  have Z1 : Hid (0 ≤ x1.z * y1.z) := Lib.hid (by have h1 := k1'.zs.1; have h2 := k1'.zs.2; simp only at h1 h2; rw [h1, h2]; exact Int.mul_nonneg (by omega) (by omega))
  clear k1' k2'
  obtain ⟨dA, DA⟩ : ∃ z, Hid (add1 - add2 = z) := ⟨_, Lib.hid rfl⟩
  have BA1 := Lib.hid (Bk.i64 i1)
  have BA2 := Lib.hid (Bk.i64 i2)
  have BD : Hid (Bk 3 dA) := Lib.hid (by rw [← DA.out, Int.sub_eq_add_neg]; exact BA1.out.add BA2.out.neg)
  have BS := Lib.hid (Bk.one b1)
  rw [DA.out] at RES
  have X12 := Lib.hid (X1.out.ext ex2)
  have Y12 := Lib.hid (Y1.out.ext ex2)
  have X22 := Lib.hid (X2.out.ext ex2)
  have Y22 := Lib.hid (Y2.out.ext ex2)
  obtain ⟨un, UN⟩ : ∃ z, Hid (x1.z * y1.z = z) := ⟨_, Lib.hid rfl⟩
  have BU : Hid (Bk 16 un) := Lib.hid (by rw [← UN.out]; exact T1.out.mul T2.out)
  rw [UN.out] at Z1
  go_upto_region 5 with (fail)
  refine wp_KBc W2 (W2.heap.size) (fun W => W.cell? ⟨w.heap.size, 0, none⟩ = some (.int .i64 add1) ∧ W.cell? ⟨w.heap.size, 1, none⟩ = some (.int .i64 s1) ∧ cn W w.heap.size 2 n1 p1 l1 c1 ∧ cn W w.heap.size 4 m1 q1 k1 d1 ∧ W.cell? ⟨w.heap.size + 1, 0, none⟩ = some (.int .i64 add2) ∧ W.cell? ⟨w.heap.size + 1, 1, none⟩ = some (.int .i64 s2) ∧ cn W (w.heap.size + 1) 2 n2 p2 l2 c2 ∧ cn W (w.heap.size + 1) 4 m2 q2 k2 d2) ?_
  intro hKeep
  repeat (first | refine F_s ?_ | refine F_r ?_)
  refine F_n W2 (ofZ add1) (fun W hW => r01_Of add1 _ i1.1 i1.2) ?_; intro n11 p11 l11 c11 hn11
  repeat (first | refine F_s ?_ | refine F_r ?_)
  refine F_n W2 (ofZ add2) (fun W hW => r01_Of add2 _ i2.1 i2.2) ?_; intro n12 p12 l12 c12 hn12
  repeat (first | refine F_s ?_ | refine F_r ?_)
  refine F_n W2 (ofZ dA) (fun W hW => r02_subE add1 add2 dA _ _ _ _ _ _ _ _ W hW.1.2 hW.2 (BA1.out.small (by decide)) (BA2.out.small (by decide)) DA.out (BD.out.small (by decide))) ?_; intro n13 p13 l13 c13 hn13
  repeat (first | refine F_s ?_ | refine F_r ?_)
  refine F_al ?_
  intro g7 hg7
  simp only [List.mem_cons, List.mem_range, not_or, Nat.not_lt] at hg7
  repeat (first | refine F_s ?_ | refine F_r ?_)
  refine F_w (fun W => _ ∧ NR W n13 p13 l13 c13 (ofZ dA)) (fun W hW => ⟨⟨hW.1.1.1.1, hW.1.2⟩, hW.2⟩) ?_
  repeat (first | refine F_s ?_ | refine F_r ?_)
  rintro W3 ⟨⟨⟨hS, nr13⟩, hb7⟩, _⟩
  have EW3 : Ext W2 W3 := hS.1
  have EXW3 : Ext w W3 := Ext.step ex2 EW3
  have CSW3 := hS.2.2
  obtain ⟨u70, u71, _, hl7⟩ := pt_block hb7
  have N13W3 := Lib.hid nr13
  clear hS hb7 nr13 hKeep e1 e2 e3 e4 e5 e6 h1 h2 h3 h4 h5 h6
  go_upto_region 6 with (fail)
  refine wp_KBc W3 (W3.heap.size) (fun W => W.cell? ⟨w.heap.size, 0, none⟩ = some (.int .i64 add1) ∧ W.cell? ⟨w.heap.size, 1, none⟩ = some (.int .i64 s1) ∧ cn W w.heap.size 2 n1 p1 l1 c1 ∧ cn W w.heap.size 4 m1 q1 k1 d1 ∧ W.cell? ⟨w.heap.size + 1, 0, none⟩ = some (.int .i64 add2) ∧ W.cell? ⟨w.heap.size + 1, 1, none⟩ = some (.int .i64 s2) ∧ cn W (w.heap.size + 1) 2 n2 p2 l2 c2 ∧ cn W (w.heap.size + 1) 4 m2 q2 k2 d2 ∧ cn W g7 0 n13 p13 l13 c13) ?_
  intro hKeep
  repeat (first | refine F_s ?_ | refine F_r ?_)
  refine F_n W3 (ofZ s1) (fun W hW => r01_Of s1 _ (by omega) (by omega)) ?_; intro n14 p14 l14 c14 hn14
  repeat (first | refine F_s ?_ | refine F_r ?_)
  refine F_al ?_
  intro g8 hg8
  simp only [List.mem_cons, List.mem_range, not_or, Nat.not_lt] at hg8
  repeat (first | refine F_s ?_ | refine F_r ?_)
  refine F_w (fun W => _ ∧ NR W n14 p14 l14 c14 (ofZ s1)) (fun W hW => ⟨⟨hW.1.1, hW.1.2⟩, hW.2⟩) ?_
  repeat (first | refine F_s ?_ | refine F_r ?_)
  rintro W4 ⟨⟨⟨hS, nr14⟩, hb8⟩, _⟩
  have EW4 : Ext W3 W4 := hS.1
  have EXW4 : Ext w W4 := Ext.step EXW3 EW4
  have CSW4 := hS.2.2
  obtain ⟨u80, u81, _, hl8⟩ := pt_block hb8
  replace hl7 : g7 < W4.heap.size := Nat.lt_of_lt_of_le hl7 EW4.size
  have N13W4 := Lib.hid (N13W3.out.ext EW4)
  have N14W4 := Lib.hid nr14
  clear hS hb8 nr14 hKeep CSW3 N13W3 u70 u71
  go_upto_region 7 with (fail)
  refine wp_KBc W4 (W4.heap.size) (fun W => W.cell? ⟨w.heap.size, 0, none⟩ = some (.int .i64 add1) ∧ W.cell? ⟨w.heap.size, 1, none⟩ = some (.int .i64 s1) ∧ cn W w.heap.size 2 n1 p1 l1 c1 ∧ cn W w.heap.size 4 m1 q1 k1 d1 ∧ W.cell? ⟨w.heap.size + 1, 0, none⟩ = some (.int .i64 add2) ∧ W.cell? ⟨w.heap.size + 1, 1, none⟩ = some (.int .i64 s2) ∧ cn W (w.heap.size + 1) 2 n2 p2 l2 c2 ∧ cn W (w.heap.size + 1) 4 m2 q2 k2 d2 ∧ cn W g7 0 n13 p13 l13 c13 ∧ cn W g8 0 n14 p14 l14 c14) ?_
  intro hKeep
  repeat (first | refine F_s ?_ | refine F_r ?_)
  refine F_n W4 (ofZ un) (fun W hW => r02_mulE x1 y1 un 16 _ _ _ _ _ _ _ _ W ((X1.out.ext EXW4).ext hW.1) ((Y1.out.ext EXW4).ext hW.1) r1 r2 UN.out BU.out (by decide)) ?_; intro n15 p15 l15 c15 hn15
  repeat (first | refine F_s ?_ | refine F_r ?_)
  refine F_al ?_
  intro g9 hg9
  simp only [List.mem_cons, List.mem_range, not_or, Nat.not_lt] at hg9
  repeat (first | refine F_s ?_ | refine F_r ?_)
  refine F_w (fun W => _ ∧ NR W n15 p15 l15 c15 (ofZ un)) (fun W hW => ⟨⟨hW.1.1, hW.1.2⟩, hW.2⟩) ?_
  repeat (first | refine F_s ?_ | refine F_r ?_)
  rintro W5 ⟨⟨⟨hS, nr15⟩, hb9⟩, _⟩
  have EW5 : Ext W4 W5 := hS.1
  have EXW5 : Ext w W5 := Ext.step EXW4 EW5
  have CSW5 := hS.2.2
  obtain ⟨u90, u91, _, hl9⟩ := pt_block hb9
  replace hl7 : g7 < W5.heap.size := Nat.lt_of_lt_of_le hl7 EW5.size
  have N13W5 := Lib.hid (N13W4.out.ext EW5)
  replace hl8 : g8 < W5.heap.size := Nat.lt_of_lt_of_le hl8 EW5.size
  have N14W5 := Lib.hid (N14W4.out.ext EW5)
  have N15W5 := Lib.hid nr15
  clear hS hb9 nr15 hKeep CSW4 N13W4 N14W4 u80 u81
  obtain ⟨ad, AD⟩ : ∃ z, Hid (dA * y1.z = z) := ⟨_, Lib.hid rfl⟩
  have BAD : Hid (Bk 11 ad) := Lib.hid (by rw [← AD.out]; exact BD.out.mul T2.out)
  obtain ⟨u, U⟩ : ∃ z, Hid (sideZ ad s1 un = z) := ⟨_, Lib.hid rfl⟩
  have bu := side_bd ad s1 un
  rw [U.out] at bu
  have rD := ofZ_right (BD.out.small (by decide))
  go_upto_region 8 with (fail)
  refine wp_KBc W5 (W5.heap.size) (fun W => W.cell? ⟨w.heap.size, 0, none⟩ = some (.int .i64 add1) ∧ W.cell? ⟨w.heap.size, 1, none⟩ = some (.int .i64 s1) ∧ cn W w.heap.size 2 n1 p1 l1 c1 ∧ cn W w.heap.size 4 m1 q1 k1 d1 ∧ W.cell? ⟨w.heap.size + 1, 0, none⟩ = some (.int .i64 add2) ∧ W.cell? ⟨w.heap.size + 1, 1, none⟩ = some (.int .i64 s2) ∧ cn W (w.heap.size + 1) 2 n2 p2 l2 c2 ∧ cn W (w.heap.size + 1) 4 m2 q2 k2 d2 ∧ cn W g7 0 n13 p13 l13 c13 ∧ cn W g8 0 n14 p14 l14 c14 ∧ cn W g9 0 n15 p15 l15 c15) ?_
  intro hKeep
  repeat (first | refine F_s ?_ | refine F_r ?_)
  refine F_n W5 (ofZ ad) (fun W hW => r02_mulE (ofZ dA) y1 ad 11 _ _ _ _ _ _ _ _ W (N13W5.out.ext hW.1) ((Y1.out.ext EXW5).ext hW.1) rD r2 (by rw [ofZ_z]; exact AD.out) BAD.out (by decide)) ?_; intro n16 p16 l16 c16 hn16
  repeat (first | refine F_s ?_ | refine F_r ?_)
  refine F_c (.int .i64 u) (fun W hW => r02_sideE ad s1 un u _ _ _ _ _ _ _ _ _ _ _ _ 11 1 16 W hW.2 (N14W5.out.ext hW.1.1) (N15W5.out.ext hW.1.1) BAD.out BS.out BU.out (by decide) (by decide) Z1.out U.out) ?_
  repeat (first | refine F_s ?_ | refine F_r ?_)
  rintro W6 ⟨hS, _⟩
  have E56 : Ext W5 W6 := hS.1
  have EX6 : Ext w W6 := Ext.step EXW5 E56
  have CS6 := hS.2.2
  clear hS hKeep CSW5
  have CUT : Hid (cmpR dA s1 x1.z y1.z s2 x2.z y2.z = if u ≠ s2 then max (min (u - s2) 1) (-1) else u * sideZ (dA * dA * y1.z * y2.z + x1.z * y2.z - x2.z * y1.z) (2 * dA * s1 * y2.z) un) := Lib.hid (by
    unfold cmpR
    rw [AD.out, UN.out, U.out])
  by_cases huv : u = s2
  · have hue : (u == s2) = true := by simpa using huv
    have RS : Hid (cmpR dA s1 x1.z y1.z s2 x2.z y2.z = u * sideZ (dA * dA * y1.z * y2.z + x1.z * y2.z - x2.z * y1.z) (2 * dA * s1 * y2.z) un) := Lib.hid (by rw [CUT.out, if_neg (fun h => h huv)])
    clear CUT huv
    replace hl7 : g7 < W6.heap.size := Nat.lt_of_lt_of_le hl7 E56.size
    replace hl8 : g8 < W6.heap.size := Nat.lt_of_lt_of_le hl8 E56.size
    replace hl9 : g9 < W6.heap.size := Nat.lt_of_lt_of_le hl9 E56.size
    have N13W6 := Lib.hid (N13W5.out.ext E56)
    have N14W6 := Lib.hid (N14W5.out.ext E56)
    have N15W6 := Lib.hid (N15W5.out.ext E56)
    have EXW6 := EX6
    have CSW6 := CS6
    clear N13W5 N14W5 N15W5 EX6 CS6 E56 u90 u91
    obtain ⟨tb, Q0⟩ : ∃ z, Hid (y1.z * y2.z = z) := ⟨_, Lib.hid rfl⟩
    obtain ⟨tq, Q1⟩ : ∃ z, Hid (dA * dA = z) := ⟨_, Lib.hid rfl⟩
    obtain ⟨t1, Q2⟩ : ∃ z, Hid (tq * tb = z) := ⟨_, Lib.hid rfl⟩
    obtain ⟨t2, Q3⟩ : ∃ z, Hid (x1.z * y2.z = z) := ⟨_, Lib.hid rfl⟩
    obtain ⟨ts, Q4⟩ : ∃ z, Hid (t1 + t2 = z) := ⟨_, Lib.hid rfl⟩
    obtain ⟨t3, Q5⟩ : ∃ z, Hid (x2.z * y1.z = z) := ⟨_, Lib.hid rfl⟩
    obtain ⟨rs, Q6⟩ : ∃ z, Hid (ts - t3 = z) := ⟨_, Lib.hid rfl⟩
    obtain ⟨s3, Q7⟩ : ∃ z, Hid (2 * s1 = z) := ⟨_, Lib.hid rfl⟩
    obtain ⟨tm, Q8⟩ : ∃ z, Hid (s3 * dA = z) := ⟨_, Lib.hid rfl⟩
    obtain ⟨tw, Q9⟩ : ∃ z, Hid (tm * y2.z = z) := ⟨_, Lib.hid rfl⟩
    obtain ⟨v, V⟩ : ∃ z, Hid (sideZ rs tw un = z) := ⟨_, Lib.hid rfl⟩
    have e1 : dA * dA * y1.z * y2.z = t1 := by rw [← Q2.out, ← Q1.out, ← Q0.out, Int.mul_assoc (dA * dA)]
    have e2 : 2 * dA * s1 * y2.z = tw := by rw [← Q9.out, ← Q8.out, ← Q7.out]; grind
    have RS2 : Hid (cmpR dA s1 x1.z y1.z s2 x2.z y2.z = u * v) := Lib.hid (by rw [RS.out, e1, Q3.out, Q5.out, e2, Q4.out, Q6.out, V.out])
    have C0 : Hid (Bk 16 tb) := Lib.hid (by rw [← Q0.out]; exact T2.out.mul T4.out)
    have C1 : Hid (Bk 6 tq) := Lib.hid (by rw [← Q1.out]; exact BD.out.mul BD.out)
    have C2 : Hid (Bk 22 t1) := Lib.hid (by rw [← Q2.out]; exact C1.out.mul C0.out)
    have C3 : Hid (Bk 16 t2) := Lib.hid (by rw [← Q3.out]; exact T1.out.mul T4.out)
    have C4 : Hid (Bk 23 ts) := Lib.hid (by rw [← Q4.out]; exact C2.out.add (C3.out.mono (by decide)))
    have C5 : Hid (Bk 16 t3) := Lib.hid (by rw [← Q5.out]; exact T3.out.mul T2.out)
    have C6 : Hid (Bk 24 rs) := Lib.hid (by rw [← Q6.out, Int.sub_eq_add_neg]; exact C4.out.add ((C5.out.mono (by decide)).neg))
    have C7 : Hid (Bk 2 s3) := Lib.hid (by rw [← Q7.out]; exact Bk.two.mul BS.out)
    have C8 : Hid (Bk 5 tm) := Lib.hid (by rw [← Q8.out]; exact C7.out.mul BD.out)
    have C9 : Hid (Bk 13 tw) := Lib.hid (by rw [← Q9.out]; exact C8.out.mul T4.out)
    have bv := side_bd rs tw un
    rw [V.out] at bv
    have buv := unit_mul bu bv
    have hq7 := Q7.out
    have WS : IntKind.i64.wrap s3 = s3 := IntWalk.i64_in _ (by omega)
    have WUV : IntKind.i64.wrap (u * v) = u * v := IntWalk.i64_in _ (by omega)
    clear RS e1 e2
    go_upto_region 14 with (fail)
    refine wp_KBc W6 (W6.heap.size) (fun W => W.cell? ⟨w.heap.size, 0, none⟩ = some (.int .i64 add1) ∧ W.cell? ⟨w.heap.size, 1, none⟩ = some (.int .i64 s1) ∧ cn W w.heap.size 2 n1 p1 l1 c1 ∧ cn W w.heap.size 4 m1 q1 k1 d1 ∧ W.cell? ⟨w.heap.size + 1, 0, none⟩ = some (.int .i64 add2) ∧ W.cell? ⟨w.heap.size + 1, 1, none⟩ = some (.int .i64 s2) ∧ cn W (w.heap.size + 1) 2 n2 p2 l2 c2 ∧ cn W (w.heap.size + 1) 4 m2 q2 k2 d2 ∧ cn W g7 0 n13 p13 l13 c13 ∧ cn W g8 0 n14 p14 l14 c14 ∧ cn W g9 0 n15 p15 l15 c15) ?_
    intro hKeep
    repeat (first | refine F_s ?_ | refine F_r ?_)
    refine F_n W6 (ofZ tb) (fun W hW => r02_mulE y1 y2 tb 16 _ _ _ _ _ _ _ _ W ((Y1.out.ext EXW6).ext hW.1) ((Y2.out.ext EXW6).ext hW.1) r2 r4 Q0.out C0.out (by decide)) ?_; intro n21 p21 l21 c21 hn21
    repeat (first | refine F_s ?_ | refine F_r ?_)
    refine F_al ?_
    intro g12 hg12
    simp only [List.mem_cons, List.mem_range, not_or, Nat.not_lt] at hg12
    repeat (first | refine F_s ?_ | refine F_r ?_)
    refine F_w (fun W => _ ∧ NR W n21 p21 l21 c21 (ofZ tb)) (fun W hW => ⟨⟨hW.1.1, hW.1.2⟩, hW.2⟩) ?_
    repeat (first | refine F_s ?_ | refine F_r ?_)
    rintro W7 ⟨⟨⟨hS, nr21⟩, hb12⟩, _⟩
    have EW7 : Ext W6 W7 := hS.1
    have EXW7 : Ext w W7 := Ext.step EXW6 EW7
    have CSW7 := hS.2.2
    obtain ⟨u120, u121, _, hl12⟩ := pt_block hb12
    replace hl7 : g7 < W7.heap.size := Nat.lt_of_lt_of_le hl7 EW7.size
    have N13W7 := Lib.hid (N13W6.out.ext EW7)
    replace hl8 : g8 < W7.heap.size := Nat.lt_of_lt_of_le hl8 EW7.size
    have N14W7 := Lib.hid (N14W6.out.ext EW7)
    replace hl9 : g9 < W7.heap.size := Nat.lt_of_lt_of_le hl9 EW7.size
    have N15W7 := Lib.hid (N15W6.out.ext EW7)
    have N21W7 := Lib.hid nr21
    clear hS hb12 nr21 hKeep CSW6 N13W6 N14W6 N15W6
    go_upto_region 15 with (fail)
    refine wp_KBc W7 (W7.heap.size) (fun W => W.cell? ⟨w.heap.size, 0, none⟩ = some (.int .i64 add1) ∧ W.cell? ⟨w.heap.size, 1, none⟩ = some (.int .i64 s1) ∧ cn W w.heap.size 2 n1 p1 l1 c1 ∧ cn W w.heap.size 4 m1 q1 k1 d1 ∧ W.cell? ⟨w.heap.size + 1, 0, none⟩ = some (.int .i64 add2) ∧ W.cell? ⟨w.heap.size + 1, 1, none⟩ = some (.int .i64 s2) ∧ cn W (w.heap.size + 1) 2 n2 p2 l2 c2 ∧ cn W (w.heap.size + 1) 4 m2 q2 k2 d2 ∧ cn W g7 0 n13 p13 l13 c13 ∧ cn W g8 0 n14 p14 l14 c14 ∧ cn W g9 0 n15 p15 l15 c15 ∧ cn W g12 0 n21 p21 l21 c21) ?_
    intro hKeep
    repeat (first | refine F_s ?_ | refine F_r ?_)
    refine F_n W7 (ofZ tq) (fun W hW => r02_mulE (ofZ dA) (ofZ dA) tq 6 _ _ _ _ _ _ _ _ W (N13W7.out.ext hW.1) (N13W7.out.ext hW.1) rD rD (by rw [ofZ_z]; exact Q1.out) C1.out (by decide)) ?_; intro n22 p22 l22 c22 hn22
    repeat (first | refine F_s ?_ | refine F_r ?_)
    refine F_n W7 (ofZ t1) (fun W hW => r02_mulE (ofZ tq) (ofZ tb) t1 22 _ _ _ _ _ _ _ _ W hW.2 (N21W7.out.ext hW.1.1) (ofZ_right (C1.out.small (by decide))) (ofZ_right (C0.out.small (by decide))) (by rw [ofZ_z, ofZ_z]; exact Q2.out) C2.out (by decide)) ?_; intro n23 p23 l23 c23 hn23
    repeat (first | refine F_s ?_ | refine F_r ?_)
    refine F_n W7 (ofZ t2) (fun W hW => r02_mulE x1 y2 t2 16 _ _ _ _ _ _ _ _ W ((X1.out.ext EXW7).ext hW.1.1.1) ((Y2.out.ext EXW7).ext hW.1.1.1) r1 r4 Q3.out C3.out (by decide)) ?_; intro n24 p24 l24 c24 hn24
    repeat (first | refine F_s ?_ | refine F_r ?_)
    refine F_n W7 (ofZ ts) (fun W hW => r02_addE t1 t2 ts _ _ _ _ _ _ _ _ W hW.1.2 hW.2 (C2.out.small (by decide)) (C3.out.small (by decide)) Q4.out (C4.out.small (by decide))) ?_; intro n25 p25 l25 c25 hn25
    repeat (first | refine F_s ?_ | refine F_r ?_)
    refine F_n W7 (ofZ t3) (fun W hW => r02_mulE x2 y1 t3 16 _ _ _ _ _ _ _ _ W ((X2.out.ext EXW7).ext hW.1.1.1.1.1) ((Y1.out.ext EXW7).ext hW.1.1.1.1.1) r3 r2 Q5.out C5.out (by decide)) ?_; intro n26 p26 l26 c26 hn26
    repeat (first | refine F_s ?_ | refine F_r ?_)
    refine F_n W7 (ofZ rs) (fun W hW => r02_subE ts t3 rs _ _ _ _ _ _ _ _ W hW.1.2 hW.2 (C4.out.small (by decide)) (C5.out.small (by decide)) Q6.out (C6.out.small (by decide))) ?_; intro n27 p27 l27 c27 hn27
    repeat (first | refine F_s ?_ | refine F_r ?_)
    refine F_al ?_
    intro g13 hg13
    simp only [List.mem_cons, List.mem_range, not_or, Nat.not_lt] at hg13
    repeat (first | refine F_s ?_ | refine F_r ?_)
    refine F_w (fun W => _ ∧ NR W n27 p27 l27 c27 (ofZ rs)) (fun W hW => ⟨⟨hW.1.1.1.1.1.1.1, hW.1.2⟩, hW.2⟩) ?_
    repeat (first | refine F_s ?_ | refine F_r ?_)
    rintro W8 ⟨⟨⟨hS, nr27⟩, hb13⟩, _⟩
    have EW8 : Ext W7 W8 := hS.1
    have EXW8 : Ext w W8 := Ext.step EXW7 EW8
    have CSW8 := hS.2.2
    obtain ⟨u130, u131, _, hl13⟩ := pt_block hb13
    replace hl7 : g7 < W8.heap.size := Nat.lt_of_lt_of_le hl7 EW8.size
    have N13W8 := Lib.hid (N13W7.out.ext EW8)
    replace hl8 : g8 < W8.heap.size := Nat.lt_of_lt_of_le hl8 EW8.size
    have N14W8 := Lib.hid (N14W7.out.ext EW8)
    replace hl9 : g9 < W8.heap.size := Nat.lt_of_lt_of_le hl9 EW8.size
    have N15W8 := Lib.hid (N15W7.out.ext EW8)
    replace hl12 : g12 < W8.heap.size := Nat.lt_of_lt_of_le hl12 EW8.size
    have N21W8 := Lib.hid (N21W7.out.ext EW8)
    have N27W8 := Lib.hid nr27
    clear hS hb13 nr27 hKeep CSW7 N13W7 N14W7 N15W7 N21W7 u120 u121
    go_upto_region 16 with (fail)
    refine wp_KBc W8 (W8.heap.size) (fun W => W.cell? ⟨w.heap.size, 0, none⟩ = some (.int .i64 add1) ∧ W.cell? ⟨w.heap.size, 1, none⟩ = some (.int .i64 s1) ∧ cn W w.heap.size 2 n1 p1 l1 c1 ∧ cn W w.heap.size 4 m1 q1 k1 d1 ∧ W.cell? ⟨w.heap.size + 1, 0, none⟩ = some (.int .i64 add2) ∧ W.cell? ⟨w.heap.size + 1, 1, none⟩ = some (.int .i64 s2) ∧ cn W (w.heap.size + 1) 2 n2 p2 l2 c2 ∧ cn W (w.heap.size + 1) 4 m2 q2 k2 d2 ∧ cn W g7 0 n13 p13 l13 c13 ∧ cn W g8 0 n14 p14 l14 c14 ∧ cn W g9 0 n15 p15 l15 c15 ∧ cn W g12 0 n21 p21 l21 c21 ∧ cn W g13 0 n27 p27 l27 c27) ?_
    intro hKeep
    repeat (first | refine F_s ?_ | refine F_r ?_)
    refine F_n W8 (ofZ s3) (fun W hW => r01_Of s3 _ (by omega) (by omega)) ?_; intro n28 p28 l28 c28 hn28
    repeat (first | refine F_s ?_ | refine F_r ?_)
    refine F_n W8 (ofZ tm) (fun W hW => r02_mulE (ofZ s3) (ofZ dA) tm 5 _ _ _ _ _ _ _ _ W hW.2 (N13W8.out.ext hW.1.1) (ofZ_right (C7.out.small (by decide))) rD (by rw [ofZ_z, ofZ_z]; exact Q8.out) C8.out (by decide)) ?_; intro n29 p29 l29 c29 hn29
    repeat (first | refine F_s ?_ | refine F_r ?_)
    refine F_n W8 (ofZ tw) (fun W hW => r02_mulE (ofZ tm) y2 tw 13 _ _ _ _ _ _ _ _ W hW.2 ((Y2.out.ext EXW8).ext hW.1.1.1) (ofZ_right (C8.out.small (by decide))) r4 (by rw [ofZ_z]; exact Q9.out) C9.out (by decide)) ?_; intro n30 p30 l30 c30 hn30
    repeat (first | refine F_s ?_ | refine F_r ?_)
    refine F_al ?_
    intro g14 hg14
    simp only [List.mem_cons, List.mem_range, not_or, Nat.not_lt] at hg14
    repeat (first | refine F_s ?_ | refine F_r ?_)
    refine F_w (fun W => _ ∧ NR W n30 p30 l30 c30 (ofZ tw)) (fun W hW => ⟨⟨hW.1.1.1.1, hW.1.2⟩, hW.2⟩) ?_
    repeat (first | refine F_s ?_ | refine F_r ?_)
    rintro W9 ⟨⟨⟨hS, nr30⟩, hb14⟩, _⟩
    have EW9 : Ext W8 W9 := hS.1
    have EXW9 : Ext w W9 := Ext.step EXW8 EW9
    have CSW9 := hS.2.2
    obtain ⟨u140, u141, _, hl14⟩ := pt_block hb14
    replace hl7 : g7 < W9.heap.size := Nat.lt_of_lt_of_le hl7 EW9.size
    have N13W9 := Lib.hid (N13W8.out.ext EW9)
    replace hl8 : g8 < W9.heap.size := Nat.lt_of_lt_of_le hl8 EW9.size
    have N14W9 := Lib.hid (N14W8.out.ext EW9)
    replace hl9 : g9 < W9.heap.size := Nat.lt_of_lt_of_le hl9 EW9.size
    have N15W9 := Lib.hid (N15W8.out.ext EW9)
    replace hl12 : g12 < W9.heap.size := Nat.lt_of_lt_of_le hl12 EW9.size
    have N21W9 := Lib.hid (N21W8.out.ext EW9)
    replace hl13 : g13 < W9.heap.size := Nat.lt_of_lt_of_le hl13 EW9.size
    have N27W9 := Lib.hid (N27W8.out.ext EW9)
    have N30W9 := Lib.hid nr30
    clear hS hb14 nr30 hKeep CSW8 N13W8 N14W8 N15W8 N21W8 N27W8 u130 u131
    go_upto_region 17 with (fail)
    refine wp_KBc W9 (W9.heap.size) (fun W => W.cell? ⟨w.heap.size, 0, none⟩ = some (.int .i64 add1) ∧ W.cell? ⟨w.heap.size, 1, none⟩ = some (.int .i64 s1) ∧ cn W w.heap.size 2 n1 p1 l1 c1 ∧ cn W w.heap.size 4 m1 q1 k1 d1 ∧ W.cell? ⟨w.heap.size + 1, 0, none⟩ = some (.int .i64 add2) ∧ W.cell? ⟨w.heap.size + 1, 1, none⟩ = some (.int .i64 s2) ∧ cn W (w.heap.size + 1) 2 n2 p2 l2 c2 ∧ cn W (w.heap.size + 1) 4 m2 q2 k2 d2 ∧ cn W g7 0 n13 p13 l13 c13 ∧ cn W g8 0 n14 p14 l14 c14 ∧ cn W g9 0 n15 p15 l15 c15 ∧ cn W g12 0 n21 p21 l21 c21 ∧ cn W g13 0 n27 p27 l27 c27 ∧ cn W g14 0 n30 p30 l30 c30) ?_
    intro hKeep
    repeat (first | refine F_s ?_ | refine F_r ?_)
    refine F_c (.int .i64 v) (fun W hW => r02_sideE rs tw un v _ _ _ _ _ _ _ _ _ _ _ _ 24 13 16 W (N27W9.out.ext hW.1) (N30W9.out.ext hW.1) (N15W9.out.ext hW.1) C6.out C9.out BU.out (by decide) (by decide) Z1.out V.out) ?_
    repeat (first | refine F_s ?_ | refine F_r ?_)
    rintro W10 ⟨hx, _⟩
    have EX10 : Ext w W10 := Ext.step EXW9 hx
    clear hx hKeep CSW9
    go_wp2
    go_ret
    exact ⟨by rw [RES.out, RS2.out]; rfl, EX10⟩
  · have hne : (u == s2) = false := by simpa using huv
    by_cases hgt : s2 < u
    · have hd : decide (s2 < u) = true := by simpa using hgt
      have RS : Hid (cmpR dA s1 x1.z y1.z s2 x2.z y2.z = 1) := Lib.hid (by rw [CUT.out, if_pos huv]; omega)
      clear CUT huv hgt
      go_wp2
      go_ret
      exact ⟨by rw [RES.out, RS.out]; rfl, EX6⟩
    · have hd : decide (s2 < u) = false := by simpa using hgt
      have RS : Hid (cmpR dA s1 x1.z y1.z s2 x2.z y2.z = -1) := Lib.hid (by rw [CUT.out, if_pos huv]; omega)
      clear CUT huv hgt
      go_wp2
      go_ret
      exact ⟨by rw [RES.out, RS.out]; rfl, EX6⟩
end Go.Proofs.YtighahcllmoajaaGreat
