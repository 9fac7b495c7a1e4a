/- Contract: etchantref01.Int. | Contract: etchantref02.Plus. | Contract: etchantref02.Sign. -/
import Derived.Test.YtghgggaimijcaaaGreatDoorJ23
import Derived.Test.YtghgggaimijcaaaGreatDoorJ26
import Derived.Test.YtghgggaimijcaaaGreatDoorJ24
import Derived.Test.YtghgggaimijcaaaGreatDoorJ21
import Derived.Test.YtghgggaimijcaaaGreatDoorJ15
import Derived.Deep.Upon
set_option linter.unusedVariables false
set_option linter.unusedSimpArgs false

namespace Go.Proofs.YtghgggaimijcaaaGreatDoor
open Go.RowKit
attribute [local go_sem] Gives givesU

set_option maxRecDepth 100000 in
set_option maxHeartbeats 4000000 in
theorem r01_Int (a : Nm) (na : Bool) (pa : Option Addr) (la ca : Nat) (w : World) (ha : NR w na pa la ca a) :
    Calls Tryz.prog 61 #[.agg #[.bool na, .slice pa la ca]] w (RetInt w (intP a)) := by
  have RA := Lib.hid (fun w' (hx : Ext w w') => r01_Right a na pa la ca w' (ha.ext hx))
  cases ra : a.right with
  | false =>
    rw [ra] at RA
    have hP : intP a = (0, false) := by unfold intP; rw [ra]; rfl
    rw [hP]
    go_enter Tryz.func61, Tryz.ntmps61
    go_wp2_with fail
    refine (RA.out _ bxx).mono ?_
    rintro e w1 ⟨rfl, hx⟩
    have hx0 : Ext w w1 := Ext.step bxx hx
    go_wp2
    go_ret2
    exact ⟨rfl, hx0⟩
  | true =>
    rw [ra] at RA
    by_cases hl : 2 < la
    · have hP : intP a = (0, false) := by
        have := ha.2.1
        unfold intP; rw [if_neg]; simp; intros; omega
      rw [hP]
      go_enter Tryz.func61, Tryz.ntmps61
      go_wp2_with fail
      refine (RA.out _ bxx).mono ?_
      rintro e w1 ⟨rfl, hx⟩
      have hx0 : Ext w w1 := Ext.step bxx hx
      have hz_w1 : w.heap.size + 1 ≤ w1.heap.size := Nat.le_trans omm hx.size
      obtain ⟨hl_w1_0, hk_w1_0, hf_w1_0⟩ := extK hx (w.heap.size)
      go_wp2
      go_ret2
      exact ⟨rfl, hx0⟩
    · have dl : decide (2 < (la : Int)) = false := by rw [decide_eq_false_iff_not]; omega
      obtain rfl : la = a.d.length := ha.2.1
      have hlen : a.d.length ≤ 2 := by omega
      have hcap := ha.2.2.le
      have hmax := ha.2.2.max
      have HLEN := Lib.hid hlen
      clear hl
      have hdig := ha.2.2.dig
      have hsgn : na = a.neg := ha.1
      have hM64 : val a.d < 18446744073709551616 := by
        have := val_lt hdig
        exact Nat.lt_of_lt_of_le this (Nat.pow_le_pow_right (n := 4294967296) (i := a.d.length) (j := 2) (by omega) hlen)
      have hzv : a.z = if na then -(val a.d : Int) else val a.d := by unfold Nm.z; rw [hsgn]
      have hpos : na = true → 0 < val a.d := by
        intro h
        refine tight_posD (a.right_iff.1 ra).2.1 ?_
        rcases Nat.eq_zero_or_pos a.d.length with g | g
        · have := (a.right_iff.1 ra).2.2 (List.eq_nil_of_length_eq_zero g)
          rw [hsgn, this] at h; cases h
        · exact g
      have hP : intP a = if decide (-9223372036854775808 ≤ a.z) && decide (a.z ≤ 9223372036854775807) then (a.z, true) else (0, false) := by
        unfold intP
        rw [ra, show decide (a.d.length ≤ 2) = true by simpa using hlen]
        rfl
      rw [hzv] at hP
      have HA := Lib.hid ha
      have HP := Lib.hid hP
      have HPOS := Lib.hid hpos
      have HM := Lib.hid hM64
      have HD := Lib.hid hdig
      clear hP hzv hsgn hpos hM64 ha ra hdig
      go_enter Tryz.func61, Tryz.ntmps61
      go_wp2_with fail
      refine (RA.out _ bxx).mono ?_
      rintro e w1 ⟨rfl, hx⟩
      have hx0 : Ext w w1 := Ext.step bxx hx
      have hz_w1 : w.heap.size + 1 ≤ w1.heap.size := Nat.le_trans omm hx.size
      obtain ⟨hl_w1_0, hk_w1_0, hf_w1_0⟩ := extK hx (w.heap.size)
      have g0 : w1.cell? ⟨w.heap.size, 0, none⟩ = some (.bool na) := by go_simp
      have g1 : w1.cell? ⟨w.heap.size, 1, none⟩ = some (.slice pa a.d.length ca) := by go_simp
      have HROW := Lib.hid (HA.out.ext hx0).2.2
      have hl1 : w.heap.size < w1.heap.size := by omega
      clear hk_w1_0 hf_w1_0 hx
      clear RA
      go_wp2_with fail
      go_loopw [4, 5] (fun m i wr => ∃ k : Nat, k ≤ a.d.length ∧ i = .int .i64 (k : Int) ∧ m = .int .u64 ((val (a.d.take k) : Nat) : Int) ∧ wr = w1) (fun _ i _ => a.d.length - (intOf i).toNat)
      case atStart => exact ⟨0, Nat.zero_le _, rfl, rfl, rfl⟩
      case round =>
        obtain ⟨k, hk, rfl, rfl, rfl⟩ := hrel
        by_cases hlt : k < a.d.length
        · obtain ⟨b, o, rfl, hb, hc⟩ := HROW.out.at (by omega)
          have hck := hc k hlt
          have hd0 := HD.out.getD k
          rw [List.getD_eq_getElem?_getD] at hd0
          have TK : Hid (val (a.d.take (k + 1)) = val (a.d.take k) + 4294967296 ^ k * (a.d[k]?.getD 0)) := Lib.hid (by
            rw [List.take_succ_eq_append_getElem hlt, val_append, List.length_take, Nat.min_eq_left (by omega), List.getElem?_eq_getElem hlt]
            simp [val])
          obtain ⟨x, X⟩ : ∃ x, Hid (a.d[k]?.getD 0 = x) := ⟨_, Lib.hid rfl⟩
          rw [X.out] at hck hd0 TK
          clear hc
          have NX : Hid (val (a.d.take (k + 1)) = val (a.d.take k) + 4294967296 ^ k * x) := TK
          obtain ⟨m, M⟩ : ∃ m, Hid (val (a.d.take k) = m) := ⟨_, Lib.hid rfl⟩
          have hm : m < 4294967296 ^ k := by
            have := val_lt (d := a.d.take k) (fun y hy => HD.out y (List.mem_of_mem_take hy))
            rwa [List.length_take, Nat.min_eq_left (by omega), M.out] at this
          rw [M.out] at NX ⊢
          rcases (show k = 0 ∨ k = 1 by omega) with rfl | rfl
          · have hm0 : m = 0 := by simpa using hm
            subst hm0
            have T1 : Hid (val (a.d.take (0 + 1)) = x) := Lib.hid (by rw [NX.out]; simp)
            rw [Nat.add_zero] at hck
            clear TK NX hm M
            go_wp2_with fail
            exact ⟨⟨1, by omega, rfl, by rw [show val (a.d.take 1) = x from T1.out], trivial⟩, by simp [intOf]; omega⟩
          · have T1 : Hid (val (a.d.take (1 + 1)) = m + 4294967296 * x) := Lib.hid (by rw [NX.out, Nat.pow_one])
            rw [Nat.pow_one] at hm
            clear TK NX
            go_wp2_with fail
            exact ⟨⟨2, by omega, rfl, by rw [show val (a.d.take 2) = _ from T1.out]; congr 1; omega, trivial⟩, by simp [intOf]; omega⟩
        · obtain rfl : k = a.d.length := by omega
          rw [List.take_of_length_le (Nat.le_refl _)]
          obtain ⟨M, HV⟩ : ∃ M, Hid (val a.d = M) := ⟨_, rfl⟩
          have hM64 := HM.out
          have hpos := HPOS.out
          have HP2 := HP.out
          rw [HV.out] at hM64 hpos HP2 ⊢
          have HPM := Lib.hid HP2
          clear HP2 HP HPOS HM HROW
          cases na
          · by_cases h63 : M < 9223372036854775808
            · have d1 : decide (9223372036854775808 ≤ (M : Int)) = false := by rw [decide_eq_false_iff_not]; omega
              have d2 : ¬ 9223372036854775808 ≤ (M : Int) := by omega
              have w0 : wrap64 (M : Int) = (M : Int) := IntWalk.wrap64_in _ ⟨by omega, by omega⟩
              have RES : Hid (intP a = ((M : Int), true)) := Lib.hid (HPM.out.trans (by rw [if_pos]; rfl; simp; omega))
              clear hpos HPM hM64
              go_wp2
              go_ret2
              exact ⟨by rw [RES.out]; first | rfl | simp [w0], hx0⟩
            · have d1 : decide (9223372036854775808 ≤ (M : Int)) = true := by rw [decide_eq_true_eq]; omega
              have d2 : 9223372036854775808 ≤ (M : Int) := by omega
              have RES : Hid (intP a = (0, false)) := Lib.hid (HPM.out.trans (by rw [if_neg]; simp; omega))
              clear hpos HPM hM64
              go_wp2
              go_ret2
              exact ⟨by rw [RES.out]; rfl, hx0⟩
          · by_cases h63 : M ≤ 9223372036854775808
            · have d1 : decide (9223372036854775808 < (M : Int)) = false := by rw [decide_eq_false_iff_not]; omega
              have d2 : ¬ 9223372036854775808 < (M : Int) := by omega
              have hp := hpos rfl
              have w1' : IntKind.u64.wrap (-(M : Int)) = 18446744073709551616 - (M : Int) := by rw [u64_neg _ (by omega)]; omega
              have w2' : wrap64 (18446744073709551616 - (M : Int)) = -(M : Int) := by
                unfold wrap64
                omega
              have RES : Hid (intP a = (-(M : Int), true)) := Lib.hid (HPM.out.trans (by rw [if_pos]; rfl; simp; omega))
              have HW := Lib.hid w1'
              have HW2 := Lib.hid w2'
              clear hpos HPM hM64 w1' w2' hp
              go_wp2
              go_ret2
              have e : wrap64 (IntKind.u64.wrap (-(M : Int))) = -(M : Int) := by rw [HW.out, HW2.out]
              exact ⟨by rw [RES.out]; exact congrArg (fun z => Ending.returned (.tuple #[.int .i64 z, .bool true])) e, hx0⟩
            · have d1 : decide (9223372036854775808 < (M : Int)) = true := by rw [decide_eq_true_eq]; omega
              have d2 : 9223372036854775808 < (M : Int) := by omega
              have RES : Hid (intP a = (0, false)) := Lib.hid (HPM.out.trans (by rw [if_neg]; simp; omega))
              clear hpos HPM hM64
              go_wp2
              go_ret2
              exact ⟨by rw [RES.out]; rfl, hx0⟩
theorem r01_IntE (a : Nm) (r : Int × Bool) (na : Bool) (pa : Option Addr) (la ca : Nat) (w : World) (ha : NR w na pa la ca a) (h : intP a = r) :
    Calls Tryz.prog 61 #[.agg #[.bool na, .slice pa la ca]] w fun e w' => e = .returned (.tuple #[.int .i64 r.1, .bool r.2]) ∧ Ext w w' := h ▸ r01_Int a na pa la ca w ha
end Go.Proofs.YtghgggaimijcaaaGreatDoor

namespace Go.Proofs.YtghgggaimijcaaaGreatDoor
open Go.RowKit
attribute [local go_sem] Gives givesU

/-- A copy of digits: an append to a new slice. -/
theorem copy_at (d : List Nat) (p : Option Addr) (l c : Nat) (W : World) (h : Row W p c d) (hl : l = d.length) (h8 : d.length ≤ 8) :
    ∃ p' c' w', (Builtin.append_ #[23, 23] 23 #[.slice (some ⟨W.heap.size, 0, none⟩) 0 0, .slice p l c]).run Tryz.prog (W.alloc (.cells #[] 79)) = .ok (.slice p' l c') w' ∧ Row w' p' c' d ∧ Ext W w' := by
  obtain ⟨i, hi, hz0, hz1, hz2⟩ := info_parts info32
  have hT := Tryz.underlying23
  subst hl
  rcases Nat.eq_zero_or_pos d.length with h0 | h0
  · have hd : d = [] := List.eq_nil_of_length_eq_zero h0
    subst hd
    have hs : Src Tryz.prog i.size 23 (.slice p ([] : List Nat).length c) 0 [] (W.alloc (.cells #[] 79)) := by
      cases p with
      | none => exact Src.ofNil _ hT c
      | some a => exact Src.ofSlice _ hT a 0 c [] (by simp) (fun j u hj => by simp at hj) (fun u hu => by cases hu)
    refine ⟨some ⟨W.heap.size, 0, none⟩, 0, _, run_append_nothing _ _ _ _ _ i hT hi _ 0 0 (Nat.le_refl _) _ hs, ⟨by simp, by omega, Dig.nil, fun g => absurd g (by simp)⟩, bxx⟩
  · obtain ⟨b, o, rfl, hb, hc⟩ := h.at h0
    have hW : Ext W (W.alloc (.cells #[] 79)) := bxx
    obtain ⟨v', w', hr, hown, hgr, _⟩ := run_append_own (P := Tryz.prog) (W.alloc (.cells #[] 79)) W.heap.size 23 23 79 i (.int .u32 0) 1 4 hT hi hz0 hz1 hz2 rfl (by decide) _ _ _ (World.ownsRow_made W #[] 0 (Nat.le_refl _) (by decide) rfl) ⟨b, o, none⟩ d.length c (enc d) (by simp [enc]) (row_news (fun i hi => cell_later hW (hc i hi))) (enc_one d) (by unfold maxLen; omega) (by omega) (by simp)
    obtain ⟨p', c', rfl, hrow, hnew⟩ := row_of_owns (d := d) (by simpa using hown) h.dig
    exact ⟨p', c', w', hr, hrow, ((Below.refl _ _).alloc (Nat.le_refl _) _).grown hgr (by simp) (fun k hk => by simp [Value.ownBlock] at hk; omega)⟩
/-- An append whose outcome is known, in the list of a plain region's operations. -/
theorem wpList_append_run {P : Program} {ops : Array Oper} {rest : List Oper} {o : Oper} {a : Act} {Q : Exit → Act → World → Prop} {w w' : World} (hgd : o.guard = none) (s x : Operand) (t : TypeId)
    (ho : o.op = .call { callee := .builtin .append, args := #[s, x], argTypes := #[t, t] }) (u v z : Value) (hs : a.eval s = u) (hx : a.eval x = v)
    (hr : (Builtin.append_ #[t, t] o.type #[u, v]).run P w = .ok z w') (h : wpList P ops Q rest (a.put o.dst z) w') : wpList P ops Q (o :: rest) a w :=
  wpList_plain hgd fun K hK => by
    have e : (execOp a.eval o).run P w = .ok (.value z) w' := by
      unfold execOp
      simp only [ho, resolve, invoke, builtin, Sem.run_bind, Sem.run_pure, Result.andThen_ok, List.map_toArray, List.map_cons, List.map_nil, hs, hx, hr]
    unfold Oper.wp
    rw [e]
    exact hK _ _ h
set_option maxRecDepth 100000 in
set_option maxHeartbeats 4000000 in
theorem r02_Plus (add s i : Int) (x y : Nm) (n m : Bool) (p q : Option Addr) (l c k d : Nat) (w : World) (hn : NR w n p l c x) (hd : NR w m q k d y)
    (i1 : -9223372036854775808 ≤ add ∧ add ≤ 9223372036854775807) (i2 : -9223372036854775808 ≤ i ∧ i ≤ 9223372036854775807) :
    Calls Tryz.prog 28 #[.agg #[.int .i64 add, .int .i64 s, .bool n, .slice p l c, .bool m, .slice q k d], .int .i64 i] w (RetRt w (plusR ⟨add, s, x, y⟩ i)) := by
  have X := Lib.hid hn
  have Y := Lib.hid hd
  have I1 := Lib.hid i1
  have I2 := Lib.hid i2
  have AD : Hid ((addP (ofZ add) (ofZ i)).1 = ofZ (add + i)) := Lib.hid (by rw [addP_int i1 i2])
  have IN := Lib.hid (intP_wide (wide_sum i1 i2))
  have PB : Hid ((Rt.right ⟨add, s, x, y⟩ && inI (add + i)) = false → plusR ⟨add, s, x, y⟩ i = (Rt.no, false)) := Lib.hid (fun h => by unfold plusR; rw [h]; rfl)
  have PG : Hid ((Rt.right ⟨add, s, x, y⟩ && inI (add + i)) = true → plusR ⟨add, s, x, y⟩ i = (⟨add + i, s, x, y⟩, true)) := Lib.hid (fun h => by unfold plusR; rw [h]; rfl)
  have OK : Hid (Rt.right ⟨add, s, x, y⟩ = true → x.d.length ≤ 8 ∧ y.d.length ≤ 8) := Lib.hid (fun h => by have k := (right_ok (a := ⟨add, s, x, y⟩) hn.2.2.dig hd.2.2.dig h).1; exact ⟨k.nl, k.dl⟩)
  obtain ⟨z, Z⟩ : ∃ z, Hid (add + i = z) := ⟨_, rfl⟩
  rw [Z.out] at AD IN PB PG
  obtain ⟨b, B⟩ : ∃ b, Hid (Rt.right ⟨add, s, x, y⟩ = b) := ⟨_, Lib.hid rfl⟩
  rw [B.out] at PB PG OK
  obtain ⟨u, U⟩ : ∃ u, Hid (inI z = u) := ⟨_, Lib.hid rfl⟩
  rw [U.out] at IN PB PG
  obtain ⟨zz, ZV⟩ : ∃ t, Hid ((if u then z else 0) = t) := ⟨_, Lib.hid rfl⟩
  have INT : Hid (intP (ofZ z) = (zz, u)) := Lib.hid (by rw [IN.out, ← ZV.out]; cases u <;> rfl)
  obtain ⟨r, R⟩ : ∃ r, Hid (plusR ⟨add, s, x, y⟩ i = r) := ⟨_, Lib.hid rfl⟩
  rw [R.out] at PB PG ⊢
  clear hn hd i1 i2 IN
  go_enter Tryz.func28, Tryz.ntmps28
  go_upto_region 1 with (fail)
  refine wp_know (fun W => Ext w W ∧ W.heap[w.heap.size]? = some (.cells #[.int .i64 add, .int .i64 s, .bool n, .slice p l c, .bool m, .slice q k d] 32) ∧ W.heap[w.heap.size + 1]? = some (.cells #[.int .i64 0, .int .i64 0, .bool false, .slice none 0 0, .bool false, .slice none 0 0] 32)) ?_ ?_
  · exact ⟨bxx, heap_old (heap_new rfl), heap_new (by simp)⟩
  rintro W0 ⟨ex, hb, rr⟩
  obtain ⟨e0, e1, e2, ⟨e3, e4⟩, ⟨e5, e6⟩, ef⟩ := RB.heap hb
  go_wp2_with fail
  refine (r02_RightB add s x y b _ _ _ _ _ _ _ _ W0 (X.out.ext ex) (Y.out.ext ex) B.out).mono ?_
  rintro e W1 ⟨rfl, hx⟩
  replace hb := heap_ext hb hx
  replace rr := heap_ext rr hx
  replace ex := Ext.step ex hx
  clear e0 e1 e2 e3 e4 e5 e6 ef hx
  obtain ⟨e0, e1, e2, ⟨e3, e4⟩, ⟨e5, e6⟩, ef⟩ := RB.heap hb
  clear ef
  go_upto_region 2 with (fail)
  refine wp_KB (W1.heap.size) (fun W => Ext W1 W ∧ W1.heap.size ≤ W.heap.size ∧ W.cell? ⟨w.heap.size, 0, none⟩ = some (.int .i64 add)) ?_
  intro hKeep
  repeat (first | refine F_s ?_ | refine F_r ?_)
  refine F_num W1 (ofZ add) (by rfl) (by rfl) (by intro W hW; (try dsimp only at hW); have hwW : W1.heap.size ≤ W.heap.size := (by have hzz := hW; (repeat (first | exact hzz.size | exact hzz.1.size | replace hzz := hzz.1))); go_simp; exact (r01_Of add _ I1.out.1 I1.out.2).mono fun _ _ h => RetN.isN hwW h) ?_; intro n1 p1 l1 c1 hn1; refine F_put ?_
  repeat (first | refine F_s ?_ | refine F_r ?_)
  refine F_num W1 (ofZ i) (by rfl) (by rfl) (by intro W hW; (try dsimp only at hW); have hwW : W1.heap.size ≤ W.heap.size := (by have hzz := hW; (repeat (first | exact hzz.size | exact hzz.1.size | replace hzz := hzz.1))); go_simp; exact (r01_Of i _ I2.out.1 I2.out.2).mono fun _ _ h => RetN.isN hwW h) ?_; intro n2 p2 l2 c2 hn2; refine F_put ?_
  repeat (first | refine F_s ?_ | refine F_r ?_)
  refine F_num W1 (ofZ z) (by rfl) (by rfl) (by intro W hW; (try dsimp only at hW); have hwW : W1.heap.size ≤ W.heap.size := (by have hzz := hW; (repeat (first | exact hzz.size | exact hzz.1.size | replace hzz := hzz.1))); go_simp; exact ((AD.out ▸ r02_plus (ofZ add) (ofZ i) _ _ _ _ _ _ _ _ _ hW.1.2 hW.2)).mono fun _ _ h => RetN.isN hwW h) ?_; intro n3 p3 l3 c3 hn3; refine F_put ?_
  repeat (first | refine F_s ?_ | refine F_r ?_)
  refine F_call (v := .tuple #[.int .i64 zz, .bool u]) (by rfl) (by rfl) ?_ ?_; (· (intro W hW; (try dsimp only at hW); go_simp; refine (r01_IntE (ofZ z) (zz, u) _ _ _ _ _ hW.2 INT.out).mono ?_; rintro e w' ⟨rfl, hx⟩; exact ⟨_, rfl, rfl, hx⟩)); refine F_put ?_
  repeat (first | refine F_s ?_ | refine F_r ?_)
  rintro W2 ⟨⟨⟨hS, _⟩, _⟩, _⟩
  replace hb := heap_ext hb hS.1
  replace rr := heap_ext rr hS.1
  replace ex := Ext.step ex hS.1
  clear e0 e1 e2 e3 e4 e5 e6 hS hKeep hn1 hn2 hn3
  have NO : Hid (r = (Rt.no, false) → ∀ W', Ext w W' → RetRt w r (.returned (.tuple #[.agg #[.int .i64 0, .int .i64 0, .bool false, .slice none 0 0, .bool false, .slice none 0 0], .bool false])) W') := Lib.hid (fun h W' hx => by
    rw [h]
    exact ⟨false, none, 0, 0, false, none, 0, 0, rfl, NR.zero _, NR.zero _, hx⟩)
  rcases Bool.eq_false_or_eq_true (b && u) with hbu | hbu
  · obtain ⟨rfl, rfl⟩ : b = true ∧ u = true := by simpa using hbu
    obtain rfl : zz = z := ZV.out.symm
    obtain ⟨ox, oy⟩ := OK.out rfl
    have PR := Lib.hid (PG.out hbu)
    obtain ⟨e0, e1, e2, ⟨e3, e4⟩, ⟨e5, e6⟩, ef⟩ := RB.heap hb
    clear hbu ZV INT AD OK PB PG NO B U
    go_upto_region 6 with (fail)
    obtain ⟨ho, hb'⟩ := store1c (j := 0) (v := .int .i64 zz) hb
    refine wp_know (fun W => Ext w W ∧ W.heap[w.heap.size]? = some (.cells #[.int .i64 zz, .int .i64 s, .bool n, .slice p l c, .bool m, .slice q k d] 32) ∧ W.heap[w.heap.size + 1]? = some (.cells #[.int .i64 0, .int .i64 0, .bool false, .slice none 0 0, .bool false, .slice none 0 0] 32) ∧ NR W n p l c x ∧ NR W m q k d y) ⟨bxx, hb', (ho.block _ (by omega)).trans rr, (X.out.ext ex).keep6 hb ho, (Y.out.ext ex).keep6 hb ho⟩ ?_
    clear e0 e1 e2 e3 e4 e5 e6 ef ho hb' hb rr ex
    rintro W3 ⟨ex, hb, rr, nx, ny⟩
    obtain ⟨p', c', w4, hrun, row, hx4⟩ := copy_at x.d p l c W3 nx.2.2 nx.2.1 ox
    have hb4 := heap_ext hb hx4
    have rr4 := heap_ext rr hx4
    have ex4 := Ext.step ex hx4
    have nx4 : NR w4 n p' l c' x := ⟨nx.1, nx.2.1, row⟩
    have ny4 := ny.ext hx4
    obtain ⟨e0, e1, e2, ⟨e3, e4⟩, ⟨e5, e6⟩, ef⟩ := RB.heap hb
    obtain ⟨d0, d1, d2, ⟨d3, d4⟩, ⟨d5, d6⟩, df⟩ := RB.heap hb4
    clear hb rr ex nx ny row hx4 ox
    go_upto_region 7 with (at_builtin; refine wpList_append_run rfl _ _ 23 rfl _ _ _ rfl rfl hrun ?_)
    obtain ⟨ho, hb'⟩ := store1c (j := 3) (v := .slice p' l c') hb4
    refine wp_know (fun W => Ext w W ∧ W.heap[w.heap.size]? = some (.cells #[.int .i64 zz, .int .i64 s, .bool n, .slice p' l c', .bool m, .slice q k d] 32) ∧ W.heap[w.heap.size + 1]? = some (.cells #[.int .i64 0, .int .i64 0, .bool false, .slice none 0 0, .bool false, .slice none 0 0] 32) ∧ NR W n p' l c' x ∧ NR W m q k d y) ⟨bxx, hb', (ho.block _ (by omega)).trans rr4, nx4.keep6 hb4 ho, ny4.keep6 hb4 ho⟩ ?_
    clear e0 e1 e2 e3 e4 e5 e6 ef d0 d1 d2 d3 d4 d5 d6 df ho hb' hb4 rr4 ex4 nx4 ny4 hrun
    rintro W5 ⟨ex, hb, rr, nx, ny⟩
    obtain ⟨q', d', w6, hrun, row, hx4⟩ := copy_at y.d q k d W5 ny.2.2 ny.2.1 oy
    have hb4 := heap_ext hb hx4
    have rr4 := heap_ext rr hx4
    have ex4 := Ext.step ex hx4
    have nx4 := nx.ext hx4
    have ny4 : NR w6 m q' k d' y := ⟨ny.1, ny.2.1, row⟩
    obtain ⟨e0, e1, e2, ⟨e3, e4⟩, ⟨e5, e6⟩, ef⟩ := RB.heap hb
    obtain ⟨d0, d1, d2, ⟨d3, d4⟩, ⟨d5, d6⟩, df⟩ := RB.heap hb4
    clear hb rr ex nx ny row hx4 oy
    go_upto_region 8 with (at_builtin; refine wpList_append_run rfl _ _ 23 rfl _ _ _ rfl rfl hrun ?_)
    obtain ⟨ho, hb'⟩ := store1c (j := 5) (v := .slice q' k d') hb4
    refine wp_know (fun W => Ext w W ∧ W.heap[w.heap.size]? = some (.cells #[.int .i64 zz, .int .i64 s, .bool n, .slice p' l c', .bool m, .slice q' k d'] 32) ∧ W.heap[w.heap.size + 1]? = some (.cells #[.int .i64 0, .int .i64 0, .bool false, .slice none 0 0, .bool false, .slice none 0 0] 32) ∧ NR W n p' l c' x ∧ NR W m q' k d' y) ⟨bxx, hb', (ho.block _ (by omega)).trans rr4, nx4.keep6 hb4 ho, ny4.keep6 hb4 ho⟩ ?_
    clear e0 e1 e2 e3 e4 e5 e6 ef d0 d1 d2 d3 d4 d5 d6 df ho hb' hb4 rr4 ex4 nx4 ny4 hrun
    rintro W7 ⟨ex, hb, rr, nr1, nr2⟩
    obtain ⟨e0, e1, e2, ⟨e3, e4⟩, ⟨e5, e6⟩, ef⟩ := RB.heap hb
    clear ef hb
    refine wp_GN (w.heap.size + 1) (.cells #[.int .i64 0, .int .i64 0, .bool false, .slice none 0 0, .bool false, .slice none 0 0] 32) (fun W => Ext w W ∧ W7.heap.size ≤ W.heap.size ∧ W.cell? ⟨w.heap.size, 0, none⟩ = some (.int .i64 zz) ∧ W.cell? ⟨w.heap.size, 1, none⟩ = some (.int .i64 s) ∧ W.cell? ⟨w.heap.size, 2, none⟩ = some (.bool n) ∧ W.cell? ⟨w.heap.size, 3, none⟩ = some (.slice p' l c') ∧ W.cell? ⟨w.heap.size, 4, none⟩ = some (.bool m) ∧ W.cell? ⟨w.heap.size, 5, none⟩ = some (.slice q' k d')) (fun W => NR W n p' l c' x ∧ NR W m q' k d' y) ?_
    intro hSM hRKS
    repeat (first | refine F_s ?_ | refine F_r ?_)
    refine F_w (fun W => _) (fun W hW => hW) ?_
    repeat (first | refine F_s ?_ | refine F_r ?_)
    rintro Wb ⟨⟨⟨⟨hx, hz, hc⟩, k1', k2'⟩, hb⟩, _⟩
    obtain ⟨⟨c0, c1', c2, c3', c4, c5⟩, _, hl⟩ := cells6 hb
    clear hc hb nr1 nr2 e0 e1 e2 e3 e4 e5 e6 rr ex
    go_wp2
    refine bodyPost_ret (v := .tuple #[.agg #[.int .i64 zz, .int .i64 s, .bool n, .slice p' l c', .bool m, .slice q' k d'], .bool true]) (by simp only [results, Tryz.results28]; go_simp) rfl ?_
    rw [PR.out]
    exact ⟨n, p', l, c', m, q', k, d', rfl, k1', k2', hx⟩
  · have P : Hid (r = (Rt.no, false)) := Lib.hid (PB.out hbu)
    obtain ⟨e0, e1, e2, ⟨e3, e4⟩, ⟨e5, e6⟩, ef⟩ := RB.heap hb
    clear ef PB PG OK INT ZV AD
    have hg : (b = false ∧ True) ∨ (b = true ∧ u = false) := by
      cases b
      · exact .inl ⟨rfl, trivial⟩
      · exact .inr ⟨rfl, by simpa using hbu⟩
    clear hbu
    rcases hg with ⟨rfl, _⟩ | ⟨rfl, rfl⟩
    case' inl => go_upto_region 4 with (fail)
    case' inr => go_upto_region 4 with (fail)
    all_goals
      refine wp_GR (w.heap.size + 1) (.cells #[.int .i64 0, .int .i64 0, .bool false, .slice none 0 0, .bool false, .slice none 0 0] 32) (fun W => Ext w W ∧ W2.heap.size ≤ W.heap.size ∧ W.cell? ⟨w.heap.size, 0, none⟩ = some (.int .i64 add)) ?_
      intro hSM hRKS
      repeat (first | refine F_s ?_ | refine F_r ?_)
      refine F_w (fun W => _) (fun W hW => hW) ?_
      repeat (first | refine F_s ?_ | refine F_r ?_)
      rintro W4 ⟨⟨⟨hx, hz, hc⟩, hb'⟩, _⟩
      obtain ⟨⟨c0, c1, c2, c3, c4, c5⟩, _, hl⟩ := cells6 hb'
      clear hc hb' e0 e1 e2 e3 e4 e5 e6 hb
      go_wp2
      refine bodyPost_ret (v := .tuple #[.agg #[.int .i64 0, .int .i64 0, .bool false, .slice none 0 0, .bool false, .slice none 0 0], .bool false]) (by simp only [results, Tryz.results28]; go_simp) rfl ?_
      exact NO.out P.out _ hx
end Go.Proofs.YtghgggaimijcaaaGreatDoor

namespace Go.Proofs.YtghgggaimijcaaaGreatDoor
open Go.RowKit
attribute [local go_sem] Gives givesU

theorem NRl_of {W : World} {n1 n2 n3 : Bool} {p1 p2 p3 : Option Addr} {l1 c1 l2 c2 l3 c3 g : Nat} {a b c : Nm} {T : TypeId} (hh : W.heap[g]? = some (.cells #[.bool n1, .slice p1 l1 c1, .bool n2, .slice p2 l2 c2, .bool n3, .slice p3 l3 c3] T)) (h1 : NR W n1 p1 l1 c1 a) (h2 : NR W n2 p2 l2 c2 b) (h3 : NR W n3 p3 l3 c3 c) :
    NRl W g [a, b, c] := by
  refine ⟨(Array.getElem?_eq_some_iff.1 hh).1, fun i x hi => ?_⟩
  match i, hi with
  | 0, hi =>
    simp only [List.getElem?_cons_zero, Option.some.injEq] at hi
    subst hi
    exact ⟨n1, p1, l1, c1, by rw [cell_of_row _ _ _ _ _ _ hh]; rfl, by rw [cell_of_row _ _ _ _ _ _ hh]; rfl, h1⟩
  | 1, hi =>
    simp only [List.getElem?_cons_succ, List.getElem?_cons_zero, Option.some.injEq] at hi
    subst hi
    exact ⟨n2, p2, l2, c2, by rw [cell_of_row _ _ _ _ _ _ hh]; rfl, by rw [cell_of_row _ _ _ _ _ _ hh]; rfl, h2⟩
  | 2, hi =>
    simp only [List.getElem?_cons_succ, List.getElem?_cons_zero, Option.some.injEq] at hi
    subst hi
    exact ⟨n3, p3, l3, c3, by rw [cell_of_row _ _ _ _ _ _ hh]; rfl, by rw [cell_of_row _ _ _ _ _ _ hh]; rfl, h3⟩
  | i + 3, hi => simp at hi
theorem r02_sideG (a b c : Nm) (v : Int) (na nb nc : Bool) (pa pb pc : Option Addr) (la ca lb cb lc cc : Nat) (w : World) (ha : NR w na pa la ca a) (hb : NR w nb pb lb cb b) (hc : NR w nc pc lc cc c) (ga : goodB a = true) (gb : goodB b = true) (gc : goodB c = true) (hv : sideR a.z b.z c.z = v) :
    Calls Tryz.prog 52 #[.agg #[.bool na, .slice pa la ca], .agg #[.bool nb, .slice pb lb cb], .agg #[.bool nc, .slice pc lc cc]] w fun e w' => e = .returned (.int .i64 v) ∧ Ext w w' := by
  subst hv
  have ra : a.right = true := by simp only [goodB, Bool.and_eq_true] at ga; exact ga.1
  have rb : b.right = true := by simp only [goodB, Bool.and_eq_true] at gb; exact gb.1
  have rc : c.right = true := by simp only [goodB, Bool.and_eq_true] at gc; exact gc.1
  have la := good_lt ha.2.2.dig ga
  have lb := good_lt hb.2.2.dig gb
  have lc := good_lt hc.2.2.dig gc
  exact r02_side a b c _ _ _ _ _ _ _ _ _ _ _ _ w ha hb hc ra rb rc (small_of_lt (mul_lt_pow la la) (by decide)) (small_of_lt (mul_lt_pow lb lb) (by decide)) (small_of_lt (mul_lt_pow (mul_lt_pow lb lb) lc) (by decide))
set_option maxRecDepth 100000 in
set_option maxHeartbeats 4000000 in
theorem r02_Sign (a b c : Nm) (na nb nc : Bool) (pa pb pc : Option Addr) (la ca lb cb lc cc : Nat) (w : World) (ha : NR w na pa la ca a) (hb : NR w nb pb lb cb b) (hc : NR w nc pc lc cc c) :
    Calls Tryz.prog 20 #[.agg #[.bool na, .slice pa la ca], .agg #[.bool nb, .slice pb lb cb], .agg #[.bool nc, .slice pc lc cc]] w fun e w' => e = .returned (.int .i64 (signP a b c)) ∧ Ext w w' := by
  have HA := Lib.hid ha
  have HB := Lib.hid hb
  have HC := Lib.hid hc
  clear ha hb hc
  go_enter Tryz.func20, Tryz.ntmps20
  go_upto_region 1 with (fail)
  refine wp_know (fun W => Ext w W ∧ w.heap.size + 3 ≤ W.heap.size ∧ (W.cell? ⟨w.heap.size, 0, none⟩ = some (.bool na) ∧ W.cell? ⟨w.heap.size, 1, none⟩ = some (.slice pa la ca) ∧ W.cell? ⟨w.heap.size + 1, 0, none⟩ = some (.bool nb) ∧ W.cell? ⟨w.heap.size + 1, 1, none⟩ = some (.slice pb lb cb) ∧ W.cell? ⟨w.heap.size + 1 + 1, 0, none⟩ = some (.bool nc) ∧ W.cell? ⟨w.heap.size + 1 + 1, 1, none⟩ = some (.slice pc lc cc) )) ⟨bxx, by simp, by go_simp⟩ ?_
  rintro W0 ⟨ex0, hs0, d0, d1, d2, d3, d4, d5⟩
  refine wp_KB (W0.heap.size) (fun W => Ext W0 W ∧ W0.heap.size ≤ W.heap.size ∧ W.cell? ⟨w.heap.size, 0, none⟩ = some (.bool na) ∧ W.cell? ⟨w.heap.size, 1, none⟩ = some (.slice pa la ca) ∧ W.cell? ⟨w.heap.size + 1, 0, none⟩ = some (.bool nb) ∧ W.cell? ⟨w.heap.size + 1, 1, none⟩ = some (.slice pb lb cb) ∧ W.cell? ⟨w.heap.size + 1 + 1, 0, none⟩ = some (.bool nc) ∧ W.cell? ⟨w.heap.size + 1 + 1, 1, none⟩ = some (.slice pc lc cc)) ?_
  intro hKeep
  repeat (first | refine F_s ?_ | refine F_r ?_)
  refine F_al ?_
  intro g hg
  simp only [List.mem_cons, List.mem_range, not_or, Nat.not_lt] at hg
  repeat (first | refine F_s ?_ | refine F_r ?_)
  refine F_w (fun W => _) (fun W hW => hW) ?_
  repeat (first | refine F_s ?_ | refine F_r ?_)
  rintro w1 ⟨⟨hS, hgg⟩, _⟩
  have hx1 : Ext w w1 := Ext.step ex0 hS.1
  have NL := NRl_of hgg (HA.out.ext hx1) (HB.out.ext hx1) (HC.out.ext hx1)
  have hsz := hS.1.size
  obtain ⟨_, _, hcs⟩ := hS
  have CS := Lib.hid hcs
  clear hKeep hcs hgg d0 d1 d2 d3 d4 d5 ex0
  have HNL := Lib.hid NL
  have hgl := NL.1
  clear NL
  have hz1 : w.heap.size + 3 ≤ w1.heap.size := by omega
  clear hsz hs0 hg
  go_wp2_with fail
  go_loopw [8] (fun i wr => ∃ k : Nat, k ≤ 3 ∧ i = .int .i64 (k : Int) ∧ (∀ j x, j < k → [a, b, c][j]? = some x → goodB x = true) ∧ Ext w1 wr) (fun i _ => 3 - (intOf i).toNat)
  case atStart => exact ⟨0, by omega, rfl, fun j x hj _ => absurd hj (Nat.not_lt_zero j), Below.refl _ _⟩
  case round =>
    obtain ⟨k, hk, rfl, hgood, hx⟩ := hrel
    have GOOD := Lib.hid hgood
    clear hgood
    have hx2 := Ext.step hx1 hx
    have hzr : w.heap.size + 3 ≤ wr.heap.size := Nat.le_trans hz1 hx.size
    have hgr : g < wr.heap.size := Nat.lt_of_lt_of_le hgl hx.size
    by_cases hlt : k < 3
    · obtain ⟨x, XX⟩ : ∃ x, Hid ([a, b, c][k]? = some x) := ⟨[a, b, c][k], List.getElem?_eq_getElem hlt⟩
      obtain ⟨n, p, l, cp, e0, e1, hnx⟩ := (HNL.out.ext hx).2 k x XX.out
      have hlen := hnx.2.1
      have hlc := hnx.2.2.le
      have hcm := hnx.2.2.max
      have HLEN := Lib.hid hlen
      have hl64 : l ≤ 9223372036854775807 := by omega
      clear hlen
      cases rx : x.right with
      | true =>
        by_cases hl : l ≤ 20
        · have GX : Hid (goodB x = true) := by
            show goodB x = true
            unfold goodB
            rw [rx, ← HLEN.out]
            simpa using hl
          go_wp2_with fail
          refine (r01_Right x _ _ _ _ _ (hnx.ext bxx)).mono ?_
          rintro e w2 ⟨rfl, hx3⟩
          rw [rx]
          have hx4 : Ext wr w2 := Ext.step bxx hx3
          have hx5 : Ext w1 w2 := Ext.step hx hx4
          have q1 : w2.cell? ⟨g, k * 2 + 1, none⟩ = some (.slice p l cp) := (hx4.cell (p := ⟨g, k * 2 + 1, none⟩) hgr).trans e1
          have hg2 : g < w2.heap.size := Nat.lt_of_lt_of_le hgr hx4.size
          go_wp2
          refine ⟨⟨k + 1, by omega, rfl, fun j y hj hy => ?_, hx5⟩, by simp [intOf]; omega⟩
          rcases Nat.lt_or_ge j k with h | h
          · exact GOOD.out j y h hy
          · obtain rfl : j = k := by omega
            rw [XX.out] at hy
            cases hy
            exact GX.out
        · have GX : Hid (signP a b c = 0) := by
            refine signP_bad k x XX.out ?_
            unfold goodB
            rw [rx, ← HLEN.out]
            simpa using hl
          go_wp2_with fail
          refine (r01_Right x _ _ _ _ _ (hnx.ext bxx)).mono ?_
          rintro e w2 ⟨rfl, hx3⟩
          rw [rx]
          have hx4 : Ext wr w2 := Ext.step bxx hx3
          have hx5 : Ext w w2 := Ext.step hx2 hx4
          have q1 : w2.cell? ⟨g, k * 2 + 1, none⟩ = some (.slice p l cp) := (hx4.cell (p := ⟨g, k * 2 + 1, none⟩) hgr).trans e1
          have hg2 : g < w2.heap.size := Nat.lt_of_lt_of_le hgr hx4.size
          go_wp2
          go_ret
          exact ⟨by rw [GX.out]; rfl, hx5⟩
      | false =>
        have GX : Hid (signP a b c = 0) := by
          refine signP_bad k x XX.out ?_
          unfold goodB
          rw [rx]
          rfl
        go_wp2_with fail
        refine (r01_Right x _ _ _ _ _ (hnx.ext bxx)).mono ?_
        rintro e w2 ⟨rfl, hx3⟩
        rw [rx]
        have hx4 : Ext wr w2 := Ext.step bxx hx3
        have hx5 : Ext w w2 := Ext.step hx2 hx4
        go_wp2
        go_ret
        exact ⟨by rw [GX.out]; rfl, hx5⟩
    · obtain rfl : k = 3 := by omega
      have ga : goodB a = true := GOOD.out 0 a (by omega) rfl
      have gb : goodB b = true := GOOD.out 1 b (by omega) rfl
      have gc : goodB c = true := GOOD.out 2 c (by omega) rfl
      obtain ⟨d0, d1, d2, d3, d4, d5⟩ := CS.out
      replace d0 := (hx.cell (p := ⟨w.heap.size, 0, none⟩) (show w.heap.size < w1.heap.size by omega)).trans d0
      replace d1 := (hx.cell (p := ⟨w.heap.size, 1, none⟩) (show w.heap.size < w1.heap.size by omega)).trans d1
      replace d2 := (hx.cell (p := ⟨w.heap.size + 1, 0, none⟩) (show w.heap.size + 1 < w1.heap.size by omega)).trans d2
      replace d3 := (hx.cell (p := ⟨w.heap.size + 1, 1, none⟩) (show w.heap.size + 1 < w1.heap.size by omega)).trans d3
      replace d4 := (hx.cell (p := ⟨w.heap.size + 1 + 1, 0, none⟩) (show w.heap.size + 1 + 1 < w1.heap.size by omega)).trans d4
      replace d5 := (hx.cell (p := ⟨w.heap.size + 1 + 1, 1, none⟩) (show w.heap.size + 1 + 1 < w1.heap.size by omega)).trans d5
      cases hneg : c.neg with
      | true =>
        have S : Hid (signP a b c = 0) := by
          show signP a b c = 0
          simp [signP, hneg]
        have hnc : nc = true := HC.out.1.trans hneg
        subst hnc
        clear hneg
        go_wp2
        go_ret
        exact ⟨by rw [S.out]; rfl, hx2⟩
      | false =>
        have S : Hid (signP a b c = sideR a.z b.z c.z) := by
          show signP a b c = _
          rw [side_eq _ _ _ (by rw [z_pos hneg]; omega)]
          simp [signP, hneg, ga, gb, gc]
        have hnc : nc = false := HC.out.1.trans hneg
        subst hnc
        obtain ⟨v, V⟩ : ∃ v, Hid (sideR a.z b.z c.z = v) := ⟨_, Lib.hid rfl⟩
        rw [V.out] at S
        have SD := Lib.hid (fun W (h : Ext w W) => r02_sideG a b c v _ _ _ _ _ _ _ _ _ _ _ _ W (HA.out.ext h) (HB.out.ext h) (HC.out.ext h) ga gb gc V.out)
        clear hneg ga gb gc
        go_wp2_with fail
        refine (SD.out _ hx2).mono ?_
        rintro e w2 ⟨rfl, hx3⟩
        have hx5 : Ext w w2 := Ext.step hx2 hx3
        go_wp2
        go_ret
        exact ⟨by rw [S.out]; rfl, hx5⟩
end Go.Proofs.YtghgggaimijcaaaGreatDoor
