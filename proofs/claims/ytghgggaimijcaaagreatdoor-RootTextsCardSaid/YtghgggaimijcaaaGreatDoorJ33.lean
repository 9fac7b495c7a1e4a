/- Contract: etchantref01.Text. | Contract: etchantref02.Text. | The contracts of the reference on roots, with what they give as an equation. -/
import Derived.Test.YtghgggaimijcaaaGreatDoorJ32
import Derived.Test.YtghgggaimijcaaaGreatDoorJ13
import Derived.Test.YtghgggaimijcaaaGreatDoorJ26
import Derived.Test.YtghgggaimijcaaaGreatDoorJ24
import Derived.Test.YtghgggaimijcaaaGreatDoorJ31
import Derived.StillTailTactics
import Derived.Deep.DeepCutAuto
import Derived.Great.BuildSlice
import Derived.Laws.IdiomStrings
set_option linter.unusedVariables false
set_option linter.unusedSimpArgs false

namespace Go.Proofs.YtghgggaimijcaaaGreatDoor
open Go.RowKit
open Go.Lib (decDigits decDigits_length nDigits)

theorem tdiv10 (d : Nat) : Int.tdiv (d : Int) 10 = ((d / 10 : Nat) : Int) := tdiv_nat d 10
theorem tmod10 (d : Nat) : Int.tmod (d : Int) 10 = ((d % 10 : Nat) : Int) := tmod_nat d 10
attribute [local go_sem] tdiv10 tmod10

set_option maxRecDepth 100000 in
set_option maxHeartbeats 4000000 in
theorem r01_Text (a : Nm) (na : Bool) (pa : Option Addr) (la ca : Nat) (w : World) (ha : NR w na pa la ca a) :
    Calls Tryz.prog 48 #[.agg #[.bool na, .slice pa la ca]] w fun e w' => e = .returned (.string (bytesT (textL a))) ∧ Ext w w' := by
  have RA := Lib.hid (fun w' (hx : Ext w w') => r01_Right a na pa la ca w' (ha.ext hx))
  cases ra : a.right with
  | false =>
    rw [ra] at RA
    have hT : textL a = [] := by unfold textL; rw [ra]; rfl
    rw [hT]
    clear ha hT
    go_enter Tryz.func48, Tryz.ntmps48
    go_wp2_with fail
    refine (RA.out _ bxx).mono ?_
    rintro e w1 ⟨rfl, hx⟩
    have hx0 : Ext w w1 := Ext.step bxx hx
    go_wp2
    go_ret
    exact ⟨rfl, hx0⟩
  | true =>
    rw [ra] at RA
    have hneg := ha.1
    have hT : textL a = if na then 45 :: decDigits (val a.d) else decDigits (val a.d) := by unfold textL; rw [ra, hneg]; rfl
    have TA := (a.right_iff.1 ra).2.1
    have L64 := (a.right_iff.1 ra).1
    have hn0 : a.d.length = 0 → na = false := fun h => by
      rw [hneg]
      exact (a.right_iff.1 ra).2.2 (List.eq_nil_of_length_eq_zero h)
    obtain rfl : la = a.d.length := ha.2.1
    have hrow := ha.2.2
    have HT := Lib.hid hT
    have HROW := Lib.hid hrow
    have hla := hrow.le
    have hma := hrow.max
    clear hT hneg ha ra
    obtain ⟨i, hi, hz0, hz1, hz2⟩ := info_parts info32
    go_enter Tryz.func48, Tryz.ntmps48
    go_wp2_with fail
    refine (RA.out _ bxx).mono ?_
    rintro e w1 ⟨rfl, hx⟩
    have hx0 : Ext w w1 := Ext.step bxx hx
    have hz_w1 : w.heap.size + 1 ≤ w1.heap.size := Nat.le_trans omm hx.size
    obtain ⟨hl_w1_0, hk_w1_0, hf_w1_0⟩ := extK hx (w.heap.size)
    clear RA
    by_cases h0 : a.d.length = 0
    · have hna := hn0 h0
      have HT0 := Lib.hid (show textL a = [48] by rw [HT.out, hna, if_neg (by simp), List.eq_nil_of_length_eq_zero h0, val_nil, Lib.decDigits_one (by omega)]; rfl)
      have e0 : ((a.d.length : Int) == 0) = true := by rw [beq_iff_eq]; omega
      clear hrow hla hma
      go_wp2
      go_ret
      rw [HT0.out]
      exact ⟨rfl, hx0⟩
    · have hpos : 0 < a.d.length := by omega
      have e0 : ((a.d.length : Int) == 0) = false := by rw [beq_eq_false_iff_ne]; omega
      have VA := tight_pos TA hpos
      have LT := Lib.hid (Nat.lt_of_lt_of_le (val_lt hrow.dig) (Nat.pow_le_pow_right (show 0 < 4294967296 by omega) L64))
      obtain ⟨n, N⟩ : ∃ n, Hid (val a.d = n) := ⟨_, rfl⟩
      obtain ⟨b, o, rfl, hb, hc⟩ := (hrow.ext hx0).at hpos
      have Hc := Lib.hid hc
      have INV0 := Lib.hid (rinv_start VA)
      have DA := Lib.hid hrow.dig
      have HTA := Lib.hid TA
      rw [N.out] at HT INV0 LT
      clear hc hrow VA TA hn0
      obtain ⟨M, HM⟩ : ∃ m, Hid (a.d.length = m) := ⟨_, rfl⟩
      have hM : M ≤ 64 := by rw [← HM.out]; exact L64
      have hx1 := Lib.hid hx0
      go_wp2_with (at_builtin; refine wpList_append_own _ rfl _ _ 23 rfl w1.heap.size 79 i (.int .u32 0) 1 4 Tryz.underlying23 hi hz0 hz1 hz2 rfl (by decide) _ _ _ rfl (World.ownsRow_made w1 #[] 0 (Nat.le_refl _) (by decide) rfl) ⟨b, o, none⟩ a.d.length ca (enc a.d) rfl (by simp [enc]) ?c2 (enc_one a.d) ?c3 ?c4 ?c5 ?_)
      case c2 => exact row_news (fun i hi => (cell_later ((Below.refl _ _).alloc (Nat.le_refl _) _) (Hc.out i hi)))
      case c3 => unfold maxLen; omega
      case c4 => omega
      case c5 => simp
      intro v' w2 hown hgr _
      have hown2 : w2.ownsRow w1.heap.size 79 1 v' a.d.length (enc a.d) := by simpa using hown
      have hx2 : Ext w1 w2 := ((Below.refl _ _).alloc (Nat.le_refl _) _).grown hgr (by simp) (fun k hk => by simp [Value.ownBlock] at hk; omega)
      obtain ⟨g, cg, rfl, hBg, hcg1, hcg2⟩ : ∃ g cg, v' = .slice (some ⟨g, 0, none⟩) a.d.length cg ∧ w1.heap.size ≤ g ∧ a.d.length ≤ cg ∧ cg ≤ 9223372036854775807 := by
        rcases hown2.2 with ⟨_, h⟩ | ⟨g, cap, cur, h1, h2, h3, h4, h5, _⟩
        · omega
        · exact ⟨g, cap, h1, h2, h4, by unfold maxLen at h5; omega⟩
      rw [HM.out] at hown2 hcg1
      have OWN0 := Lib.hid (show w2.ownsRow w1.heap.size 79 1 (.slice (some ⟨g, 0, none⟩) M cg) M (enc (a.d ++ [])) by rw [List.append_nil]; exact hown2)
      have HX2 := Lib.hid hx2
      clear hown hown2 hgr hx2 Hc hb
      go_wp2_with fail
      go_loopw [3, 4] (fun d s wr => ∃ (dd z : List Nat) (out : List UInt8), d = .slice (some ⟨g, 0, none⟩) dd.length cg ∧ s = .string (bytesT out) ∧ wr.ownsRow w1.heap.size 79 1 (.slice (some ⟨g, 0, none⟩) M cg) M (enc (dd ++ z)) ∧ Dig dd ∧ Tight dd ∧ dd.length ≤ M ∧ RInv n (val dd) out ∧ out.length ≤ 2048 ∧ Ext w1 wr) (fun _ s _ => (decDigits n).length - strLen s)
      case atStart => exact ⟨a.d, [], [], rfl, rfl, OWN0.out, DA.out, HTA.out, Nat.le_of_eq HM.out, by rw [N.out]; exact INV0.out, Nat.zero_le _, HX2.out⟩
      case round =>
        clear OWN0 INV0 DA HTA
        obtain ⟨dd, z, out, rfl, rfl, hown, hdig, htight, hlen, hinv, hol0, hxr⟩ := hrel
        by_cases hd0 : dd.length = 0
        · -- all is printed
          obtain rfl : dd = [] := List.eq_nil_of_length_eq_zero hd0
          have HE := Lib.hid (rinv_end hinv)
          have hx3 : Ext w wr := Ext.step hx1.out hxr
          have hz_wr : w.heap.size + 1 ≤ wr.heap.size := Nat.le_trans omm hxr.size
          obtain ⟨hl_wr_0, hk_wr_0, hf_wr_0⟩ := extK hxr (w.heap.size)
          have SZ : (bytesT out).size ≤ 100000 := by rw [bytesT_size]; omega
          obtain ⟨sO, SO⟩ : ∃ s, Hid (bytesT out = s) := ⟨_, rfl⟩
          rw [SO.out] at SZ ⊢
          clear hown hinv hdig htight
          cases na with
          | false =>
            go_wp2
            go_ret
            rw [show textL a = decDigits n by rw [HT.out]; simp, ← HE.out, ← SO.out]
            exact ⟨rfl, hx3⟩
          | true =>
            go_wp2
            go_ret
            rw [show textL a = 45 :: decDigits n by rw [HT.out]; simp, ← HE.out]
            refine ⟨?_, hx3⟩
            rw [← SO.out]
            exact congrArg (fun s => Ending.returned (.string s)) (bytesT_add [45] out)
        · have hdp : 0 < dd.length := by omega
          have VP := tight_pos htight hdp
          have RM := rinv_room hinv VP LT.out
          have LS := Lib.hid (rinv_less hinv VP)
          have STEP := Lib.hid (rinv_step hinv VP)
          have DD := Lib.hid hdig
          have OWN := Lib.hid hown
          have HXR := Lib.hid hxr
          clear hinv hdig htight hown hxr VP
          go_wp2_with fail
          go_loopw [5, 6] (fun rs is wr2 => ∃ (k s : Nat) (o' : List Nat), ShortInv dd 10 k o' s ∧ is = .int .i64 ((k : Int) - 1) ∧ rs = .int .u64 (s : Int) ∧ wr2.ownsRow w1.heap.size 79 1 (.slice (some ⟨g, 0, none⟩) M cg) M (enc (dd.take k ++ (o' ++ z))) ∧ Ext w1 wr2) (fun _ is _ => (intOf is + 1).toNat)
          case atStart => exact ⟨dd.length, 0, [], ⟨Dig.nil, by simp, by omega, by rw [List.drop_eq_nil_of_le (Nat.le_refl _)]; simp [val]⟩, rfl, rfl, by rw [List.take_of_length_le (Nat.le_refl _)]; exact OWN.out, HXR.out⟩
          case round =>
            rename World => w7
            clear OWN HXR
            obtain ⟨k, s, o', hinv, rfl, rfl, hown, hx2⟩ := hrel
            have INV := Lib.hid hinv
            have hk := hinv.2.1
            have hs := hinv.2.2.1
            clear hinv
            cases k with
            | zero =>
              have e : (((0 : Nat) : Int) - 1) = -1 := by omega
              rw [e]
              clear e
              have hv : val o' * 10 + s = val dd := by
                have := INV.out.2.2.2
                rw [List.drop_zero] at this
                exact this.symm
              have hq : val o' = val dd / 10 := by omega
              have hr : s = val dd % 10 := by omega
              rw [List.take_zero, List.nil_append] at hown
              have hol : o'.length = dd.length := by have := INV.out.2.1; omega
              have hrow := own_part (pre := []) (part := o') (cap := cg) hown INV.out.1 (by omega) hcg2
              have TR := Lib.hid (r01_trim o' (some ⟨g, 0, none⟩) dd.length cg w7 hrow hol.symm)
              obtain ⟨r, HR⟩ := trim_pre o'.length o' rfl INV.out.1
              have hTL : (trim o').length ≤ o'.length := by rw [HR, List.length_append, ← HR]; omega
              have OWN := Lib.hid (show w7.ownsRow w1.heap.size 79 1 (.slice (some ⟨g, 0, none⟩) M cg) M (enc (trim o' ++ (r ++ z))) by rw [← List.append_assoc, ← HR]; exact hown)
              have HX := Lib.hid hx2
              have DT := Lib.hid (show Dig (trim o') from dig_digs _)
              have ST := STEP.out
              rw [← hr, ← hq] at ST
              have VT := Lib.hid (val_trim o')
              rw [← VT.out] at ST
              have STP := Lib.hid ST
              obtain ⟨cd, CD⟩ : ∃ cd : Nat, 48 + s = cd := ⟨_, rfl⟩
              have hcd : cd < 58 := by omega
              have CB := conv_one (UInt8.ofNat (48 + s)) cd (by rw [CD]; simp; omega)
              rw [CD] at CB STP
              have e1 : (48 : Int) + (s : Int) = (cd : Int) := by omega
              have e2 : IntKind.u8.wrap (cd : Int) = (cd : Int) := IntWalk.u8_in _ (by omega)
              have e3 : IntKind.u64.wrap (cd : Int) = (cd : Int) := by rw [u64w]; omega
              have SZ0 : (bytesT out).size ≤ 100000 := by rw [bytesT_size]; omega
              have SZ1 : (bytesT [UInt8.ofNat cd]).size = 1 := bytesT_size _
              have WX := Lib.hid (show bytesT [UInt8.ofNat cd] ++ bytesT out = bytesT (UInt8.ofNat cd :: out) from bytesT_add [_] out)
              have BS := Lib.hid (bytesT_size out)
              obtain ⟨sO, SO⟩ : ∃ s, Hid (bytesT out = s) := ⟨_, rfl⟩
              obtain ⟨sD, SD⟩ : ∃ s, Hid (bytesT [UInt8.ofNat cd] = s) := ⟨_, rfl⟩
              rw [SO.out] at SZ0 WX BS ⊢
              rw [SD.out] at CB SZ1 WX
              have hTL2 : (trim o').length ≤ dd.length := by omega
              clear CD INV hown hv hq hr hrow hx2 STEP ST HR hTL hol
              go_wp2_with fail
              refine TR.out.mono ?_
              rintro e w6 ⟨rfl, hr6, hx6⟩
              have hx7 : Ext w1 w6 := Ext.step HX.out hx6
              have OWN6 := Lib.hid (ownsRow_extT OWN.out hx6)
              clear hr6 hx6 OWN HX
              go_wp2
              have hls := LS.out
              refine ⟨⟨trim o', r ++ z, UInt8.ofNat cd :: out, rfl, by rw [WX.out], ownsRow_extT OWN6.out bxx, DT.out, tight_digs _, by omega, STP.out, by rw [List.length_cons]; omega, hx7.alloc hx7.size _⟩, ?_⟩
              rw [WX.out]
              show _ - (bytesT _).size < _ - (bytesT _).size
              rw [bytesT_size, bytesT_size, List.length_cons]
              omega
            | succ j =>
              have e : (((j + 1 : Nat) : Int) - 1) = (j : Int) := by omega
              rw [e]
              clear e
              have hj : j < dd.length := by omega
              obtain ⟨SSTEP, hq⟩ := short_step (b := 10) DD.out (by omega) hj INV.out
              rw [take_snoc hj] at hown
              have hxd := DD.out.getD j
              rw [List.getD_eq_getElem?_getD] at hxd
              obtain ⟨x, X⟩ : ∃ x, Hid (dd[j]?.getD 0 = x) := ⟨_, rfl⟩
              rw [X.out] at SSTEP hq hxd hown
              rw [List.append_assoc, List.singleton_append] at hown
              have hlj : j = ([] : List Nat).length + (dd.take j).length := by rw [List.length_take]; simp; omega
              have hown' : w7.ownsRow w1.heap.size 79 1 (.slice (some ⟨g, 0, none⟩) M cg) M (enc ([] ++ (dd.take j ++ x :: (o' ++ z)))) := hown
              have hcx := own_at (i := j) hown' hlj
              have hfx := hown.frozenAt j
              obtain ⟨m, MM⟩ : ∃ m, Hid (s * 4294967296 + x = m) := ⟨_, rfl⟩
              rw [MM.out] at SSTEP hq
              have hm : m < 18446744073709551616 := by have := MM.out; omega
              have M0 : IntKind.u64.wrap ((s : Int) * 4294967296) = (s : Int) * 4294967296 := by rw [u64w]; omega
              have M1 : (s : Int) * 4294967296 + (x : Int) = (m : Int) := by have := MM.out; omega
              have M2 : IntKind.u64.wrap (m : Int) = (m : Int) := by rw [u64w]; omega
              obtain ⟨q, Q⟩ : ∃ q, Hid (m / 10 = q) := ⟨_, rfl⟩
              obtain ⟨r, R⟩ : ∃ r, Hid (m % 10 = r) := ⟨_, rfl⟩
              have DV : (m : Int) / 10 = (q : Int) := by have := Q.out; omega
              have MD : (m : Int) % 10 = (r : Int) := by have := R.out; omega
              rw [Q.out] at SSTEP hq
              rw [R.out] at SSTEP
              have hown3 := own_put (i := j) hown' hlj q
              have OWN3 := Lib.hid (show (w7.setCell ⟨g, j, none⟩ (.int .u32 (q : Int))).ownsRow w1.heap.size 79 1 (.slice (some ⟨g, 0, none⟩) M cg) M (enc (dd.take j ++ ((q :: o') ++ z))) by rw [List.nil_append, List.append_assoc] at hown3; exact hown3)
              have X3 := Lib.hid (Below.setCell hx2 hBg (.int .u32 (q : Int)) : Ext w1 (w7.setCell ⟨g, j, none⟩ (.int .u32 (q : Int))))
              have SS := Lib.hid SSTEP
              have hI1 : (j : Int) < (dd.length : Int) := by omega
              clear hown hown' hown3 SSTEP INV STEP hx2 hlj
              go_wp2
              exact ⟨⟨j, r, q :: o', SS.out, rfl, rfl, OWN3.out, X3.out⟩, by simp [intOf]⟩
end Go.Proofs.YtghgggaimijcaaaGreatDoor

namespace Go.Proofs.YtghgggaimijcaaaGreatDoor
open Go.RowKit
attribute [local go_sem] Gives givesU

theorem r01_TextE (a : Nm) (t : ByteArray) (na : Bool) (pa : Option Addr) (la ca : Nat) (w : World) (ha : NR w na pa la ca a) (hl : a.d.length ≤ 8) (h : bytesT (textL a) = t) :
    Calls Tryz.prog 48 #[.agg #[.bool na, .slice pa la ca]] w fun e w' => e = .returned (.string t) ∧ Ext w w' := h ▸ r01_Text a na pa la ca w ha
theorem r01_CmpE (a b : Nm) (v : Int) (na nb : Bool) (pa pb : Option Addr) (la ca lb cb : Nat) (w : World) (ha : NR w na pa la ca a) (hb : NR w nb pb lb cb b) (h : cmpP a b = v) :
    Calls Tryz.prog 38 #[.agg #[.bool na, .slice pa la ca], .agg #[.bool nb, .slice pb lb cb]] w fun e w' => e = .returned (.int .i64 v) ∧ Ext w w' := by
  subst h
  exact r01_Cmp a b _ _ _ _ _ _ _ _ _ ha hb
set_option maxRecDepth 100000 in
set_option maxHeartbeats 4000000 in
theorem r02_Text (add s : Int) (x y : Nm) (n m : Bool) (p q : Option Addr) (l c k d : Nat) (w : World) (hn : NR w n p l c x) (hd : NR w m q k d y)
    (i1 : -9223372036854775808 ≤ add ∧ add ≤ 9223372036854775807) :
    Calls Tryz.prog 18 #[.agg #[.int .i64 add, .int .i64 s, .bool n, .slice p l c, .bool m, .slice q k d]] w fun e w' => e = .returned (.string (bytesT (textR ⟨add, s, x, y⟩))) ∧ Ext w w' := by
  have X := Lib.hid hn
  have Y := Lib.hid hd
  have I1 := Lib.hid i1
  obtain ⟨b, B⟩ : ∃ b, Hid (Rt.right ⟨add, s, x, y⟩ = b) := ⟨_, Lib.hid rfl⟩
  have RES : Hid (textR ⟨add, s, x, y⟩ = if b then textI add ++ (textS ⟨add, s, x, y⟩ ++ textD y) else []) := Lib.hid (by unfold textR; rw [B.out])
  have OK : Hid (b = true → (Rt.mk add s x y).Ok) := Lib.hid (fun h => (right_ok (a := ⟨add, s, x, y⟩) hn.2.2.dig hd.2.2.dig (B.out.trans h)).1)
  have DG : Hid (Dig x.d ∧ Dig y.d) := Lib.hid ⟨hn.2.2.dig, hd.2.2.dig⟩
  clear hn hd i1
  go_enter Tryz.func18, Tryz.ntmps18
  go_upto_region 1 with (fail)
  refine wp_know (fun W => Ext w W ∧ RB W w.heap.size add s n p l c m q k d) ?_ ?_
  · exact ⟨bxx, RB.heap (heap_new rfl)⟩
  rintro W0 ⟨ex, rb⟩
  obtain ⟨e0, e1, e2, ⟨e3, e4⟩, ⟨e5, e6⟩, ef⟩ := id rb
  go_wp2_with fail
  refine (r02_RightB add s x y b _ _ _ _ _ _ _ _ W0 (X.out.ext ex) (Y.out.ext ex) B.out).mono ?_
  rintro e W1 ⟨rfl, hx⟩
  replace rb := rb.ext hx
  replace ex := Ext.step ex hx
  clear e0 e1 e2 e3 e4 e5 e6 ef hx

  cases b with
  | false =>
    go_wp2
    go_ret
    exact ⟨by rw [RES.out]; rfl, ex⟩
  | true =>
  obtain ⟨e0, e1, e2, ⟨e3, e4⟩, ⟨e5, e6⟩, ef⟩ := id rb
  have ok := OK.out rfl
  have sl := ok.sl
  have su := ok.su
  obtain ⟨sA, SA⟩ : ∃ t, Hid (bytesT (textI add) = t) := ⟨_, Lib.hid rfl⟩
  obtain ⟨sN, SN⟩ : ∃ t, Hid (bytesT (textL x) = t) := ⟨_, Lib.hid rfl⟩
  obtain ⟨sD, SD⟩ : ∃ t, Hid (bytesT (textL y) = t) := ⟨_, Lib.hid rfl⟩
  have zA : Hid (sA.size ≤ 21) := Lib.hid (by rw [← SA.out, bytesT_size]; exact textI_len I1.out)
  have zN : Hid (sN.size ≤ 80) := Lib.hid (by rw [← SN.out, bytesT_size]; exact textL_len DG.out.1 ok.nl)
  have zD : Hid (sD.size ≤ 80) := Lib.hid (by rw [← SD.out, bytesT_size]; exact textL_len DG.out.2 ok.dl)
  have YR := Lib.hid ok.dr
  have XL := Lib.hid ok.nl
  have YL := Lib.hid ok.dl
  have AL : Hid ((ofZ add).d.length ≤ 8) := Lib.hid (by
    simp only [ofZ]
    refine (digs_length_le _ _).2 ?_
    have : (9223372036854775809 : Nat) < 4294967296 ^ 8 := by decide +kernel
    have := I1.out
    omega)
  have AT : Hid (bytesT (textL (ofZ add)) = bytesT (textI add)) := Lib.hid (by rw [textL_int I1.out])
  have Y1 : Hid (s = 0 → y.z = 1) := Lib.hid (fun h => by rw [z_pos ok.dn, (ok.n0 h).2]; rfl)
  clear ok OK
  go_wp2_with fail
  refine (r01_Of add _ I1.out.1 I1.out.2).mono ?_
  rintro e Wa ⟨na, pa, la, ca, rfl, nra, _, hxa⟩
  replace rb := rb.ext hxa
  replace ex := Ext.step ex hxa
  go_wp2_with fail
  refine (r01_TextE (ofZ add) sA _ _ _ _ _ nra AL.out (AT.out.trans SA.out)).mono ?_
  rintro e W2 ⟨rfl, hx⟩
  clear nra hxa
  replace rb := rb.ext hx
  replace ex := Ext.step ex hx
  clear e0 e1 e2 e3 e4 e5 e6 ef hx
  obtain ⟨e0, e1, e2, ⟨e3, e4⟩, ⟨e5, e6⟩, ef⟩ := id rb
  obtain ⟨sB, SB⟩ : ∃ t, Hid (bytesT (textI add ++ textS ⟨add, s, x, y⟩) = t) := ⟨_, Lib.hid rfl⟩
  have zB : Hid (sB.size ≤ 200) := Lib.hid (by
    have := zN.out; have := zA.out
    rw [← SN.out, bytesT_size] at *; rw [← SA.out, bytesT_size] at *
    rw [← SB.out, bytesT_size, List.length_append]
    have h : (textS ⟨add, s, x, y⟩).length ≤ 2 + (textL x).length := by
      unfold textS
      split
      · simp; omega
      · split
        · simp; omega
        · simp
    omega)
  have CM := Lib.hid (fun W (h : Ext w W) n2 p2 l2 c2 (h2 : NR W n2 p2 l2 c2 (ofZ 1)) (v : Int) (hv : cmpP y (ofZ 1) = v) => r01_CmpE y (ofZ 1) v m n2 q p2 k d l2 c2 W (Y.out.ext h) h2 hv)
  obtain ⟨v, V⟩ : ∃ v, Hid (cmpP y (ofZ 1) = v) := ⟨_, Lib.hid rfl⟩
  have VZ : Hid (v = 0 ↔ y.z = 1) := Lib.hid (by
    rw [← V.out]
    unfold cmpP cmpZ
    rw [YR.out, one_right, ofZ_z]
    simp only [Bool.and_self, if_true]
    (repeat' split) <;> omega)
  have hs : s = 1 ∨ s = -1 ∨ s = 0 := by omega
  clear sl su
  rcases hs with rfl | rfl | rfl
  · obtain ⟨s1, S1⟩ : ∃ t, sA ++ (⟨#[43, 114]⟩ : ByteArray) = t := ⟨_, rfl⟩
    have S2 : s1 ++ sN = sB := by
      rw [← S1, ← SA.out, ← SN.out, ← SB.out, show (⟨#[43, 114]⟩ : ByteArray) = bytesT [43, 114] from rfl, bytesT_add, bytesT_add, List.append_assoc]
      rfl
    have z1 : s1.size ≤ 23 := by
      rw [← S1, ByteArray.size_append]
      have := zA.out
      have e : (⟨#[43, 114]⟩ : ByteArray).size = 2 := rfl
      omega
    have hA : ¬ 9223372036854775807 < sA.size + 2 := by have := zA.out; omega
    have hC : ¬ 9223372036854775807 < sA.size + (⟨#[43, 114]⟩ : ByteArray).size := by rw [show (⟨#[43, 114]⟩ : ByteArray).size = 2 from rfl]; exact hA
    have hD : ¬ 9223372036854775807 < s1.size + sN.size := by have := zN.out; omega
    clear z1
    go_wp2_with fail
    refine (r01_TextE x sN _ _ _ _ _ (X.out.ext (Ext.step ex bxx)) XL.out SN.out).mono ?_
    rintro e W3 ⟨rfl, hx⟩
    replace rb := rb.ext hx
    replace ex := Ext.step ex hx
    clear e0 e1 e2 e3 e4 e5 e6 ef hx
    go_upto_region 11 with (fail)
    obtain ⟨e0, e1, e2, ⟨e3, e4⟩, ⟨e5, e6⟩, ef⟩ := id rb
    clear ef
    by_cases hv : v = 0
    · have hvb : (v != 0) = false := by simpa using hv
      have hva : (v == 0) = true := by simpa using hv
      have TD : Hid (textD y = []) := Lib.hid (by unfold textD; rw [if_pos (VZ.out.1 hv)])
      clear hv
      refine wp_KB (W3.heap.size) (fun W => Ext W3 W ∧ W3.heap.size ≤ W.heap.size ∧ W.cell? ⟨w.heap.size, 4, none⟩ = some (.bool m) ∧ W.cell? ⟨w.heap.size, 5, none⟩ = some (.slice q k d)) ?_
      intro hKeep
      repeat (first | refine F_s ?_ | refine F_r ?_)
      refine F_num W3 (ofZ 1) (by rfl) (by rfl) (by intro W hW; (try dsimp only at hW); have hwW : W3.heap.size ≤ W.heap.size := (by have hzz := hW; (repeat (first | exact hzz.size | exact hzz.1.size | replace hzz := hzz.1))); go_simp; exact (r01_Of 1 _ (by decide) (by decide)).mono fun _ _ h => RetN.isN hwW h) ?_; intro n1 p1 l1 c1 hn1; refine F_put ?_
      repeat (first | refine F_s ?_ | refine F_r ?_)
      (refine F_call (v := .int .i64 v) (by rfl) (by rfl) ?_ ?_; (· (intro W hW; (try dsimp only at hW); go_simp; refine (CM.out W (Ext.step ex hW.1.1) _ _ _ _ hW.2 v V.out).mono ?_; rintro e w' ⟨rfl, hx⟩; exact ⟨_, rfl, rfl, hx⟩))); refine F_put ?_
      repeat (first | refine F_s ?_ | refine F_r ?_)
      rintro W4 ⟨hS, _⟩
      have ex4 := Ext.step ex hS.1
      clear hS
      go_wp2
      go_ret
      exact ⟨by rw [show bytesT (textR _) = sB from (congrArg bytesT (by rw [RES.out, TD.out, List.append_nil]; rfl)).trans SB.out]; rfl, ex4⟩
    · have hvb : (v != 0) = true := by simpa using hv
      have hva : (v == 0) = false := by simpa using hv
      have TD : Hid (textD y = 47 :: textL y) := Lib.hid (by unfold textD; rw [if_neg (fun g => hv (VZ.out.2 g))])
      clear hv
      refine wp_KB (W3.heap.size) (fun W => Ext W3 W ∧ W3.heap.size ≤ W.heap.size ∧ W.cell? ⟨w.heap.size, 4, none⟩ = some (.bool m) ∧ W.cell? ⟨w.heap.size, 5, none⟩ = some (.slice q k d)) ?_
      intro hKeep
      repeat (first | refine F_s ?_ | refine F_r ?_)
      refine F_num W3 (ofZ 1) (by rfl) (by rfl) (by intro W hW; (try dsimp only at hW); have hwW : W3.heap.size ≤ W.heap.size := (by have hzz := hW; (repeat (first | exact hzz.size | exact hzz.1.size | replace hzz := hzz.1))); go_simp; exact (r01_Of 1 _ (by decide) (by decide)).mono fun _ _ h => RetN.isN hwW h) ?_; intro n1 p1 l1 c1 hn1; refine F_put ?_
      repeat (first | refine F_s ?_ | refine F_r ?_)
      (refine F_call (v := .int .i64 v) (by rfl) (by rfl) ?_ ?_; (· (intro W hW; (try dsimp only at hW); go_simp; refine (CM.out W (Ext.step ex hW.1.1) _ _ _ _ hW.2 v V.out).mono ?_; rintro e w' ⟨rfl, hx⟩; exact ⟨_, rfl, rfl, hx⟩))); refine F_put ?_
      repeat (first | refine F_s ?_ | refine F_r ?_)
      rintro W4 ⟨hS, _⟩
      have ex4 := Ext.step ex hS.1
      replace rb := rb.ext hS.1
      clear hS e0 e1 e2 e3 e4 e5 e6 hKeep hn1
      obtain ⟨e0, e1, e2, ⟨e3, e4⟩, ⟨e5, e6⟩, ef⟩ := id rb
      obtain ⟨s3, S3⟩ : ∃ t, sB ++ (⟨#[47]⟩ : ByteArray) = t := ⟨_, rfl⟩
      obtain ⟨s4, S4⟩ : ∃ t, s3 ++ sD = t := ⟨_, rfl⟩
      have SE : Hid (s4 = bytesT (textI add ++ (textS ⟨add, _, x, y⟩ ++ textD y))) := Lib.hid (by
        rw [← S4, ← S3, ← SB.out, ← SD.out, TD.out, show (⟨#[47]⟩ : ByteArray) = bytesT [47] from rfl, bytesT_add, bytesT_add, List.append_assoc, List.append_assoc]
        rfl)
      have z3 : s3.size ≤ 201 := by
        rw [← S3, ByteArray.size_append]
        have := zB.out
        have e : (⟨#[47]⟩ : ByteArray).size = 1 := rfl
        omega
      have hE : ¬ 9223372036854775807 < sB.size + 1 := by have := zB.out; omega
      have hF : ¬ 9223372036854775807 < sB.size + (⟨#[47]⟩ : ByteArray).size := by rw [show (⟨#[47]⟩ : ByteArray).size = 1 from rfl]; exact hE
      have hG : ¬ 9223372036854775807 < s3.size + sD.size := by have := zD.out; omega
      clear z3
      go_wp2_with fail
      refine (r01_TextE y sD _ _ _ _ _ (Y.out.ext (Ext.step ex4 bxx)) YL.out SD.out).mono ?_
      rintro e W5 ⟨rfl, hx⟩
      have ex5 := Ext.step ex4 hx
      clear e0 e1 e2 e3 e4 e5 e6 ef hx
      go_wp2
      go_ret
      exact ⟨by rw [show bytesT (textR _) = s4 from (congrArg bytesT (by rw [RES.out]; rfl)).trans SE.out.symm]; rfl, ex5⟩
  · obtain ⟨s1, S1⟩ : ∃ t, sA ++ (⟨#[45, 114]⟩ : ByteArray) = t := ⟨_, rfl⟩
    have S2 : s1 ++ sN = sB := by
      rw [← S1, ← SA.out, ← SN.out, ← SB.out, show (⟨#[45, 114]⟩ : ByteArray) = bytesT [45, 114] from rfl, bytesT_add, bytesT_add, List.append_assoc]
      rfl
    have z1 : s1.size ≤ 23 := by
      rw [← S1, ByteArray.size_append]
      have := zA.out
      have e : (⟨#[45, 114]⟩ : ByteArray).size = 2 := rfl
      omega
    have hA : ¬ 9223372036854775807 < sA.size + 2 := by have := zA.out; omega
    have hC : ¬ 9223372036854775807 < sA.size + (⟨#[45, 114]⟩ : ByteArray).size := by rw [show (⟨#[45, 114]⟩ : ByteArray).size = 2 from rfl]; exact hA
    have hD : ¬ 9223372036854775807 < s1.size + sN.size := by have := zN.out; omega
    clear z1
    go_wp2_with fail
    refine (r01_TextE x sN _ _ _ _ _ (X.out.ext (Ext.step ex bxx)) XL.out SN.out).mono ?_
    rintro e W3 ⟨rfl, hx⟩
    replace rb := rb.ext hx
    replace ex := Ext.step ex hx
    clear e0 e1 e2 e3 e4 e5 e6 ef hx
    go_upto_region 11 with (fail)
    obtain ⟨e0, e1, e2, ⟨e3, e4⟩, ⟨e5, e6⟩, ef⟩ := id rb
    clear ef
    by_cases hv : v = 0
    · have hvb : (v != 0) = false := by simpa using hv
      have hva : (v == 0) = true := by simpa using hv
      have TD : Hid (textD y = []) := Lib.hid (by unfold textD; rw [if_pos (VZ.out.1 hv)])
      clear hv
      refine wp_KB (W3.heap.size) (fun W => Ext W3 W ∧ W3.heap.size ≤ W.heap.size ∧ W.cell? ⟨w.heap.size, 4, none⟩ = some (.bool m) ∧ W.cell? ⟨w.heap.size, 5, none⟩ = some (.slice q k d)) ?_
      intro hKeep
      repeat (first | refine F_s ?_ | refine F_r ?_)
      refine F_num W3 (ofZ 1) (by rfl) (by rfl) (by intro W hW; (try dsimp only at hW); have hwW : W3.heap.size ≤ W.heap.size := (by have hzz := hW; (repeat (first | exact hzz.size | exact hzz.1.size | replace hzz := hzz.1))); go_simp; exact (r01_Of 1 _ (by decide) (by decide)).mono fun _ _ h => RetN.isN hwW h) ?_; intro n1 p1 l1 c1 hn1; refine F_put ?_
      repeat (first | refine F_s ?_ | refine F_r ?_)
      (refine F_call (v := .int .i64 v) (by rfl) (by rfl) ?_ ?_; (· (intro W hW; (try dsimp only at hW); go_simp; refine (CM.out W (Ext.step ex hW.1.1) _ _ _ _ hW.2 v V.out).mono ?_; rintro e w' ⟨rfl, hx⟩; exact ⟨_, rfl, rfl, hx⟩))); refine F_put ?_
      repeat (first | refine F_s ?_ | refine F_r ?_)
      rintro W4 ⟨hS, _⟩
      have ex4 := Ext.step ex hS.1
      clear hS
      go_wp2
      go_ret
      exact ⟨by rw [show bytesT (textR _) = sB from (congrArg bytesT (by rw [RES.out, TD.out, List.append_nil]; rfl)).trans SB.out]; rfl, ex4⟩
    · have hvb : (v != 0) = true := by simpa using hv
      have hva : (v == 0) = false := by simpa using hv
      have TD : Hid (textD y = 47 :: textL y) := Lib.hid (by unfold textD; rw [if_neg (fun g => hv (VZ.out.2 g))])
      clear hv
      refine wp_KB (W3.heap.size) (fun W => Ext W3 W ∧ W3.heap.size ≤ W.heap.size ∧ W.cell? ⟨w.heap.size, 4, none⟩ = some (.bool m) ∧ W.cell? ⟨w.heap.size, 5, none⟩ = some (.slice q k d)) ?_
      intro hKeep
      repeat (first | refine F_s ?_ | refine F_r ?_)
      refine F_num W3 (ofZ 1) (by rfl) (by rfl) (by intro W hW; (try dsimp only at hW); have hwW : W3.heap.size ≤ W.heap.size := (by have hzz := hW; (repeat (first | exact hzz.size | exact hzz.1.size | replace hzz := hzz.1))); go_simp; exact (r01_Of 1 _ (by decide) (by decide)).mono fun _ _ h => RetN.isN hwW h) ?_; intro n1 p1 l1 c1 hn1; refine F_put ?_
      repeat (first | refine F_s ?_ | refine F_r ?_)
      (refine F_call (v := .int .i64 v) (by rfl) (by rfl) ?_ ?_; (· (intro W hW; (try dsimp only at hW); go_simp; refine (CM.out W (Ext.step ex hW.1.1) _ _ _ _ hW.2 v V.out).mono ?_; rintro e w' ⟨rfl, hx⟩; exact ⟨_, rfl, rfl, hx⟩))); refine F_put ?_
      repeat (first | refine F_s ?_ | refine F_r ?_)
      rintro W4 ⟨hS, _⟩
      have ex4 := Ext.step ex hS.1
      replace rb := rb.ext hS.1
      clear hS e0 e1 e2 e3 e4 e5 e6 hKeep hn1
      obtain ⟨e0, e1, e2, ⟨e3, e4⟩, ⟨e5, e6⟩, ef⟩ := id rb
      obtain ⟨s3, S3⟩ : ∃ t, sB ++ (⟨#[47]⟩ : ByteArray) = t := ⟨_, rfl⟩
      obtain ⟨s4, S4⟩ : ∃ t, s3 ++ sD = t := ⟨_, rfl⟩
      have SE : Hid (s4 = bytesT (textI add ++ (textS ⟨add, _, x, y⟩ ++ textD y))) := Lib.hid (by
        rw [← S4, ← S3, ← SB.out, ← SD.out, TD.out, show (⟨#[47]⟩ : ByteArray) = bytesT [47] from rfl, bytesT_add, bytesT_add, List.append_assoc, List.append_assoc]
        rfl)
      have z3 : s3.size ≤ 201 := by
        rw [← S3, ByteArray.size_append]
        have := zB.out
        have e : (⟨#[47]⟩ : ByteArray).size = 1 := rfl
        omega
      have hE : ¬ 9223372036854775807 < sB.size + 1 := by have := zB.out; omega
      have hF : ¬ 9223372036854775807 < sB.size + (⟨#[47]⟩ : ByteArray).size := by rw [show (⟨#[47]⟩ : ByteArray).size = 1 from rfl]; exact hE
      have hG : ¬ 9223372036854775807 < s3.size + sD.size := by have := zD.out; omega
      clear z3
      go_wp2_with fail
      refine (r01_TextE y sD _ _ _ _ _ (Y.out.ext (Ext.step ex4 bxx)) YL.out SD.out).mono ?_
      rintro e W5 ⟨rfl, hx⟩
      have ex5 := Ext.step ex4 hx
      clear e0 e1 e2 e3 e4 e5 e6 ef hx
      go_wp2
      go_ret
      exact ⟨by rw [show bytesT (textR _) = s4 from (congrArg bytesT (by rw [RES.out]; rfl)).trans SE.out.symm]; rfl, ex5⟩
  · obtain rfl : sB = sA := by
      rw [← SA.out, ← SB.out]
      show bytesT (textI add ++ []) = _
      rw [List.append_nil]
    clear SN
    have TD : Hid (textD y = []) := Lib.hid (by unfold textD; rw [if_pos (Y1.out rfl)])
    go_wp2
    go_ret
    exact ⟨by rw [show bytesT (textR _) = sB from (congrArg bytesT (by rw [RES.out, TD.out, List.append_nil]; rfl)).trans SB.out]; rfl, ex⟩
end Go.Proofs.YtghgggaimijcaaaGreatDoor

namespace Go.Proofs.YtghgggaimijcaaaGreatDoor
open Go.RowKit

theorem r02_TextE (add s : Int) (x y : Nm) (t : ByteArray) (n m : Bool) (p q : Option Addr) (l c k d : Nat) (w : World) (hn : NR w n p l c x) (hd : NR w m q k d y) (i1 : -9223372036854775808 ≤ add ∧ add ≤ 9223372036854775807) (h : bytesT (textR ⟨add, s, x, y⟩) = t) :
    Calls Tryz.prog 18 #[.agg #[.int .i64 add, .int .i64 s, .bool n, .slice p l c, .bool m, .slice q k d]] w fun e w' => e = .returned (.string t) ∧ Ext w w' := by
  subst h
  exact r02_Text add s x y n m p q l c k d w hn hd i1
theorem r02_SignE (a b c : Nm) (v : Int) (na nb nc : Bool) (pa pb pc : Option Addr) (la ca lb cb lc cc : Nat) (w : World) (ha : NR w na pa la ca a) (hb : NR w nb pb lb cb b) (hc : NR w nc pc lc cc c) (h : signP a b c = v) :
    Calls Tryz.prog 20 #[.agg #[.bool na, .slice pa la ca], .agg #[.bool nb, .slice pb lb cb], .agg #[.bool nc, .slice pc lc cc]] w fun e w' => e = .returned (.int .i64 v) ∧ Ext w w' := by
  subst h
  exact r02_Sign a b c _ _ _ _ _ _ _ _ _ _ _ _ w ha hb hc
theorem r02_CmpE (add s add2 s2 : Int) (x y x2 y2 : Nm) (v : Int) (n m : Bool) (p q : Option Addr) (l c k d : Nat) (n2 m2 : Bool) (p2 q2 : Option Addr) (l2 c2 k2 d2 : Nat) (w : World)
    (hn : NR w n p l c x) (hd : NR w m q k d y) (hn2 : NR w n2 p2 l2 c2 x2) (hd2 : NR w m2 q2 k2 d2 y2) (i1 : -9223372036854775808 ≤ add ∧ add ≤ 9223372036854775807) (i2 : -9223372036854775808 ≤ add2 ∧ add2 ≤ 9223372036854775807) (h : cmpRt ⟨add, s, x, y⟩ ⟨add2, s2, x2, y2⟩ = v) :
    Calls Tryz.prog 23 #[.agg #[.int .i64 add, .int .i64 s, .bool n, .slice p l c, .bool m, .slice q k d], .agg #[.int .i64 add2, .int .i64 s2, .bool n2, .slice p2 l2 c2, .bool m2, .slice q2 k2 d2]] w fun e w' => e = .returned (.int .i64 v) ∧ Ext w w' := by
  subst h
  exact r02_Cmp add s add2 s2 x y x2 y2 n m n2 m2 p q p2 q2 l c k d l2 c2 k2 d2 w hn hd hn2 hd2 i1 i2
theorem r02_CmpIntE (add s i : Int) (x y : Nm) (v : Int) (n m : Bool) (p q : Option Addr) (l c k d : Nat) (w : World) (hn : NR w n p l c x) (hd : NR w m q k d y) (i1 : -9223372036854775808 ≤ add ∧ add ≤ 9223372036854775807) (i2 : -9223372036854775808 ≤ i ∧ i ≤ 9223372036854775807) (h : cmpRt ⟨add, s, x, y⟩ ⟨i, 0, zero, ofZ 1⟩ = v) :
    Calls Tryz.prog 25 #[.agg #[.int .i64 add, .int .i64 s, .bool n, .slice p l c, .bool m, .slice q k d], .int .i64 i] w fun e w' => e = .returned (.int .i64 v) ∧ Ext w w' := by
  subst h
  exact r02_CmpInt add s i x y n m p q l c k d w hn hd i1 i2
theorem r02_PlusE (add s i : Int) (x y : Nm) (r : Rt × Bool) (n m : Bool) (p q : Option Addr) (l c k d : Nat) (w : World) (hn : NR w n p l c x) (hd : NR w m q k d y) (i1 : -9223372036854775808 ≤ add ∧ add ≤ 9223372036854775807) (i2 : -9223372036854775808 ≤ i ∧ i ≤ 9223372036854775807) (h : plusR ⟨add, s, x, y⟩ i = r) :
    Calls Tryz.prog 28 #[.agg #[.int .i64 add, .int .i64 s, .bool n, .slice p l c, .bool m, .slice q k d], .int .i64 i] w (RetRt w r) := by
  subst h
  exact r02_Plus add s i x y n m p q l c k d w hn hd i1 i2
end Go.Proofs.YtghgggaimijcaaaGreatDoor
