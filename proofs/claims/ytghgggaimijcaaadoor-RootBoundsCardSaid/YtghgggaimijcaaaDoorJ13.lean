/- Contract: num.Text. | Contract: num.divide by a divisor of two digits or more. -/
import Derived.Test.YtghgggaimijcaaaDoorJ12
import Derived.Test.YtghgggaimijcaaaDoorJ10
import Derived.Test.YtghgggaimijcaaaDoorShelf
import Derived.StillTailTactics
import Derived.BigRegion
set_option linter.unusedVariables false
set_option linter.unusedSimpArgs false

namespace Go.Proofs.YtghgggaimijcaaaDoor
open Go.RowKit
open Go.Lib (decDigits decDigits_length nDigits)

theorem own_parts {w : World} {B e : Nat} {v : Value} {L : List (List UInt8)} (h : w.ownsRow B e 1 v L.length (L.map encT)) (h0 : 0 < L.length) :
    ∃ g cap, v = .slice (some ⟨g, 0, none⟩) L.length cap ∧ B ≤ g ∧ g < w.heap.size ∧ L.length ≤ cap ∧ (∀ j x, L[j]? = some x → w.cell? ⟨g, j, none⟩ = some (encT x)) ∧ (∀ j, w.frozen? ⟨g, j, none⟩ = false) := by
  have h' := h
  obtain ⟨hl, ⟨hv, hn⟩ | ⟨g, cap, cur, hv, hB, hg, h1, h2, h3, h4⟩⟩ := h
  · omega
  · subst hv
    have hcell := h'.cellAt
    have hfr := h'.frozenAt
    refine ⟨g, cap, rfl, hB, ?_, h1, ?_, ?_⟩
    · exact (Array.getElem?_eq_some_iff.1 hg).1
    · intro j x hx
      have hj := (List.getElem?_eq_some_iff.1 hx).1
      rw [hcell j (by omega), List.getElem?_map, hx]
      rfl
    · intro j
      exact hfr j
theorem ownsRow_extT {w w' : World} {B e size : Nat} {v : Value} {n : Nat} {xs : List Value} (h : w.ownsRow B e size v n xs) (hx : Ext w w') : w'.ownsRow B e size v n xs := by
  refine ⟨h.1, ?_⟩
  rcases h.2 with h | ⟨g, cap, cur, h1, h2, h3, h4⟩
  · exact .inl h
  · exact .inr ⟨g, cap, cur, h1, h2, by rw [hx.block g (Array.getElem?_eq_some_iff.1 h3).1]; exact h3, h4⟩
theorem Row.grownO {w w' : World} {p : Option Addr} {c : Nat} {d : List Nat} {row : Option Nat} (h : Row w p c d) (hn : ∀ k, row = some k → ∀ x, p = some x → x.block ≠ k) (hg : w.grownBy w' row) : Row w' p c d := by
  refine ⟨h.1, h.2.1, h.2.2.1, fun h0 => ?_⟩
  obtain ⟨b, o, hp, hlt, hc⟩ := h.2.2.2 h0
  refine ⟨b, o, hp, Nat.lt_of_lt_of_le hlt hg.size, fun i hi => ?_⟩
  rw [← hc i hi]
  refine World.cell?_of_block (hg.block b hlt (fun e => ?_))
  exact hn b e.symm _ hp rfl
theorem own_zero {w : World} {B e : Nat} {v : Value} {L : List (List UInt8)} (h : w.ownsRow B e 1 v L.length (L.map encT)) (h0 : L.length = 0) : ∃ q c, v = .slice q 0 c := by
  obtain ⟨_, ⟨hv, _⟩ | ⟨g, cap, cur, hv, _⟩⟩ := h
  · exact ⟨none, 0, hv⟩
  · rw [h0] at hv; exact ⟨_, _, hv⟩
theorem dec_pos (n : Nat) : 0 < (decDigits n).length := by
  rw [decDigits_length]; exact Lib.nDigits_pos n

set_option maxRecDepth 100000 in
set_option maxHeartbeats 4000000 in
theorem num_Text (a : Nm) (na : Bool) (pa : Option Addr) (la ca : Nat) (w : World) (ha : NR w na pa la ca a) (ht : Tab w) :
    Calls Tryd.prog 34 #[.agg #[.bool na, .slice pa la ca]] w fun e w' => e = .returned (.string (bytesT (textL a))) ∧ Ext w w' := by
  have RA := Lib.hid (fun w' (hx : Ext w w') => num_Right a na pa la ca w' (ha.ext hx))
  cases ra : a.right with
  | false =>
    rw [ra] at RA
    have hT : textL a = [] := by unfold textL; rw [ra]; rfl
    rw [hT]
    clear ha hT ht
    go_enter Tryd.func34, Tryd.ntmps34
    go_wp2_with fail
    refine (RA.out _ bxx).mono ?_
    rintro e w1 ⟨rfl, hx⟩
    have hx0 : Ext w w1 := Ext.step bxx hx
    go_wp2
    go_ret
    exact ⟨rfl, hx0⟩
  | true =>
    rw [ra] at RA
    have hneg := ha.1
    have hT : textL a = if na then 45 :: decDigits (val a.d) else decDigits (val a.d) := by unfold textL; rw [ra, hneg]; rfl
    have TA := (a.right_iff.1 ra).2.1
    have L64 := (a.right_iff.1 ra).1
    have hn0 : val a.d = 0 → na = false := by
      intro h
      rw [hneg]
      refine (a.right_iff.1 ra).2.2 ?_
      rcases Nat.eq_zero_or_pos a.d.length with g | g
      · exact List.eq_nil_of_length_eq_zero g
      · have := tight_pos TA g; omega
    obtain rfl : la = a.d.length := ha.2.1
    have hrow := ha.2.2
    have INV0 := Lib.hid (TextInv.start hrow.dig TA L64)
    have HT := Lib.hid hT
    have HN0 := Lib.hid hn0
    have HTAB := Lib.hid ht
    have HROW := Lib.hid hrow
    obtain ⟨n, N⟩ : ∃ n, Hid (val a.d = n) := ⟨_, rfl⟩
    rw [N.out] at HT HN0 INV0
    clear hT hn0 ht hneg ha hrow ra
    obtain ⟨i, hi, hz0, hz1, hz2⟩ := info_partsS infoS
    go_enter Tryd.func34, Tryd.ntmps34
    go_wp2_with fail
    refine (RA.out _ bxx).mono ?_
    rintro e w1 ⟨rfl, hx⟩
    have hx0 : Ext w w1 := Ext.step bxx hx
    have hz_w1 : w.heap.size + 1 ≤ w1.heap.size := Nat.le_trans omm hx.size
    obtain ⟨hl_w1_0, hk_w1_0, hf_w1_0⟩ := extK hx (w.heap.size)
    have HX0 := Lib.hid hx0
    go_wp2_with fail
    clear RA hx0
    go_loopw [3, 4] (fun ps d wr => ∃ (L : List (List UInt8)) (dd : List Nat) (p : Option Addr) (c : Nat), d = .slice p dd.length c ∧ Row wr p c dd ∧ TextInv n dd L ∧ wr.ownsRow w1.heap.size 9 1 ps L.length (L.map encT) ∧ Ext w1 wr) (fun _ d wr => rowVal wr d)
    case atStart => exact ⟨[], a.d, pa, ca, rfl, HROW.out.ext HX0.out, INV0.out, World.ownsRow_nil _ _ _ _, Below.refl _ _⟩
    case round =>
      obtain ⟨L, dd, p, c, rfl, hr, hinv, hown, hxr⟩ := hrel
      have INV := Lib.hid hinv
      have hlen := hinv.len
      by_cases h0 : dd.length = 0
      · obtain rfl : dd = [] := List.eq_nil_of_length_eq_zero h0
        have HXR := Lib.hid (Ext.step HX0.out hxr)
        have hz_wr : w.heap.size + 1 ≤ wr.heap.size := Nat.le_trans omm hxr.size
        obtain ⟨hl_wr_0, hk_wr_0, hf_wr_0⟩ := extK hxr (w.heap.size)
        by_cases hL : L.length = 0
        · -- the number is 0
          have hnz : n = 0 := by
            rcases INV.out.parts with h | ⟨h1, h2⟩
            · exact h.1
            · exfalso
              have h3 := parts_done h2
              rw [List.eq_nil_of_length_eq_zero hL] at h3
              have h4 := dec_pos n
              rw [← h3] at h4
              simp at h4
          have hna := HN0.out hnz
          obtain ⟨q, c', rfl⟩ := own_zero hown hL
          have HT0 := Lib.hid (show textL a = [48] by rw [HT.out, hna, hnz, if_neg (by simp), Lib.decDigits_one (by omega)]; rfl)
          clear HT HN0 INV hr hown hinv hna hxr
          go_wp2
          go_ret
          rw [HT0.out]
          exact ⟨rfl, HXR.out⟩
        · obtain ⟨g, cap, rfl, hBg, hgw, hcap, hcell, hfr⟩ := own_parts hown (by omega)
          have hnz : 0 < n := by
            rcases INV.out.parts with h | ⟨h1, h2⟩
            · rw [h.2.2] at hL; simp at hL
            · exact h1
          have hflat : L.reverse.flatten = decDigits n := by
            rcases INV.out.parts with h | ⟨h1, h2⟩
            · omega
            · exact parts_done h2
          have e0 : ((L.length : Int) == 0) = false := by rw [beq_eq_false_iff_ne]; omega
          have hfl : L.reverse.flatten.length ≤ 100000 := by
            have := flatten_len (L := L.reverse) (fun l hl => INV.out.nine l (List.mem_reverse.1 hl))
            rw [List.length_reverse] at this
            omega
          have RV := Lib.hid (fun W (hc : ∀ j x, L[j]? = some x → W.cell? ⟨g, j, none⟩ = some (encT x)) (hf : ∀ j, W.frozen? ⟨g, j, none⟩ = false) => reverseC g cap w1.heap.size L W hc hf hBg hlen)
          have JN := Lib.hid (fun W (hc : ∀ j x, L.reverse[j]? = some x → W.cell? ⟨g, j, none⟩ = some (encT x)) (hg : g < W.heap.size) => joinC g cap L.reverse W hc hg (by rw [List.length_reverse]; omega) (by rw [List.length_reverse]; omega) hfl)
          rw [List.length_reverse, hflat] at JN
          have hsn : (bytesT (decDigits n)).size ≤ 100000 := by rw [bytesT_size, ← hflat]; exact hfl
          obtain ⟨sn, SN⟩ : ∃ s, Hid (bytesT (decDigits n) = s) := ⟨_, rfl⟩
          rw [SN.out] at JN hsn
          have hbw : w.heap.size + 1 ≤ w1.heap.size := hz_w1
          have HC := Lib.hid hcell
          have HF := Lib.hid hfr
          obtain ⟨m, M⟩ : ∃ m, Hid (L.length = m) := ⟨_, rfl⟩
          rw [M.out] at e0 RV JN hlen hcap ⊢
          clear hcell hfr hown hflat hfl hr INV hinv hL
          go_wp2_with fail
          refine (RV.out _ HC.out HF.out).mono ?_
          rintro e w2 ⟨rfl, hc2, hb2⟩
          have HC2 := Lib.hid hc2
          have hx2 : Ext w w2 := HXR.out.trans (hb2.mono (by omega))
          have kb : w2.cell? ⟨w.heap.size, 0, none⟩ = some (.bool na) := (hb2.cell (p := ⟨w.heap.size, 0, none⟩) (by show w.heap.size < _; omega)).trans (by go_simp)
          have hgw2 : g < w2.heap.size := Nat.lt_of_lt_of_le hgw hb2.size
          clear hc2 hb2
          cases na
          · go_wp2_with fail
            refine (JN.out _ HC2.out hgw2).mono ?_
            rintro e w3 ⟨rfl, hx3⟩
            go_wp2
            go_ret
            rw [HT.out, ← SN.out]
            exact ⟨rfl, Ext.step hx2 hx3⟩
          · go_wp2_with fail
            refine (JN.out _ HC2.out hgw2).mono ?_
            rintro e w3 ⟨rfl, hx3⟩
            go_wp2
            go_ret
            rw [HT.out, ← SN.out]
            refine ⟨?_, Ext.step hx2 hx3⟩
            exact congrArg (fun s => Ending.returned (.string s)) (bytesT_add [45] (decDigits n))
      · -- nine more digits
        have hpos : 0 < dd.length := by omega
        have hv0 : 0 < val dd := tight_pos hinv.tight hpos
        have SH := Lib.hid (num_short dd p dd.length c 1000000000 wr hr rfl (by omega) (by omega) (by have := hinv.le; omega))
        have RV := Lib.hid (rowVal_eq hr)
        have hroom := hinv.room hv0
        have hrl := nDigits_nine (Nat.mod_lt (val dd) (show 0 < 1000000000 by omega))
        have hqle := digs_le hr.dig hinv.tight (Nat.div_le_self (val dd) 1000000000)
        have h64 := hinv.le
        have hmod := Nat.mod_lt (val dd) (show 0 < 1000000000 by omega)
        obtain ⟨v, V⟩ : ∃ v, Hid (val dd = v) := ⟨_, rfl⟩
        obtain ⟨m, M⟩ : ∃ m, Hid (dd.length = m) := ⟨_, rfl⟩
        obtain ⟨r, R⟩ : ∃ r, Hid (v % 1000000000 = r) := ⟨_, rfl⟩
        obtain ⟨q, Q⟩ : ∃ q, Hid (v / 1000000000 = q) := ⟨_, rfl⟩
        rw [V.out, R.out] at hrl
        rw [V.out, R.out] at hmod
        rw [V.out] at hv0
        rw [V.out, Q.out] at hqle
        rw [V.out, Q.out, R.out, M.out] at SH
        rw [M.out, V.out] at RV
        have IT := Lib.hid (fun W (hx : Ext w W) => itoaC r (by omega) W (HTAB.out.ext hx))
        have RP := Lib.hid (fun W => repeatC (9 - nDigits r) (by omega) W)
        have DL := Lib.hid (decDigits_length r)
        have HXR := Lib.hid (Ext.step HX0.out hxr)
        have NX := Lib.hid (fun (d' : List Nat) (l : List UInt8) => INV.out.next (d' := d') (l := l) (by rw [V.out]; exact hv0))
        rw [V.out, Q.out, R.out] at NX
        rw [M.out] at hpos ⊢
        clear h0 hr hinv INV
        by_cases hq : 0 < q
        · have hql : 0 < (digs q).length := List.length_pos_iff.2 (fun h => by have := digs_eq_nil.1 h; omega)
          obtain ⟨ql, QL⟩ : ∃ ql, Hid ((digs q).length = ql) := ⟨_, rfl⟩
          have SZ : (bytesT (decDigits r)).size = nDigits r := (bytesT_size _).trans DL.out
          have SZ0 : (bytesT (List.replicate (9 - nDigits r) 48)).size = 9 - nDigits r := (bytesT_size _).trans List.length_replicate
          obtain ⟨s, S⟩ : ∃ s, Hid (bytesT (decDigits r) = s) := ⟨_, rfl⟩
          obtain ⟨nd, ND⟩ : ∃ nd, Hid (nDigits r = nd) := ⟨_, rfl⟩
          rw [S.out, ND.out] at SZ
          rw [ND.out] at RP hrl SZ0
          obtain ⟨s0, S0⟩ : ∃ s, Hid (bytesT (List.replicate (9 - nd) 48) = s) := ⟨_, rfl⟩
          rw [S0.out] at SZ0 RP
          have e9 : (9 : Int) - (nd : Int) = ((9 - nd : Nat) : Int) := by omega
          have hlo := hown.lt
          have OWN := Lib.hid hown
          clear hown
          go_wp2_with fail
          refine SH.out.mono ?_
          rintro e w2 ⟨p2, c2, rfl, hr2, hnew2, hx2⟩
          have hx3 : Ext w w2 := Ext.step HXR.out hx2
          have hx13 : Ext w1 w2 := Ext.step hxr hx2
          have hown2 := ownsRow_extT OWN.out hx2
          have HNEW := Lib.hid (fun k hk x (hx : p2 = some x) => Nat.ne_of_gt (Nat.lt_of_lt_of_le (hlo k hk).2 (hnew2 x hx)))
          clear hnew2 hlo
          rw [QL.out] at hql ⊢
          go_wp2_with fail
          refine (IT.out _ hx3).mono ?_
          rintro e w3 ⟨rfl, hx4⟩
          have hx14 : Ext w1 w3 := Ext.step hx13 hx4
          have hr3 := hr2.ext hx4
          have hown3 := ownsRow_extT hown2 hx4
          rw [S.out]
          go_wp2_with fail
          refine (RP.out _).mono ?_
          rintro e w4 ⟨rfl, hx5⟩
          have hx15 : Ext w1 w4 := Ext.step hx14 hx5
          have hr4 := hr3.ext hx5
          have hown := ownsRow_extT hown3 hx5
          have hxs := hx15.size
          clear hr2 hr3 hown2 hown3
          go_wp2_with (at_builtin; refine wpList_append_own _ rfl _ _ 78 rfl w1.heap.size 9 i (.string ⟨#[]⟩) 1 16 Tryd.underlying78 hi hz0 hz1 hz2 rfl (by decide) _ _ _ rfl (hown.alloc _) ⟨w4.heap.size, 0, none⟩ 1 1 [.string (s0 ++ s)] rfl rfl (str_news _ _) (by intro u hu; simp at hu; subst hu; rfl) (by unfold maxLen; omega) (by omega) (by simp; omega) ?_)
          intro v' w5 hown' hgr _
          have hown6 : w5.ownsRow w1.heap.size 9 1 v' (L.length + 1) (L.map encT ++ [.string (s0 ++ s)]) := hown'
          have es : L.map encT ++ [.string (s0 ++ s)] = (L ++ [List.replicate (9 - nd) 48 ++ decDigits r]).map encT := by
            rw [List.map_append, ← S0.out, ← S.out, bytesT_add]; rfl
          rw [es] at hown6
          have hl := hown.lt
          have hx6 : Ext w1 w5 := (hx15.alloc hx15.size _).grown hgr (by simp; omega) (fun k hk => (hl k hk).1)
          have hrow6 : Row w5 p2 c2 (digs q) := Row.grownO (hr4.ext bxx) HNEW.out hgr
          have OWN6 := Lib.hid hown6
          have ROW6 := Lib.hid hrow6
          have RV2 := Lib.hid (rowVal_eq hrow6)
          rw [val_digs, QL.out] at RV2
          have NXT := Lib.hid (NX.out (digs q) (List.replicate (9 - nd) 48 ++ decDigits r) (tight_digs _) (by omega) (val_digs q) (by rw [if_pos hq, ND.out]))
          have hlen2 : (L ++ [List.replicate (9 - nd) 48 ++ decDigits r]).length = L.length + 1 := by rw [List.length_append]; rfl
          have X6 := Lib.hid hx6
          have hqv : q < v := by have := Q.out; omega
          clear hown hown' hown6 hgr hl hr4 hx6 hrow6 es
          go_wp2
          refine ⟨⟨L ++ [List.replicate (9 - nd) 48 ++ decDigits r], digs q, p2, c2, by rw [QL.out], ROW6.out, NXT.out, by rw [hlen2]; exact OWN6.out, X6.out⟩, ?_⟩
          rw [RV2.out, RV.out]
          exact hqv
        · have hq0 : q = 0 := by omega
          have QL : Hid ((digs q).length = 0) := by rw [hq0, digs_zero]; rfl
          obtain ⟨ql, hql⟩ : ∃ ql : Nat, ql = 0 := ⟨0, rfl⟩
          have SZ : (bytesT (decDigits r)).size = nDigits r := (bytesT_size _).trans DL.out
          obtain ⟨s, S⟩ : ∃ s, Hid (bytesT (decDigits r) = s) := ⟨_, rfl⟩
          obtain ⟨nd, ND⟩ : ∃ nd, Hid (nDigits r = nd) := ⟨_, rfl⟩
          rw [S.out, ND.out] at SZ
          have hlo := hown.lt
          have OWN := Lib.hid hown
          clear hown
          go_wp2_with fail
          refine SH.out.mono ?_
          rintro e w2 ⟨p2, c2, rfl, hr2, hnew2, hx2⟩
          have hx3 : Ext w w2 := Ext.step HXR.out hx2
          have hx13 : Ext w1 w2 := Ext.step hxr hx2
          have hown2 := ownsRow_extT OWN.out hx2
          have HNEW := Lib.hid (fun k hk x (hx : p2 = some x) => Nat.ne_of_gt (Nat.lt_of_lt_of_le (hlo k hk).2 (hnew2 x hx)))
          clear hnew2 hlo
          rw [QL.out]
          go_wp2_with fail
          refine (IT.out _ hx3).mono ?_
          rintro e w3 ⟨rfl, hx4⟩
          have hx15 : Ext w1 w3 := Ext.step hx13 hx4
          have hr4 := hr2.ext hx4
          have hown := ownsRow_extT hown2 hx4
          rw [S.out]
          have hxs := hx15.size
          clear hr2 hown2
          go_wp2_with (at_builtin; refine wpList_append_own _ rfl _ _ 78 rfl w1.heap.size 9 i (.string ⟨#[]⟩) 1 16 Tryd.underlying78 hi hz0 hz1 hz2 rfl (by decide) _ _ _ rfl (hown.alloc _) ⟨w3.heap.size, 0, none⟩ 1 1 [.string (s)] rfl rfl (str_news _ _) (by intro u hu; simp at hu; subst hu; rfl) (by unfold maxLen; omega) (by omega) (by simp; omega) ?_)
          intro v' w5 hown' hgr _
          have hown6 : w5.ownsRow w1.heap.size 9 1 v' (L.length + 1) (L.map encT ++ [.string (s)]) := hown'
          have es : L.map encT ++ [.string (s)] = (L ++ [decDigits r]).map encT := by
            rw [List.map_append, ← S.out]; rfl
          rw [es] at hown6
          have hl := hown.lt
          have hx6 : Ext w1 w5 := (hx15.alloc hx15.size _).grown hgr (by simp; omega) (fun k hk => (hl k hk).1)
          have hrow6 : Row w5 p2 c2 (digs q) := Row.grownO (hr4.ext bxx) HNEW.out hgr
          have OWN6 := Lib.hid hown6
          have ROW6 := Lib.hid hrow6
          have RV2 := Lib.hid (rowVal_eq hrow6)
          rw [val_digs, QL.out] at RV2
          have NXT := Lib.hid (NX.out (digs q) (decDigits r) (tight_digs _) (by omega) (val_digs q) (by rw [if_neg hq]))
          have hlen2 : (L ++ [decDigits r]).length = L.length + 1 := by rw [List.length_append]; rfl
          have X6 := Lib.hid hx6
          have hqv : q < v := by have := Q.out; omega
          clear hown hown' hown6 hgr hl hr4 hx6 hrow6 es
          go_wp2
          refine ⟨⟨L ++ [decDigits r], digs q, p2, c2, by rw [QL.out], ROW6.out, NXT.out, by rw [hlen2]; exact OWN6.out, X6.out⟩, ?_⟩
          rw [RV2.out, RV.out]
          exact hqv
end Go.Proofs.YtghgggaimijcaaaDoor

namespace Go.Proofs.YtghgggaimijcaaaDoor
open Go.RowKit
attribute [local go_sem] Gives givesU

/-- By how much the divisor is moved up. -/
theorem lead {x : Nat} (h0 : 0 < x) (hx : x < 4294967296) : ∃ i : Nat, i < 32 ∧ (32 - (Lib.bitLen x : Int)) = (i : Int) ∧ (x + 1) * 2 ^ i ≤ 4294967296 := by
  have hl := Lib.bitLen_le x 32 (by omega) hx
  obtain ⟨b1, _, b3⟩ := Lib.bitLenAux_bounds 64 x (by omega) (by omega)
  change 1 ≤ Lib.bitLen x at b1
  change x < 2 ^ Lib.bitLen x at b3
  refine ⟨32 - Lib.bitLen x, by omega, by omega, ?_⟩
  have h1 := Nat.mul_le_mul_right (2 ^ (32 - Lib.bitLen x)) (Nat.succ_le_of_lt b3)
  rw [← Nat.pow_add, show Lib.bitLen x + (32 - Lib.bitLen x) = 32 by omega] at h1
  exact h1
theorem lead_val {b : List Nat} {n x i : Nat} (hl : b.length = n + 1) (db : Dig b) (hx : b[n]?.getD 0 = x) (h : (x + 1) * 2 ^ i ≤ 4294967296) : 2 ^ i * val b < 4294967296 ^ (n + 1) := by
  have h1 := val_pos_of hl hx
  have h2 := val_lt (db.take n)
  rw [List.length_take, Nat.min_eq_left (by omega)] at h2
  have hs : 0 < 2 ^ i := Nat.pow_pos (by omega)
  rw [Nat.pow_succ]
  have h3 : val b < 4294967296 ^ n * (x + 1) := by
    have e : 4294967296 ^ n * (x + 1) = 4294967296 ^ n * x + 4294967296 ^ n := by grind
    omega
  have h4 : 2 ^ i * val b < 2 ^ i * (4294967296 ^ n * (x + 1)) := Nat.mul_lt_mul_of_pos_left h3 hs
  have h5 : 4294967296 ^ n * ((x + 1) * 2 ^ i) ≤ 4294967296 ^ n * 4294967296 := Nat.mul_le_mul_left _ h
  have e : 2 ^ i * (4294967296 ^ n * (x + 1)) = 4294967296 ^ n * ((x + 1) * 2 ^ i) := by grind
  omega
theorem top_pos {v : List Nat} {n : Nat} (hl : v.length = n + 1) (dv : Dig v) (h : 4294967296 ^ n ≤ val v) : 0 < v[n]?.getD 0 := by
  have h1 := val_pos_of hl rfl
  have h2 := val_lt (dv.take n)
  rw [List.length_take, Nat.min_eq_left (by omega)] at h2
  rcases Nat.eq_zero_or_pos (v[n]?.getD 0) with g | g
  · rw [g, Nat.mul_zero] at h1; omega
  · exact g
theorem tight_ge {b : List Nat} {n : Nat} (hl : b.length = n + 1) (tb : Tight b) : 4294967296 ^ n ≤ val b := by
  rcases List.eq_nil_or_concat b with rfl | ⟨c, x, rfl⟩
  · simp at hl
  · have hx : x ≠ 0 := by have := tb (by simp); simpa using this
    have hc : c.length = n := by simpa using hl
    rw [List.concat_eq_append, val_append, hc, val_one]
    have := Nat.mul_le_mul_left (4294967296 ^ n) (show 1 ≤ x by omega)
    omega
/-- A part of a row of its own, as a row. -/
theorem own_part {w : World} {B e g N c cap : Nat} {pre part post : List Nat} (h : w.ownsRow B e 1 (.slice (some ⟨g, 0, none⟩) N c) N (enc (pre ++ (part ++ post)))) (dp : Dig part) (hc : part.length ≤ cap) (hm : cap ≤ 9223372036854775807) :
    Row w (some ⟨g, pre.length, none⟩) cap part := by
  have hl := own_len h
  refine ⟨hc, hm, dp, fun h0 => ⟨g, pre.length, rfl, (h.lt g rfl).2, fun i hi => ?_⟩⟩
  simp only [List.length_append] at hl
  rw [h.cellAt _ (by omega), enc_get _ _ (by simp; omega), List.getElem?_append_right (by omega), Nat.add_sub_cancel_left, List.getElem?_append_left hi]

theorem ownsRow_base {w : World} {base base' e size n : Nat} {v : Value} {xs : List Value} (h : w.ownsRow base e size v n xs) (hb : base' ≤ base) : w.ownsRow base' e size v n xs := by
  refine ⟨h.1, ?_⟩
  rcases h.2 with g | ⟨g, cap, cur, h1, h2, h3⟩
  · exact .inl g
  · exact .inr ⟨g, cap, cur, h1, Nat.le_trans hb h2, h3⟩
theorem split3 (u : List Nat) (k n : Nat) (h : k + n ≤ u.length) : ∃ pre part post : List Nat, u = pre ++ (part ++ post) ∧ pre.length = k ∧ part.length = n :=
  ⟨u.take k, (u.drop k).take n, (u.drop k).drop n, by rw [List.take_append_drop, List.take_append_drop], by rw [List.length_take, Nat.min_eq_left (by omega)], by rw [List.length_take, List.length_drop, Nat.min_eq_left (by omega)]⟩
/-- The value is a new row of N digits that stand for A. -/
def IsSh (base N A : Nat) (nt : Nat → Prop) (W : World) (v : Value) (w' : World) : Prop :=
  ∃ t : Nat × List Nat, v = .slice (some ⟨t.1, 0, none⟩) N N ∧ Below W.heap.size W w' ∧ t.2.length = N ∧ Dig t.2 ∧ val t.2 = A ∧ nt t.1 ∧ w'.ownsRow base 67 1 (.slice (some ⟨t.1, 0, none⟩) N N) N (enc t.2)
theorem F_shift {P : Program} {ops : Array Oper} {S : World → Prop} {Q : Act → World → Prop} {o : Oper} {l : List Oper} {a : Act} {own : List Nat} {F : World → Prop} (base N A : Nat) (nt : Nat → Prop) (hk : fkind o = 2) (hw : Region.wanted o (yielded ops a.tmps) = true)
    (hg : ∀ w, F w → Gives P o a w (IsSh base N A nt w))
    (h : ∀ g d, List.length d = N → Dig d → val d = A → nt g → WpF P ops S Q l (a.put o.dst (.slice (some ⟨g, 0, none⟩) N N)) own (fun w => F w ∧ w.ownsRow base 67 1 (.slice (some ⟨g, 0, none⟩) N N) N (enc d))) : WpF P ops S Q (o :: l) a own F := by
  refine F_callE (I := Nat × List Nat) (fun t => .slice (some ⟨t.1, 0, none⟩) N N) (fun t W => (t.2.length = N ∧ Dig t.2 ∧ val t.2 = A ∧ nt t.1) ∧ W.ownsRow base 67 1 (.slice (some ⟨t.1, 0, none⟩) N N) N (enc t.2)) (fun t W W' h hb => ⟨h.1, ownsRow_extT h.2 hb⟩) hk hw (fun w hf => ?_) ?_
  · refine (hg w hf).imp ?_
    rintro v w' ⟨t, h1, h2, h3, h4, h5, h6, h7⟩
    exact ⟨t, h1, h2, ⟨h3, h4, h5, h6⟩, h7⟩
  · rintro ⟨g, d⟩ ⟨w1, hf, hp, hr⟩
    have e : (fun w => F w ∧ (List.length d = N ∧ Dig d ∧ val d = A ∧ nt g) ∧ w.ownsRow base 67 1 (.slice (some ⟨g, 0, none⟩) N N) N (enc d)) = (fun w => F w ∧ w.ownsRow base 67 1 (.slice (some ⟨g, 0, none⟩) N N) N (enc d)) := by
      funext w; exact propext ⟨fun ⟨a, _, b⟩ => ⟨a, b⟩, fun ⟨a, b⟩ => ⟨a, hp, b⟩⟩
    have := h g d hp.1 hp.2.1 hp.2.2.1 hp.2.2.2
    rw [← e] at this
    exact this
def RetSh (base N A : Nat) (nt : Nat → Prop) (W : World) (e : Ending) (w' : World) : Prop := ∃ v, e = .returned v ∧ IsSh base N A nt W v w'

set_option maxRecDepth 100000 in
set_option maxHeartbeats 8000000 in
theorem num_divide_long (a b : List Nat) (pa pb : Option Addr) (la ca lb cb n0 : Nat) (w : World) (ha : Row w pa ca a) (hb : Row w pb cb b) (hla : la = a.length) (hlb : lb = b.length) (ta : Tight a) (tb : Tight b) (h64 : a.length ≤ 900)
    (hn : b.length = n0 + 2) (hge : val b ≤ val a) : Calls Tryd.prog 40 #[.slice pa la ca, .slice pb lb cb] w (RetQR w (digs (val a / val b)) (digs (val a % val b))) := by
  have hc : decide (cmpL a b < 0) = false := by
    rw [decide_eq_false_iff_not, cmpL_neg ha.dig hb.dig ta tb]
    omega
  have CP := Lib.hid (fun w' (hx : Ext w w') => num_compare a b pa pb la ca lb cb w' (ha.ext hx) (hb.ext hx) hla hlb)
  have hnm : b.length ≤ a.length := tight_len ha.dig tb hge
  have hx0 := top_pos (n := n0 + 1) hn hb.dig (tight_ge hn tb)
  have hxd := hb.dig.getD (n0 + 1)
  rw [List.getD_eq_getElem?_getD] at hxd
  obtain ⟨x, X⟩ : ∃ x, Hid (b[n0 + 1]?.getD 0 = x) := ⟨_, rfl⟩
  rw [X.out] at hx0 hxd
  obtain ⟨i, hi, hie, hix⟩ := lead hx0 hxd
  have LZ := Lib.hid (fun W => (Tryd.bits_LeadingZeros32 (x : Int) W (by omega) (by omega)).mono (fun e w' h => (show e = .returned (.int .i64 (i : Int)) ∧ w' = W from ⟨by rw [h.1, Int.toNat_natCast, hie], h.2⟩)))
  have SA := Lib.hid (fun W (hx : Ext w W) => num_shifted a pa la ca i W (ha.ext hx) hla hi (by omega))
  have SB := Lib.hid (fun W (hx : Ext w W) => num_shifted b pb lb cb i W (hb.ext hx) hlb hi (by omega))
  have hVn := lead_val (n := n0 + 1) hn hb.dig X.out hix
  have hVg : 4294967296 ^ (n0 + 1) ≤ 2 ^ i * val b := Nat.le_trans (tight_ge (n := n0 + 1) hn tb) (Nat.le_mul_of_pos_left _ (Nat.pow_pos (by omega)))
  have hse : 2 ^ i * 2 ^ (32 - i) = 4294967296 := by rw [← Nat.pow_add, show i + (32 - i) = 32 by omega]
  have hs0 : 0 < 2 ^ i := Nat.pow_pos (by omega)
  have hAQ : 2 ^ i * val a / (2 ^ i * val b) = val a / val b := Nat.mul_div_mul_left _ _ hs0
  have hAR : 2 ^ i * val a % (2 ^ i * val b) = 2 ^ i * (val a % val b) := Nat.mul_mod_mul_left _ _ _
  have hAlt : 2 ^ i * val a < 4294967296 ^ (a.length - b.length + 1) * (2 ^ i * val b) := by
    have h1 := val_lt ha.dig
    have h2 : 4294967296 ^ a.length ≤ 4294967296 ^ (a.length - b.length + 1) * val b := by
      have h3 := Nat.mul_le_mul_left (4294967296 ^ (a.length - b.length + 1)) (tight_ge (n := n0 + 1) hn tb)
      rw [← Nat.pow_add, show a.length - b.length + 1 + (n0 + 1) = a.length by omega] at h3
      exact h3
    have e : 4294967296 ^ (a.length - b.length + 1) * (2 ^ i * val b) = 2 ^ i * (4294967296 ^ (a.length - b.length + 1) * val b) := by grind
    rw [e]
    exact Nat.mul_lt_mul_of_pos_left (Nat.lt_of_lt_of_le h1 h2) hs0
  obtain ⟨bb, ob, rfl, hbb, hcb⟩ := hb.at (by omega)
  have hc0 := hcb (n0 + 1) (by omega)
  rw [X.out] at hc0
  have hcb1 := hb.le
  have hcb2 := hb.max
  have hla1 := ha.le
  have hma1 := ha.max
  obtain ⟨iA, hiA⟩ : ∃ A, Hid (2 ^ i * val a = A) := ⟨_, rfl⟩
  obtain ⟨V, HV⟩ : ∃ V, Hid (2 ^ i * val b = V) := ⟨_, rfl⟩
  obtain ⟨m, HM⟩ : ∃ m, Hid (a.length = m) := ⟨_, rfl⟩
  obtain ⟨M, HMM⟩ : ∃ M, Hid (m - (n0 + 2) + 1 = M) := ⟨_, rfl⟩
  subst hla hlb
  rw [hiA.out, HM.out] at SA
  rw [HV.out, hn] at SB
  rw [hiA.out, HV.out] at hAQ hAR hAlt
  rw [HV.out] at hVn hVg
  rw [HM.out, hn, HMM.out] at hAlt
  rw [HM.out] at h64 hnm hla1
  rw [hn] at hnm hcb1
  rw [HM.out, hn] at CP ⊢
  have hMm : M + n0 + 1 = m := by have := HMM.out; omega
  obtain ⟨ii, hii, hz0, hz1, hz2⟩ := info_parts info32
  have hn2 : ((n0 : Int) + 2 == 1) = false := by rw [beq_eq_false_iff_ne]; omega
  have AQ := Lib.hid hAQ
  have AR := Lib.hid hAR
  have ALT := Lib.hid hAlt
  clear hAQ hAR hAlt hcb ta tb hge hix hie ha hb
  go_enter Tryd.func40, Tryd.ntmps40
  go_wp2_with fail
  refine (CP.out _ bxx).mono ?_
  rintro e w1 ⟨rfl, hx1⟩
  have hc1 : w1.cell? ⟨bb, ob + (n0 + 1), none⟩ = some (.int .u32 (x : Int)) := (hx1.cell (p := ⟨bb, ob + (n0 + 1), none⟩) hbb).trans hc0
  go_wp2_with fail
  refine (LZ.out _).mono ?_
  rintro e w2 ⟨rfl, rfl⟩
  have hs1 := hx1.size
  go_upto_region 8 with (fail)
  refine wp_FS (fun W => W.cell? ⟨bb, ob + (n0 + 1), none⟩ = some (.int .u32 (x : Int))) ?_
  repeat (first | refine F_s ?_ | refine F_r ?_)
  refine F_shift w2.heap.size (m + 1) iA (fun _ => True) (by rfl) (by rfl) (by intro W hW; (try dsimp only at hW); have hwW : w2.heap.size ≤ W.heap.size := hW.1.size; go_simp; refine (SA.out W (Ext.step hx1 hW.1)).mono ?_; rintro e w' ⟨o, h1, h2, h3, rfl, h5, h6⟩; exact ⟨_, rfl, (W.heap.size, o), rfl, h6, h1, h2, h3, trivial, ownsRow_base h5 hwW⟩) ?_
  intro gu U hU1 hU2 hU3 _
  refine F_put ?_
  repeat (first | refine F_s ?_ | refine F_r ?_)
  refine F_shift w2.heap.size (n0 + 2 + 1) V (fun g => g ≠ gu) (by rfl) (by rfl) (by intro W hW; (try dsimp only at hW); have hwW : w2.heap.size ≤ W.heap.size := hW.1.1.size; have hlt := (World.ownsRow.lt hW.2 gu rfl).2; go_simp; refine (SB.out W (Ext.step hx1 hW.1.1)).mono ?_; rintro e w' ⟨o, h1, h2, h3, rfl, h5, h6⟩; exact ⟨_, rfl, (W.heap.size, o), rfl, h6, h1, h2, h3, Nat.ne_of_gt hlt, ownsRow_base h5 hwW⟩) ?_
  intro gv V0 hV1 hV2 hV3 hV4
  refine F_put ?_
  repeat (first | refine F_s ?_ | refine F_r ?_)
  refine F_run (v := .slice (some ⟨gv, 0, none⟩) (n0 + 2) (n0 + 2 + 1)) (by rfl) ?_ ?_
  · intro W hW
    (try dsimp only at hW)
    go_simp
    rw [if_pos ⟨by omega, by omega⟩, show ((n0 : Int) + 2).toNat = n0 + 2 by omega]
  refine F_put ?_
  repeat (first | refine F_s ?_ | refine F_r ?_)
  rintro w3 ⟨⟨⟨hx3, _⟩, hownU⟩, hownV⟩
  have hxw3 : Ext w w3 := Ext.step hx1 hx3
  have hvd : Dig (V0.take (n0 + 2)) := hV2.take _
  have hvl : (V0.take (n0 + 2)).length = n0 + 2 := by rw [List.length_take, Nat.min_eq_left (by omega)]
  have hvv : val (V0.take (n0 + 2)) = V := by
    have h1 := val_pos_of (n := n0 + 2) hV1 rfl
    rw [hV3] at h1
    rcases Nat.eq_zero_or_pos (V0[n0 + 2]?.getD 0) with g | g
    · rw [g, Nat.mul_zero] at h1; exact h1.symm
    · have h2 := Nat.mul_le_mul_left (4294967296 ^ (n0 + 2)) g
      have h3 : V < 4294967296 ^ (n0 + 2) := hVn
      omega
  obtain ⟨pv', cv', hvs, hvrow0, _⟩ := row_of_owns hownV hV2
  have hvrow : Row w3 (some ⟨gv, 0, none⟩) (n0 + 2 + 1) (V0.take (n0 + 2)) := by
    injection hvs with e1 e2 e3
    rw [← e1, ← e3] at hvrow0
    exact hvrow0.take _ (by omega)
  have hgu : gu < w3.heap.size := (World.ownsRow.lt hownU gu rfl).2
  have hgu2 : w2.heap.size ≤ gu := (World.ownsRow.lt hownU gu rfl).1
  have hVpos : 0 < V := Nat.lt_of_lt_of_le (Nat.pow_pos (by omega)) hVg
  have hvtop := top_pos (n := n0 + 1) (v := V0.take (n0 + 2)) hvl hvd (by rw [hvv]; exact hVg)
  obtain ⟨v, Hv⟩ : ∃ v, Hid (V0.take (n0 + 2) = v) := ⟨_, rfl⟩
  rw [Hv.out] at hvd hvl hvv hvrow hvtop
  have VROW := Lib.hid hvrow
  have OWNU := Lib.hid hownU
  have HX3 := Lib.hid hx3
  clear hvs hvrow0 hownV hownU hvrow hx3 hc1 hc0
  have eM : (m : Int) - ((n0 : Int) + 2) + 1 = (M : Int) := by omega
  have hM1 : M ≤ 900 := by omega
  go_wp2_with (at_make; refine wpList_make_full _ rfl _ _ 23 rfl w3.heap.size 67 ii (.int .u32 0) 1 Tryd.underlying23 hii hz0 hz1 _ _ _ _ M rfl rfl (by omega) (by omega) (by rw [hz2]; omega) (by unfold maxLen; omega) (Nat.le_refl _) ?_)
  all_goals
    intro w4 hown hgr
    rw [show (madeCells #[Value.int IntKind.u32 0] M).toList = enc (List.replicate M 0 ++ []) from by rw [enc, List.append_nil, List.map_replicate]; exact toList_madeCells_one _ _] at hown
    have hx4 : Ext w3 w4 := ⟨hgr.os, hgr.tape, hgr.output, hgr.size, fun k hk => hgr.block k hk (by simp)⟩
    have hownU4 := ownsRow_extT OWNU.out hx4
    clear hgr
    go_wp2_with fail
    have hv3 : gv < w3.heap.size := by
      obtain ⟨b', o', hp', hlt', _⟩ := VROW.out.at (by omega)
      cases hp'
      exact hlt'
    go_loopw [12] (fun ks wr => ∃ (k : Nat) (u qs : List Nat), ks = .int .i64 ((k : Int) - 1) ∧ qs.length + k = M ∧ u.length = m + 1 ∧ LongInv iA V k u qs ∧ wr.ownsRow w2.heap.size 67 1 (.slice (some ⟨gu, 0, none⟩) (m + 1) (m + 1)) (m + 1) (enc u) ∧ wr.ownsRow w3.heap.size 67 1 (.slice (some ⟨w3.heap.size, 0, none⟩) M M) M (enc (List.replicate k 0 ++ qs)) ∧ Row wr (some ⟨gv, 0, none⟩) (n0 + 2 + 1) v ∧ Below w2.heap.size w2 wr) (fun ks _ => (intOf ks + 1).toNat)
    case atStart => exact ⟨M, U, [], rfl, by simp, hU1, ⟨hU2, Dig.nil, by rw [hU3]; simp [val], by rw [hU3]; exact ALT.out⟩, hownU4, hown, VROW.out.ext hx4, HX3.out.trans (hx4.mono HX3.out.size)⟩
    case round =>
      clear hown hownU4 hx4 hU1 hU2 hU3
      obtain ⟨k, u, qs, rfl, hkM, hul, hinv, hownU, hownQ, hvr, hx⟩ := hrel
      cases k with
      | zero =>
        obtain ⟨L1, L2⟩ := long_end hVpos hinv
        rw [AQ.out] at L1
        rw [AR.out] at L2
        have HQ := Lib.hid L1
        have DQ := Lib.hid hinv.dq
        have DU := Lib.hid hinv.du
        have hult : val u < 4294967296 ^ (n0 + 2) := by
          have h1 := hinv.lt
          rw [Nat.pow_zero, Nat.one_mul] at h1
          exact Nat.lt_trans h1 hVn
        rw [List.replicate_zero, List.nil_append] at hownQ
        have hql : qs.length = M := by omega
        have e : (((0 : Nat) : Int) - 1) = -1 := by omega
        rw [e]
        clear e
        have S0 := Lib.hid (shr_start hse u (by omega))
        have SE := Lib.hid (fun o (h : ShrInv (2 ^ i) u o) (hl : o.length = n0 + 2) => shr_end h hs0 hl hult DU.out (by omega) L2)
        have hwr2 : w2.heap.size ≤ wr.heap.size := hx.size
        have HOU := Lib.hid hownU
        have HOQ := Lib.hid hownQ
        have hgr1 := (World.ownsRow.lt hownU gu rfl).2
        clear hinv L1 L2 hownU hownQ hvr hult
        go_wp2_with (at_make; refine wpList_make_full _ rfl _ _ 23 rfl wr.heap.size 67 ii (.int .u32 0) 1 Tryd.underlying23 hii hz0 hz1 _ _ _ _ (n0 + 2) rfl rfl (by omega) (by omega) (by rw [hz2]; omega) (by unfold maxLen; omega) (Nat.le_refl _) ?_)
        all_goals
          intro w5 hownR hgr
          have eMk : (madeCells #[Value.int IntKind.u32 0] (n0 + 2)).toList = enc ([] ++ List.replicate (n0 + 2) 0) := by
            rw [enc, List.nil_append, List.map_replicate]
            exact toList_madeCells_one _ _
          rw [eMk] at hownR
          clear eMk
          have hx5 : Ext wr w5 := ⟨hgr.os, hgr.tape, hgr.output, hgr.size, fun k hk => hgr.block k hk (by simp)⟩
          have hownU5 := ownsRow_extT HOU.out hx5
          have hownQ5 := ownsRow_extT HOQ.out hx5
          clear hgr
          have hgrR := (World.ownsRow.lt hownR wr.heap.size rfl).2
          have hw3r : w3.heap.size < wr.heap.size := (World.ownsRow.lt HOQ.out w3.heap.size rfl).2
          have hx55 := hx.trans (hx5.mono hwr2)
          obtain ⟨gr, GR⟩ : ∃ gr, Hid (wr.heap.size = gr) := ⟨_, rfl⟩
          rw [GR.out] at hownR hgr1 hw3r hwr2 ⊢
          go_wp2_with fail
          go_loopw [83] (fun ks W => ∃ (o : List Nat), o.length ≤ n0 + 2 ∧ ks = .int .i64 (o.length : Int) ∧ ShrInv (2 ^ i) u o ∧ W.ownsRow w2.heap.size 67 1 (.slice (some ⟨gu, 0, none⟩) (m + 1) (m + 1)) (m + 1) (enc u) ∧ W.ownsRow w3.heap.size 67 1 (.slice (some ⟨w3.heap.size, 0, none⟩) M M) M (enc qs) ∧ W.ownsRow gr 67 1 (.slice (some ⟨gr, 0, none⟩) (n0 + 2) (n0 + 2)) (n0 + 2) (enc (o ++ List.replicate (n0 + 2 - o.length) 0)) ∧ Below w2.heap.size w2 W) (fun ks _ => n0 + 2 - (intOf ks).toNat)
          case atStart => exact ⟨[], by simp, rfl, S0.out, hownU5, hownQ5, hownR, hx55⟩
          case round =>
            clear hownU5 hownQ5 hownR hx5 hx55
            obtain ⟨o, ho, rfl, hsh, hownU, hownQ, hownR, hx5⟩ := hrel
            by_cases hlt : o.length < n0 + 2
            · have d0 := DU.out.getD o.length
              have d1 := DU.out.getD (o.length + 1)
              rw [List.getD_eq_getElem?_getD] at d0 d1
              have k0 := own_cell hownU o.length _ (by omega) rfl
              have k1 := own_cell hownU (o.length + 1) _ (by omega) rfl
              obtain ⟨x0, X0⟩ : ∃ x, Hid (u[o.length]?.getD 0 = x) := ⟨_, rfl⟩
              obtain ⟨x1, X1⟩ : ∃ x, Hid (u[o.length + 1]?.getD 0 = x) := ⟨_, rfl⟩
              rw [X0.out] at k0 d0
              rw [X1.out] at k1 d1
              have STEP := shr_step hse hsh X0.out X1.out d0
              have OR := or_u64 x1 x0 d1 d0
              obtain ⟨tt, TT⟩ : ∃ x, Hid (x1 * 4294967296 + x0 = x) := ⟨_, rfl⟩
              rw [TT.out] at STEP OR
              have htt : tt < 18446744073709551616 := by have := TT.out; omega
              have hp : (2 : Int) ^ i = ((2 ^ i : Nat) : Int) := (Int.natCast_pow 2 i).symm
              have DV : (tt : Int) / 2 ^ i % 4294967296 = ((tt / 2 ^ i % 4294967296 : Nat) : Int) := by rw [hp]; rfl
              obtain ⟨y, Y⟩ : ∃ x, Hid (tt / 2 ^ i % 4294967296 = x) := ⟨_, rfl⟩
              rw [Y.out] at DV STEP
              clear hp
              rw [replicate_pred _ (show 0 < n0 + 2 - o.length by omega)] at hownR
              have hcw := own_at (pre := []) (o := o) (i := o.length) hownR (by simp)
              have hfw := World.ownsRow.frozenAt hownR o.length
              have hownR2 : (wr.drew.setCell ⟨gr, o.length, none⟩ (.int .u32 (y : Int))).ownsRow gr 67 1 (.slice (some ⟨gr, 0, none⟩) (n0 + 2) (n0 + 2)) (n0 + 2) (enc ([] ++ ((o ++ [y]) ++ List.replicate (n0 + 2 - o.length - 1) 0))) := own_put (w := wr.drew) (pre := []) (o := o) (i := o.length) hownR (by simp) y
              have hs7 := grownBy_setCell wr.drew ⟨gr, o.length, none⟩ (.int .u32 (y : Int))
              have hownU2 := World.ownsRow.kept (w := wr.drew) hownU hs7 (.inr (by simp [Value.ownBlock]; omega))
              have hownQ2 := World.ownsRow.kept (w := wr.drew) hownQ hs7 (.inr (by simp [Value.ownBlock]; omega))
              have hx8 : Below w2.heap.size w2 (wr.drew.setCell ⟨gr, o.length, none⟩ (.int .u32 (y : Int))) := (Below.drew hx5).setCell (by show w2.heap.size ≤ gr; omega) _
              have hgl : gr < wr.heap.size := (World.ownsRow.lt hownR gr rfl).2
              have A1 := Lib.hid hownU2
              have A2 := Lib.hid hownQ2
              have A3 := Lib.hid hownR2
              have A4 := Lib.hid hx8
              have A5 := Lib.hid STEP
              clear hownU hownQ hownR hownU2 hownQ2 hownR2 hx5 hx8 hs7 STEP hsh
              have hI1 : (0 : Int) ≤ (o.length : Int) + 1 := by omega
              have hI2 : (o.length : Int) + 1 < (m : Int) + 1 := by omega
              have hI3 : (o.length : Int) < (m : Int) := by omega
              have hI4 : (o.length : Int) < (m : Int) + 1 := by omega
              have hI5 : (o.length : Int) < (n0 : Int) + 2 := by omega
              have hI6 : IntKind.i64.wrap ((o.length : Int) + 1) = (o.length : Int) + 1 := IntWalk.i64_in _ (by omega)
              have hI7 : ((o.length : Int) + 1).toNat = o.length + 1 := by omega
              have hI8 : (0 : Int) ≤ (o.length : Int) := by omega
              go_upto_region 19 with (fail)
              go_still_tail 19, (by kernel_rfl)
              go_wp2
              refine ⟨⟨o ++ [y], by simp; omega, by simp, A5.out, A1.out, A2.out, ?_, A4.out⟩, by simp [intOf]; omega⟩
              rw [List.length_append, List.length_singleton, Nat.sub_add_eq]
              exact A3.out
            · have hol : o.length = n0 + 2 := by omega
              have hvo := SE.out o hsh hol
              rw [hol, Nat.sub_self, List.replicate_zero, List.append_nil] at hownR
              obtain ⟨pq, cq, hvq, hrowQ, _⟩ := row_of_owns (d := qs) hownQ DQ.out
              obtain ⟨pr, cr, hvr, hrowR, _⟩ := row_of_owns (d := o) hownR hsh.1
              injection hvq with e1 e2 e3
              injection hvr with f1 f2 f3
              subst e1 f1
              rw [← e3] at hrowQ
              rw [← f3] at hrowR
              have TQ := Lib.hid (num_trim qs _ _ _ _ hrowQ hql.symm)
              have hxw : Ext w wr := (Ext.step hx1 (Below.refl _ _)).trans (hx5.mono hx1.size)
              have TR := Lib.hid (fun W (hx : Ext wr W) => num_trim o _ _ _ W (hrowR.ext hx) hol.symm)
              have EQ := Lib.hid (show trim qs = digs (val a / val b) by unfold trim; rw [HQ.out])
              have ER := Lib.hid (show trim o = digs (val a % val b) by unfold trim; rw [hvo])
              rw [EQ.out] at TQ
              rw [ER.out] at TR
              clear hownU hownQ hownR hsh hvo e2 e3 f2 f3 hrowQ hrowR
              go_wp2_with fail
              refine TQ.out.mono ?_
              rintro e w7 ⟨rfl, hr7, hx7⟩
              have HR7 := Lib.hid hr7
              clear hr7
              go_wp2_with fail
              refine (TR.out _ hx7).mono ?_
              rintro e w8 ⟨rfl, hr8, hx8⟩
              have hx9 : Ext w w8 := Ext.step (Ext.step hxw hx7) hx8
              have HR8 := Lib.hid hr8
              have HR9 := Lib.hid (HR7.out.ext hx8)
              clear hr8 hx7 hx8 hx5
              go_wp2
              go_ret2
              exact ⟨_, _, _, _, rfl, HR9.out, HR8.out, hx9⟩
      | succ k =>
        have e : (((k + 1 : Nat) : Int) - 1) = (k : Int) := by omega
        rw [e]
        clear e
        obtain ⟨pre, part, post, rfl, hpre, hpart⟩ := split3 u k (n0 + 2 + 1) (by omega)
        obtain ⟨hpost, hplt⟩ := long_part hpre hpart hVn hinv
        have dpart : Dig part := fun x hx => hinv.du x (List.mem_append_right _ (List.mem_append_left _ hx))
        have PR := own_part (cap := m + 1 - k) hownU dpart (by omega) (by omega)
        rw [hpre] at PR
        have GS := Lib.hid (num_guess part v _ _ _ _ n0 wr PR hvr hpart hvl (by omega) hvtop (by rw [hvv]; exact hplt))
        have INV := Lib.hid hinv
        have HOU := Lib.hid hownU
        have HOQ := Lib.hid hownQ
        have HVR := Lib.hid hvr
        clear hinv hownU hownQ hvr PR
        have hw4 : w2.heap.size ≤ wr.heap.size := hx.size
        go_wp2_with fail
        rw [show k + (n0 + 2) + 1 - k = n0 + 3 by omega]
        refine GS.out.mono ?_
        rintro e w5 ⟨q, rfl, hq1, hq2, hq3, hx5⟩
        have RD := Lib.hid (num_reduce pre part post v gu k (m + 1) (n0 + 2) (m + 1 - k) (n0 + 2 + 1) w2.heap.size q (some ⟨gv, 0, none⟩) w5 (ownsRow_extT HOU.out hx5) hpre hpart hvl (HVR.out.ext hx5) (fun x hx => by cases hx; exact hV4) dpart (by omega) (by omega) (by omega) (by omega) (by rw [hvv]; exact hVpos) hq1 hq2 hq3)
        have hownQ5 := ownsRow_extT HOQ.out hx5
        have hvr5 := HVR.out.ext hx5
        have hx6 : Below w2.heap.size w2 w5 := hx.trans (hx5.mono hw4)
        have hw5 := hx5.size
        clear hx5 hq1 hq2 hq3
        go_wp2_with fail
        refine RD.out.mono ?_
        rintro e w6 ⟨part', hl', hd', hv', rfl, hownU6, hg6⟩
        rw [hvv] at hv' ⊢
        have hownQ6 := World.ownsRow.kept hownQ5 hg6 (.inr (by simp [Value.ownBlock]; omega))
        have hvr6 := hvr5.grown (fun _ x hx => by cases hx; exact hV4) hg6
        have hx7 : Below w2.heap.size w2 w6 := hx6.grown hg6 (by omega) (fun k hk => by injection hk with hk; omega)
        have hw6 := hg6.size
        have hdq : val part / V < 4294967296 := (Nat.div_lt_iff_lt_mul hVpos).2 hplt
        have STEP := long_step hpre hpart hl' hVn hVpos INV.out hd' hv'
        obtain ⟨dq, DQ⟩ : ∃ x, Hid (val part / V = x) := ⟨_, rfl⟩
        rw [DQ.out] at hdq STEP ⊢
        have hcq : w6.cell? ⟨w3.heap.size, k, none⟩ = some (.int .u32 0) := by
          rw [World.ownsRow.cellAt hownQ6 k (by omega)]
          exact enc_zero k qs
        have hfq := World.ownsRow.frozenAt hownQ6 k
        obtain ⟨hownQ7, _⟩ := World.ownsRow.stored hownQ6 k (.int .u32 (dq : Int))
        rw [enc_put] at hownQ7
        have hs7 := grownBy_setCell w6 ⟨w3.heap.size, k, none⟩ (.int .u32 (dq : Int))
        have hownU7 := World.ownsRow.kept hownU6 hs7 (.inr (by simp [Value.ownBlock]; omega))
        have hvr7 := hvr6.grown (fun _ x hx => by cases hx; exact Nat.ne_of_lt hv3) hs7
        have hx8 : Below w2.heap.size w2 (w6.setCell ⟨w3.heap.size, k, none⟩ (.int .u32 (dq : Int))) := hx7.setCell (by show w2.heap.size ≤ w3.heap.size; exact HX3.out.size) _
        have A1 := Lib.hid hownU7
        have A2 := Lib.hid hownQ7
        have A3 := Lib.hid hvr7
        have A4 := Lib.hid hx8
        have A5 := Lib.hid STEP
        clear hownU6 hownU7 hownQ6 hownQ7 hownQ5 hvr5 hvr6 hvr7 hx6 hx7 hx8 hs7 hg6 STEP
        go_wp2
        refine ⟨⟨k, pre ++ (part' ++ post), dq :: qs, rfl, by simp; omega, ?_, A5.out, A1.out, A2.out, A3.out, A4.out⟩, by simp [intOf]⟩
        rw [← hul, List.length_append, List.length_append, List.length_append, List.length_append, hl', hpart]

/-- num.divide at all numbers of up to 64 digits. -/
theorem divOn_all : DivOn 64 := by
  intro x y px py lx cx ly cy W hx hy h1 h2 tx ty h3 h4 h5
  by_cases hlt : val x < val y
  · exact num_divide_less x y px py lx cx ly cy W hx hy h1 h2 tx ty hlt
  · by_cases h6 : y.length = 1
    · exact num_divide_small x y px py lx cx ly cy W hx hy h1 h2 tx ty (by omega) h6
    · exact num_divide_long x y px py lx cx ly cy (y.length - 2) W hx hy h1 h2 tx ty (by omega) (by omega) (by omega)
end Go.Proofs.YtghgggaimijcaaaDoor
