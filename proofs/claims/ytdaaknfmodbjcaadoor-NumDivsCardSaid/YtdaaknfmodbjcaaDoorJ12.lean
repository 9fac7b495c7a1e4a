/- Contract: num.Text. | XRegion's rule in the body of a range over a function (a round's frame, at the wide fence). -/
import Derived.Test.YtdaaknfmodbjcaaDoorJ11
import Derived.Test.YtdaaknfmodbjcaaDoorJ07
import Derived.OrdersIn
import Derived.RangeFuncNested
import Derived.RangeFuncBound
import Derived.RangeFuncCalls
import Derived.RangeFuncLeaves
import Derived.OwnWalkIn
import Derived.TacticsInMore
import Derived.LoopNIn
import Derived.LoopIn
set_option linter.unusedVariables false
set_option linter.unusedSimpArgs false

namespace Go.Proofs.YtdaaknfmodbjcaaDoor
open Go.RowKit
open Go.Lib (decDigits decDigits_length nDigits)

theorem own_parts {w : World} {B e : Nat} {v : Value} {L : List (List UInt8)} (h : w.ownsRow B e 1 v L.length (L.map encT)) (h0 : 0 < L.length) :
    ∃ g cap, v = .slice (some ⟨g, 0, none⟩) L.length cap ∧ B ≤ g ∧ g < w.heap.size ∧ L.length ≤ cap ∧ (∀ j x, L[j]? = some x → w.cell? ⟨g, j, none⟩ = some (encT x)) ∧ (∀ j, w.frozen? ⟨g, j, none⟩ = false) := by
  have h' := h
  obtain ⟨hl, ⟨hv, hn⟩ | ⟨g, cap, cur, hv, hB, hg, h1, h2, h3, h4⟩⟩ := h
  · omega
  · subst hv
    have hcell := h'.cellAt
    have hfr := h'.frozenAt
    refine ⟨g, cap, rfl, hB, ?_, h1, ?_, ?_⟩
    · exact (Array.getElem?_eq_some_iff.1 hg).1
    · intro j x hx
      have hj := (List.getElem?_eq_some_iff.1 hx).1
      rw [hcell j (by omega), List.getElem?_map, hx]
      rfl
    · intro j
      exact hfr j
theorem ownsRow_extT {w w' : World} {B e size : Nat} {v : Value} {n : Nat} {xs : List Value} (h : w.ownsRow B e size v n xs) (hx : Ext w w') : w'.ownsRow B e size v n xs := by
  refine ⟨h.1, ?_⟩
  rcases h.2 with h | ⟨g, cap, cur, h1, h2, h3, h4⟩
  · exact .inl h
  · exact .inr ⟨g, cap, cur, h1, h2, by rw [hx.block g (Array.getElem?_eq_some_iff.1 h3).1]; exact h3, h4⟩
theorem Row.grownO {w w' : World} {p : Option Addr} {c : Nat} {d : List Nat} {row : Option Nat} (h : Row w p c d) (hn : ∀ k, row = some k → ∀ x, p = some x → x.block ≠ k) (hg : w.grownBy w' row) : Row w' p c d := by
  refine ⟨h.1, h.2.1, h.2.2.1, fun h0 => ?_⟩
  obtain ⟨b, o, hp, hlt, hc⟩ := h.2.2.2 h0
  refine ⟨b, o, hp, Nat.lt_of_lt_of_le hlt hg.size, fun i hi => ?_⟩
  rw [← hc i hi]
  refine World.cell?_of_block (hg.block b hlt (fun e => ?_))
  exact hn b e.symm _ hp rfl
theorem own_zero {w : World} {B e : Nat} {v : Value} {L : List (List UInt8)} (h : w.ownsRow B e 1 v L.length (L.map encT)) (h0 : L.length = 0) : ∃ q c, v = .slice q 0 c := by
  obtain ⟨_, ⟨hv, _⟩ | ⟨g, cap, cur, hv, _⟩⟩ := h
  · exact ⟨none, 0, hv⟩
  · rw [h0] at hv; exact ⟨_, _, hv⟩
theorem dec_pos (n : Nat) : 0 < (decDigits n).length := by
  rw [decDigits_length]; exact Lib.nDigits_pos n

set_option maxRecDepth 100000 in
set_option maxHeartbeats 4000000 in
theorem num_Text (a : Nm) (na : Bool) (pa : Option Addr) (la ca : Nat) (w : World) (ha : NR w na pa la ca a) (ht : Tab w) :
    Calls Tryd.prog 16 #[.agg #[.bool na, .slice pa la ca]] w fun e w' => e = .returned (.string (bytesT (textL a))) ∧ Ext w w' := by
  have RA := Lib.hid (fun w' (hx : Ext w w') => num_Right a na pa la ca w' (ha.ext hx))
  cases ra : a.right with
  | false =>
    rw [ra] at RA
    have hT : textL a = [] := by unfold textL; rw [ra]; rfl
    rw [hT]
    clear ha hT ht
    go_enter Tryd.func16, Tryd.ntmps16
    go_wp2_with fail
    refine (RA.out _ (by (repeat (first | exact Below.refl _ _ | assumption | refine Below.drewN ?_ _ | refine Below.drew ?_ | refine Below.setCell ?_ (by first | exact Nat.le_refl _ | (simp; done) | (simp; omega) | omega) _ | refine Below.alloc ?_ (by first | exact Nat.le_refl _ | (simp; done) | (simp; omega) | omega) _)))).mono ?_
    rintro e w1 ⟨rfl, hx⟩
    have hx0 : Ext w w1 := Ext.step (by (repeat (first | exact Below.refl _ _ | assumption | refine Below.drewN ?_ _ | refine Below.drew ?_ | refine Below.setCell ?_ (by first | exact Nat.le_refl _ | (simp; done) | (simp; omega) | omega) _ | refine Below.alloc ?_ (by first | exact Nat.le_refl _ | (simp; done) | (simp; omega) | omega) _))) hx
    go_wp2
    go_ret
    exact ⟨rfl, hx0⟩
  | true =>
    rw [ra] at RA
    have hneg := ha.1
    have hT : textL a = if na then 45 :: decDigits (val a.d) else decDigits (val a.d) := by unfold textL; rw [ra, hneg]; rfl
    have TA := (a.right_iff.1 ra).2.1
    have L64 := (a.right_iff.1 ra).1
    have hn0 : val a.d = 0 → na = false := by
      intro h
      rw [hneg]
      refine (a.right_iff.1 ra).2.2 ?_
      rcases Nat.eq_zero_or_pos a.d.length with g | g
      · exact List.eq_nil_of_length_eq_zero g
      · have := tight_pos TA g; omega
    obtain rfl : la = a.d.length := ha.2.1
    have hrow := ha.2.2
    have INV0 := Lib.hid (TextInv.start hrow.dig TA L64)
    have HT := Lib.hid hT
    have HN0 := Lib.hid hn0
    have HTAB := Lib.hid ht
    have HROW := Lib.hid hrow
    obtain ⟨n, N⟩ : ∃ n, Hid (val a.d = n) := ⟨_, rfl⟩
    rw [N.out] at HT HN0 INV0
    clear hT hn0 ht hneg ha hrow ra
    obtain ⟨i, hi, hz0, hz1, hz2⟩ := info_partsS infoS
    go_enter Tryd.func16, Tryd.ntmps16
    go_wp2_with fail
    refine (RA.out _ (by (repeat (first | exact Below.refl _ _ | assumption | refine Below.drewN ?_ _ | refine Below.drew ?_ | refine Below.setCell ?_ (by first | exact Nat.le_refl _ | (simp; done) | (simp; omega) | omega) _ | refine Below.alloc ?_ (by first | exact Nat.le_refl _ | (simp; done) | (simp; omega) | omega) _)))).mono ?_
    rintro e w1 ⟨rfl, hx⟩
    have hx0 : Ext w w1 := Ext.step (by (repeat (first | exact Below.refl _ _ | assumption | refine Below.drewN ?_ _ | refine Below.drew ?_ | refine Below.setCell ?_ (by first | exact Nat.le_refl _ | (simp; done) | (simp; omega) | omega) _ | refine Below.alloc ?_ (by first | exact Nat.le_refl _ | (simp; done) | (simp; omega) | omega) _))) hx
    have hz_w1 : w.heap.size + 1 ≤ w1.heap.size := Nat.le_trans (by first | omega | (simp; done) | (simp; omega)) hx.size
    have hl_w1_0 : w.heap.size < w1.heap.size := Nat.lt_of_lt_of_le (by omega) hz_w1
    have hk_w1_0 : ∀ o, w1.cell? ⟨w.heap.size, o, none⟩ = _ := fun o => hx.cell (p := ⟨w.heap.size, o, none⟩) (show w.heap.size < _ from (by first | omega | (simp; done) | (simp; omega)))
    have hf_w1_0 : ∀ o, w1.frozen? ⟨w.heap.size, o, none⟩ = _ := fun o => hx.frozen (p := ⟨w.heap.size, o, none⟩) (show w.heap.size < _ from (by first | omega | (simp; done) | (simp; omega)))
    have HX0 := Lib.hid hx0
    go_wp2_with fail
    clear RA hx0
    go_loopw [3, 4] (fun ps d wr => ∃ (L : List (List UInt8)) (dd : List Nat) (p : Option Addr) (c : Nat), d = .slice p dd.length c ∧ Row wr p c dd ∧ TextInv n dd L ∧ wr.ownsRow w1.heap.size 9 1 ps L.length (L.map encT) ∧ Ext w1 wr) (fun _ d wr => rowVal wr d)
    case atStart => exact ⟨[], a.d, pa, ca, rfl, HROW.out.ext HX0.out, INV0.out, World.ownsRow_nil _ _ _ _, Below.refl _ _⟩
    case round =>
      obtain ⟨L, dd, p, c, rfl, hr, hinv, hown, hxr⟩ := hrel
      have INV := Lib.hid hinv
      have hlen := hinv.len
      by_cases h0 : dd.length = 0
      · obtain rfl : dd = [] := List.eq_nil_of_length_eq_zero h0
        have HXR := Lib.hid (Ext.step HX0.out hxr)
        have hz_wr : w.heap.size + 1 ≤ wr.heap.size := Nat.le_trans (by first | omega | (simp; done) | (simp; omega)) hxr.size
        have hl_wr_0 : w.heap.size < wr.heap.size := Nat.lt_of_lt_of_le (by omega) hz_wr
        have hk_wr_0 : ∀ o, wr.cell? ⟨w.heap.size, o, none⟩ = _ := fun o => hxr.cell (p := ⟨w.heap.size, o, none⟩) (show w.heap.size < _ from (by first | omega | (simp; done) | (simp; omega)))
        have hf_wr_0 : ∀ o, wr.frozen? ⟨w.heap.size, o, none⟩ = _ := fun o => hxr.frozen (p := ⟨w.heap.size, o, none⟩) (show w.heap.size < _ from (by first | omega | (simp; done) | (simp; omega)))
        by_cases hL : L.length = 0
        · -- the number is 0
          have hnz : n = 0 := by
            rcases INV.out.parts with h | ⟨h1, h2⟩
            · exact h.1
            · exfalso
              have h3 := parts_done h2
              rw [List.eq_nil_of_length_eq_zero hL] at h3
              have h4 := dec_pos n
              rw [← h3] at h4
              simp at h4
          have hna := HN0.out hnz
          obtain ⟨q, c', rfl⟩ := own_zero hown hL
          have HT0 := Lib.hid (show textL a = [48] by rw [HT.out, hna, hnz, if_neg (by simp), Lib.decDigits_one (by omega)]; rfl)
          clear HT HN0 INV hr hown hinv hna hxr
          go_wp2
          go_ret
          rw [HT0.out]
          exact ⟨rfl, HXR.out⟩
        · obtain ⟨g, cap, rfl, hBg, hgw, hcap, hcell, hfr⟩ := own_parts hown (by omega)
          have hnz : 0 < n := by
            rcases INV.out.parts with h | ⟨h1, h2⟩
            · rw [h.2.2] at hL; simp at hL
            · exact h1
          have hflat : L.reverse.flatten = decDigits n := by
            rcases INV.out.parts with h | ⟨h1, h2⟩
            · omega
            · exact parts_done h2
          have e0 : ((L.length : Int) == 0) = false := by rw [beq_eq_false_iff_ne]; omega
          have hfl : L.reverse.flatten.length ≤ 100000 := by
            have := flatten_len (L := L.reverse) (fun l hl => INV.out.nine l (List.mem_reverse.1 hl))
            rw [List.length_reverse] at this
            omega
          have RV := Lib.hid (fun W (hc : ∀ j x, L[j]? = some x → W.cell? ⟨g, j, none⟩ = some (encT x)) (hf : ∀ j, W.frozen? ⟨g, j, none⟩ = false) => reverseC g cap w1.heap.size L W hc hf hBg hlen)
          have JN := Lib.hid (fun W (hc : ∀ j x, L.reverse[j]? = some x → W.cell? ⟨g, j, none⟩ = some (encT x)) (hg : g < W.heap.size) => joinC g cap L.reverse W hc hg (by rw [List.length_reverse]; omega) (by rw [List.length_reverse]; omega) hfl)
          rw [List.length_reverse, hflat] at JN
          have hsn : (bytesT (decDigits n)).size ≤ 100000 := by rw [bytesT_size, ← hflat]; exact hfl
          obtain ⟨sn, SN⟩ : ∃ s, Hid (bytesT (decDigits n) = s) := ⟨_, rfl⟩
          rw [SN.out] at JN hsn
          have hbw : w.heap.size + 1 ≤ w1.heap.size := hz_w1
          have HC := Lib.hid hcell
          have HF := Lib.hid hfr
          obtain ⟨m, M⟩ : ∃ m, Hid (L.length = m) := ⟨_, rfl⟩
          rw [M.out] at e0 RV JN hlen hcap ⊢
          clear hcell hfr hown hflat hfl hr INV hinv hL
          go_wp2_with fail
          refine (RV.out _ HC.out HF.out).mono ?_
          rintro e w2 ⟨rfl, hc2, hb2⟩
          have HC2 := Lib.hid hc2
          have hx2 : Ext w w2 := HXR.out.trans (hb2.mono (by omega))
          have kb : w2.cell? ⟨w.heap.size, 0, none⟩ = some (.bool na) := (hb2.cell (p := ⟨w.heap.size, 0, none⟩) (by show w.heap.size < _; omega)).trans (by go_simp)
          have hgw2 : g < w2.heap.size := Nat.lt_of_lt_of_le hgw hb2.size
          clear hc2 hb2
          cases na
          · go_wp2_with fail
            refine (JN.out _ HC2.out hgw2).mono ?_
            rintro e w3 ⟨rfl, hx3⟩
            go_wp2
            go_ret
            rw [HT.out, ← SN.out]
            exact ⟨rfl, Ext.step hx2 hx3⟩
          · go_wp2_with fail
            refine (JN.out _ HC2.out hgw2).mono ?_
            rintro e w3 ⟨rfl, hx3⟩
            go_wp2
            go_ret
            rw [HT.out, ← SN.out]
            refine ⟨?_, Ext.step hx2 hx3⟩
            exact congrArg (fun s => Ending.returned (.string s)) (bytesT_add [45] (decDigits n))
      · -- nine more digits
        have hpos : 0 < dd.length := by omega
        have hv0 : 0 < val dd := tight_pos hinv.tight hpos
        have SH := Lib.hid (num_short dd p dd.length c 1000000000 wr hr rfl (by omega) (by omega) (by have := hinv.le; omega))
        have RV := Lib.hid (rowVal_eq hr)
        have hroom := hinv.room hv0
        have hrl := nDigits_nine (Nat.mod_lt (val dd) (show 0 < 1000000000 by omega))
        have hqle := digs_le hr.dig hinv.tight (Nat.div_le_self (val dd) 1000000000)
        have h64 := hinv.le
        have hmod := Nat.mod_lt (val dd) (show 0 < 1000000000 by omega)
        obtain ⟨v, V⟩ : ∃ v, Hid (val dd = v) := ⟨_, rfl⟩
        obtain ⟨m, M⟩ : ∃ m, Hid (dd.length = m) := ⟨_, rfl⟩
        obtain ⟨r, R⟩ : ∃ r, Hid (v % 1000000000 = r) := ⟨_, rfl⟩
        obtain ⟨q, Q⟩ : ∃ q, Hid (v / 1000000000 = q) := ⟨_, rfl⟩
        rw [V.out, R.out] at hrl
        rw [V.out, R.out] at hmod
        rw [V.out] at hv0
        rw [V.out, Q.out] at hqle
        rw [V.out, Q.out, R.out, M.out] at SH
        rw [M.out, V.out] at RV
        have IT := Lib.hid (fun W (hx : Ext w W) => itoaC r (by omega) W (HTAB.out.ext hx))
        have RP := Lib.hid (fun W => repeatC (9 - nDigits r) (by omega) W)
        have DL := Lib.hid (decDigits_length r)
        have HXR := Lib.hid (Ext.step HX0.out hxr)
        have NX := Lib.hid (fun (d' : List Nat) (l : List UInt8) => INV.out.next (d' := d') (l := l) (by rw [V.out]; exact hv0))
        rw [V.out, Q.out, R.out] at NX
        rw [M.out] at hpos ⊢
        clear h0 hr hinv INV
        by_cases hq : 0 < q
        · have hql : 0 < (digs q).length := List.length_pos_iff.2 (fun h => by have := digs_eq_nil.1 h; omega)
          obtain ⟨ql, QL⟩ : ∃ ql, Hid ((digs q).length = ql) := ⟨_, rfl⟩
          have SZ : (bytesT (decDigits r)).size = nDigits r := (bytesT_size _).trans DL.out
          have SZ0 : (bytesT (List.replicate (9 - nDigits r) 48)).size = 9 - nDigits r := (bytesT_size _).trans List.length_replicate
          obtain ⟨s, S⟩ : ∃ s, Hid (bytesT (decDigits r) = s) := ⟨_, rfl⟩
          obtain ⟨nd, ND⟩ : ∃ nd, Hid (nDigits r = nd) := ⟨_, rfl⟩
          rw [S.out, ND.out] at SZ
          rw [ND.out] at RP hrl SZ0
          obtain ⟨s0, S0⟩ : ∃ s, Hid (bytesT (List.replicate (9 - nd) 48) = s) := ⟨_, rfl⟩
          rw [S0.out] at SZ0 RP
          have e9 : (9 : Int) - (nd : Int) = ((9 - nd : Nat) : Int) := by omega
          have hlo := hown.lt
          have OWN := Lib.hid hown
          clear hown
          go_wp2_with fail
          refine SH.out.mono ?_
          rintro e w2 ⟨p2, c2, rfl, hr2, hnew2, hx2⟩
          have hx3 : Ext w w2 := Ext.step HXR.out hx2
          have hx13 : Ext w1 w2 := Ext.step hxr hx2
          have hown2 := ownsRow_extT OWN.out hx2
          have HNEW := Lib.hid (fun k hk x (hx : p2 = some x) => Nat.ne_of_gt (Nat.lt_of_lt_of_le (hlo k hk).2 (hnew2 x hx)))
          clear hnew2 hlo
          rw [QL.out] at hql ⊢
          go_wp2_with fail
          refine (IT.out _ hx3).mono ?_
          rintro e w3 ⟨rfl, hx4⟩
          have hx14 : Ext w1 w3 := Ext.step hx13 hx4
          have hr3 := hr2.ext hx4
          have hown3 := ownsRow_extT hown2 hx4
          rw [S.out]
          go_wp2_with fail
          refine (RP.out _).mono ?_
          rintro e w4 ⟨rfl, hx5⟩
          have hx15 : Ext w1 w4 := Ext.step hx14 hx5
          have hr4 := hr3.ext hx5
          have hown := ownsRow_extT hown3 hx5
          have hxs := hx15.size
          clear hr2 hr3 hown2 hown3
          go_wp2_with (at_builtin; refine wpList_append_own _ rfl _ _ 56 rfl w1.heap.size 9 i (.string ⟨#[]⟩) 1 16 Tryd.underlying56 hi hz0 hz1 hz2 rfl (by decide) _ _ _ rfl (hown.alloc _) ⟨w4.heap.size, 0, none⟩ 1 1 [.string (s0 ++ s)] rfl rfl (str_news _ _) (by intro u hu; simp at hu; subst hu; rfl) (by unfold maxLen; omega) (by omega) (by simp; omega) ?_)
          intro v' w5 hown' hgr _
          have hown6 : w5.ownsRow w1.heap.size 9 1 v' (L.length + 1) (L.map encT ++ [.string (s0 ++ s)]) := hown'
          have es : L.map encT ++ [.string (s0 ++ s)] = (L ++ [List.replicate (9 - nd) 48 ++ decDigits r]).map encT := by
            rw [List.map_append, ← S0.out, ← S.out, bytesT_add]; rfl
          rw [es] at hown6
          have hl := hown.lt
          have hx6 : Ext w1 w5 := (hx15.alloc hx15.size _).grown hgr (by simp; omega) (fun k hk => (hl k hk).1)
          have hrow6 : Row w5 p2 c2 (digs q) := Row.grownO (hr4.ext (by (repeat (first | exact Below.refl _ _ | assumption | refine Below.drewN ?_ _ | refine Below.drew ?_ | refine Below.setCell ?_ (by first | exact Nat.le_refl _ | (simp; done) | (simp; omega) | omega) _ | refine Below.alloc ?_ (by first | exact Nat.le_refl _ | (simp; done) | (simp; omega) | omega) _)))) HNEW.out hgr
          have OWN6 := Lib.hid hown6
          have ROW6 := Lib.hid hrow6
          have RV2 := Lib.hid (rowVal_eq hrow6)
          rw [val_digs, QL.out] at RV2
          have NXT := Lib.hid (NX.out (digs q) (List.replicate (9 - nd) 48 ++ decDigits r) (tight_digs _) (by omega) (val_digs q) (by rw [if_pos hq, ND.out]))
          have hlen2 : (L ++ [List.replicate (9 - nd) 48 ++ decDigits r]).length = L.length + 1 := by rw [List.length_append]; rfl
          have X6 := Lib.hid hx6
          have hqv : q < v := by have := Q.out; omega
          clear hown hown' hown6 hgr hl hr4 hx6 hrow6 es
          go_wp2
          refine ⟨⟨L ++ [List.replicate (9 - nd) 48 ++ decDigits r], digs q, p2, c2, by rw [QL.out], ROW6.out, NXT.out, by rw [hlen2]; exact OWN6.out, X6.out⟩, ?_⟩
          rw [RV2.out, RV.out]
          exact hqv
        · have hq0 : q = 0 := by omega
          have QL : Hid ((digs q).length = 0) := by rw [hq0, digs_zero]; rfl
          obtain ⟨ql, hql⟩ : ∃ ql : Nat, ql = 0 := ⟨0, rfl⟩
          have SZ : (bytesT (decDigits r)).size = nDigits r := (bytesT_size _).trans DL.out
          obtain ⟨s, S⟩ : ∃ s, Hid (bytesT (decDigits r) = s) := ⟨_, rfl⟩
          obtain ⟨nd, ND⟩ : ∃ nd, Hid (nDigits r = nd) := ⟨_, rfl⟩
          rw [S.out, ND.out] at SZ
          have hlo := hown.lt
          have OWN := Lib.hid hown
          clear hown
          go_wp2_with fail
          refine SH.out.mono ?_
          rintro e w2 ⟨p2, c2, rfl, hr2, hnew2, hx2⟩
          have hx3 : Ext w w2 := Ext.step HXR.out hx2
          have hx13 : Ext w1 w2 := Ext.step hxr hx2
          have hown2 := ownsRow_extT OWN.out hx2
          have HNEW := Lib.hid (fun k hk x (hx : p2 = some x) => Nat.ne_of_gt (Nat.lt_of_lt_of_le (hlo k hk).2 (hnew2 x hx)))
          clear hnew2 hlo
          rw [QL.out]
          go_wp2_with fail
          refine (IT.out _ hx3).mono ?_
          rintro e w3 ⟨rfl, hx4⟩
          have hx15 : Ext w1 w3 := Ext.step hx13 hx4
          have hr4 := hr2.ext hx4
          have hown := ownsRow_extT hown2 hx4
          rw [S.out]
          have hxs := hx15.size
          clear hr2 hown2
          go_wp2_with (at_builtin; refine wpList_append_own _ rfl _ _ 56 rfl w1.heap.size 9 i (.string ⟨#[]⟩) 1 16 Tryd.underlying56 hi hz0 hz1 hz2 rfl (by decide) _ _ _ rfl (hown.alloc _) ⟨w3.heap.size, 0, none⟩ 1 1 [.string (s)] rfl rfl (str_news _ _) (by intro u hu; simp at hu; subst hu; rfl) (by unfold maxLen; omega) (by omega) (by simp; omega) ?_)
          intro v' w5 hown' hgr _
          have hown6 : w5.ownsRow w1.heap.size 9 1 v' (L.length + 1) (L.map encT ++ [.string (s)]) := hown'
          have es : L.map encT ++ [.string (s)] = (L ++ [decDigits r]).map encT := by
            rw [List.map_append, ← S.out]; rfl
          rw [es] at hown6
          have hl := hown.lt
          have hx6 : Ext w1 w5 := (hx15.alloc hx15.size _).grown hgr (by simp; omega) (fun k hk => (hl k hk).1)
          have hrow6 : Row w5 p2 c2 (digs q) := Row.grownO (hr4.ext (by (repeat (first | exact Below.refl _ _ | assumption | refine Below.drewN ?_ _ | refine Below.drew ?_ | refine Below.setCell ?_ (by first | exact Nat.le_refl _ | (simp; done) | (simp; omega) | omega) _ | refine Below.alloc ?_ (by first | exact Nat.le_refl _ | (simp; done) | (simp; omega) | omega) _)))) HNEW.out hgr
          have OWN6 := Lib.hid hown6
          have ROW6 := Lib.hid hrow6
          have RV2 := Lib.hid (rowVal_eq hrow6)
          rw [val_digs, QL.out] at RV2
          have NXT := Lib.hid (NX.out (digs q) (decDigits r) (tight_digs _) (by omega) (val_digs q) (by rw [if_neg hq]))
          have hlen2 : (L ++ [decDigits r]).length = L.length + 1 := by rw [List.length_append]; rfl
          have X6 := Lib.hid hx6
          have hqv : q < v := by have := Q.out; omega
          clear hown hown' hown6 hgr hl hr4 hx6 hrow6 es
          go_wp2
          refine ⟨⟨L ++ [decDigits r], digs q, p2, c2, by rw [QL.out], ROW6.out, NXT.out, by rw [hlen2]; exact OWN6.out, X6.out⟩, ?_⟩
          rw [RV2.out, RV.out]
          exact hqv
end Go.Proofs.YtdaaknfmodbjcaaDoor

namespace Go.Proofs.YtdaaknfmodbjcaaDoor
open Go.RowKit

def noDeferB (ops : Array Oper) : Bool := ops.toList.all fun o => match o.op with | .defer _ => false | _ => true
section
variable {P : Program} {ops : Array Oper} {S : World → Prop}
theorem noDefer_spec (h : noDeferB ops = true) {i : Nat} {o : Oper} (ho : ops[i]? = some o) : ∀ c, o.op ≠ .defer c := by
  intro c e
  have hm : o ∈ ops.toList := by
    obtain ⟨hlt, rfl⟩ := Array.getElem?_eq_some_iff.1 ho
    simp
  have := List.all_eq_true.1 h o hm
  simp [e] at this
theorem Gives.wpIn {o : Oper} {a : Act} {w : World} {R : Value → World → Prop} {K : Act → World → Prop} {Q : Exit → Act → World → Prop} {r m : Nat}
    (h : Gives P o a w R) (hnd : ∀ c, o.op ≠ .defer c) (hk : ∀ v w', R v w' → K (a.put o.dst v) w') : o.wpIn (Fence.wide.inRound r) m P a w K Q := by
  refine ⟨fun _ _ => trivial, ?_⟩
  rw [Oper.semAt_eq _ _ _ hnd]
  unfold Gives at h
  generalize (execOp a.eval o).run P w = x at *
  cases x with
  | ok n w' =>
    cases n <;> simp only [givesU] at h <;> simp only [Oper.uponIn]
    case value u => exact hk _ _ h
    case skip => exact hk _ _ h
    case enter f args =>
      refine ⟨fun hd => by simp [Fence.wide] at hd, ?_⟩
      exact (CallsIn.inRound r (callsIn_wide.2 h)).mono fun e w'' ⟨v, he, hr⟩ => by subst he; exact hk _ _ hr
  | halt x w' => simp only [givesU] at h
theorem wpAnyIn_of_F {Q : Exit → Act → World → Prop} {r m : Nat} (hB : floatB ops = true) (hD : noDeferB ops = true) : ∀ (n : Nat) (zs : List (Nat × Oper)) (listed : Array Bool) (a : Act) (own : List Nat) (F : World → Prop) (w : World), zs.length = n → LeftF ops listed zs → Closed ops listed →
    InvF S own F → F w → WpF P ops S (fun a w => Q .normal a w) (zs.map (·.2)) a own F → wpAnyIn (Fence.wide.inRound r) m P .any ops Q n listed a w := by
  have hB' := hB
  simp only [floatB, Bool.and_eq_true, List.all_eq_true, List.mem_range, decide_eq_true_eq] at hB'
  obtain ⟨hsel, hall⟩ := hB'
  intro n
  induction n with
  | zero =>
    intro zs listed a own F w hn hl hc hi hw h
    have : zs = [] := List.eq_nil_of_length_eq_zero hn
    subst this
    refine ⟨?_, h w hw⟩
    rw [List.eq_nil_iff_forall_not_mem]
    intro i hr
    have h1 := mem_ready.1 hr
    obtain ⟨hu, o, ho, _⟩ := h1
    have := (hl.mem i (Array.getElem?_eq_some_iff.1 ho).1).1 hu
    simp at this
  | succ n ih =>
    intro zs listed a own F w hn hl hc hi hw h
    have hget (i : Nat) (hlt : i < ops.size) (hu : ¬ listed.getD i true = false) : listed.getD i false = true := by
      have hlt' : i < listed.size := by rw [hl.size]; exact hlt
      simp [hlt'] at hu ⊢
      exact hu
    refine ⟨fun h0 => ?_, fun i hr => ?_⟩
    · exfalso
      obtain ⟨⟨i, o⟩, rest, rfl⟩ : ∃ z rest, zs = z :: rest := by
        cases zs with
        | nil => simp at hn
        | cons z rest => exact ⟨z, rest, rfl⟩
      have ho := hl.here (i, o) (by simp)
      have hlt : i < ops.size := (Array.getElem?_eq_some_iff.1 ho).1
      have hr : i ∈ Region.ready .any ops listed := by
        refine mem_ready.2 ⟨(hl.mem i hlt).2 (by simp), o, ho, fun e he hb => ?_⟩
        have hd : e.on ∈ depsOf ops i := (mem_depsOf ho).2 ⟨e, he, hb, rfl⟩
        have hei := (hall i hlt).1 _ hd
        refine hget _ (by omega) fun hu => ?_
        have hm := (hl.mem e.on (by omega)).1 hu
        simp only [List.map_cons, List.mem_cons] at hm
        rcases hm with hm | hm
        · omega
        · obtain ⟨p, hp, he'⟩ := List.mem_map.1 hm
          have := (List.pairwise_cons.1 hl.sorted).1 p hp
          simp at this
          omega
      rw [h0] at hr
      cases hr
    · obtain ⟨hu, o, ho, _⟩ := mem_ready.1 hr
      have hlt : i < ops.size := (Array.getElem?_eq_some_iff.1 ho).1
      have hm := (hl.mem i hlt).1 hu
      obtain ⟨⟨i', o'⟩, hp, hei⟩ := List.mem_map.1 hm
      simp only at hei
      subst hei
      have ho' := hl.here _ hp
      simp only at ho'
      rw [ho] at ho'
      simp only [Option.some.injEq] at ho'
      subst ho'
      obtain ⟨pre, post, rfl⟩ := List.append_of_mem hp
      have hpre : ∀ k ∈ pre.map (·.2), Apart ops k o ∧ Before k o := by
        intro k hk
        obtain ⟨⟨j, k'⟩, hj, rfl⟩ := List.mem_map.1 hk
        have hji : j < i' := ((List.pairwise_append.1 hl.sorted).2.2) _ hj (i', o) (List.mem_cons_self ..)
        have hjk := hl.here (j, k') (by simp [hj])
        simp only at hjk
        have hju : listed.getD j true = false := (hl.mem j (by omega)).2 (by simp only [List.map_append, List.mem_append, List.mem_map]; exact .inl ⟨_, hj, rfl⟩)
        have hno (f : Nat) : reach ops f i' j = false := by
          cases hx : reach ops f i' j with
          | false => rfl
          | true =>
            have h1 := reach_listed hc f i' j (ready_deps hr) hx
            have hlt' : j < listed.size := by rw [hl.size]; omega
            simp [hlt'] at h1 hju
            rw [h1] at hju
            cases hju
        have hpair := (hall i' hlt).2 j hji
        simp only [pairB, ho, hjk, hno, Bool.or_false, Bool.false_or, Bool.and_eq_true] at hpair
        obtain ⟨hbe, hap⟩ := hpair
        obtain ⟨a1, a2, a3⟩ := Oper.apart_spec hap
        refine ⟨⟨a1, a3, a2, fun cs b => Region.noSelect_spec hsel j k' cs b hjk, fun cs b => Region.noSelect_spec hsel i' o cs b ho⟩, ?_⟩
        simp only [beforeB, Bool.or_eq_true, beq_iff_eq, Bool.and_eq_true, bne_iff_ne] at hbe
        rcases hbe with (hbe | hbe) | hbe
        · exact .inl hbe
        · exact .inr (.inl hbe)
        · exact .inr (.inr hbe)
      have hst := pull (post := post.map (·.2)) hpre hi (by simpa using h)
      have hlen : (pre ++ post).length = n := by simp at hn ⊢; omega
      have next {a' : Act} {own' : List Nat} {F' : World → Prop} {w' : World} (hi' : InvF S own' F') (hw' : F' w') (h' : WpF P ops S (fun a w => Q .normal a w) (pre.map (·.2) ++ post.map (·.2)) a' own' F') : wpAnyIn (Fence.wide.inRound r) m P .any ops Q n (listed.setIfInBounds i' true) a' w' :=
        ih (pre ++ post) _ a' own' F' w' hlen hl.take (hc.set hr) hi' hw' (by simpa using h')
      have hnd : ∀ c, o.op ≠ .defer c := noDefer_spec hD ho
      cases hst with
      | pure v hy h =>
        unfold wpOpIn
        simp only [ho]
        rcases hy with ⟨hwant, hv⟩ | ⟨hwant, rfl⟩
        · rw [if_pos hwant]
          refine ⟨fun _ _ => trivial, ?_⟩
          rw [Oper.semAt_eq _ _ _ hnd, hv w (hi.held w hw)]
          exact next hi hw h
        · rw [if_neg (by rw [hwant]; exact Bool.false_ne_true)]
          exact ⟨fun _ _ => trivial, next hi hw h⟩
      | flo hk hwant obj hrun h =>
        unfold wpOpIn
        simp only [ho, hwant, if_true]
        refine ⟨fun _ _ => trivial, ?_⟩
        rw [Oper.semAt_eq _ _ _ hnd, hrun w (hi.held w hw)]
        have hs : ∃ w' : World, F w' ∧ w'.heap[w.heap.size]? = some obj := ⟨{ w with heap := w.heap.push obj }, hi.mono _ _ hw (below_push w obj), by simp⟩
        exact next (hi.flo obj _ hs) ⟨hi.mono _ _ hw (below_push w obj), by simp⟩ (h _ (fun hx => Nat.lt_irrefl _ (hi.own w hw _ hx)) hs)
      | eff hk hwant I sh T hm' hg h =>
        unfold wpOpIn
        simp only [ho, hwant, if_true]
        refine (hg w hw).wpIn hnd ?_
        rintro v w' ⟨t, rfl, hb, ht⟩
        have hs : ∃ w, F w ∧ T t w := ⟨w', hi.mono _ _ hw hb, ht⟩
        exact next (hi.eff (hm' t) hs) ⟨hi.mono _ _ hw hb, ht⟩ (h t hs)
      | sto hk hwant I sh T hm' hs hg h =>
        unfold wpOpIn
        simp only [ho, hwant, if_true]
        refine (hg w hw).wpIn hnd ?_
        rintro v w' ⟨t, rfl, hb, ht⟩
        have hx : T t w' ∧ ∀ g ∈ own, g < w'.heap.size := ⟨ht, fun g hg => Nat.lt_of_lt_of_le (hi.own w hw g hg) hb⟩
        exact next (InvF.sto (hm' t) (hs t) ⟨w', hx⟩) hx (h t ⟨w', hx⟩)
end

theorem wpIn_region_FC {P : Program} {id r m : Nat} {l : List Oper} {Q : Exit → Act → World → Prop} {a : Act} {w : World} (C : World → Prop) (hm : P.follows .mixedOrders = true) (hB : floatB l.toArray = true) (hD : noDeferB l.toArray = true) (hC : C w)
    (hmono : ∀ W W', C W → Below w.heap.size w W → Below W.heap.size W W' → C W')
    (h : WpF P l.toArray (fun W => Below w.heap.size w W ∧ C W) (fun a w => Q .normal a w) l a (List.range w.heap.size) (fun W => Below w.heap.size w W ∧ C W)) : (Code.region id l.toArray true).wpIn (Fence.wide.inRound r) m P Q a w := by
  refine wpIn_region_any hm ?_
  have hd : Below w.heap.size w { w with drawn := w.drawn + 1 } := ⟨rfl, rfl, rfl, Nat.le_refl _, fun _ _ => rfl⟩
  have hmono' : FMono (fun W => Below w.heap.size w W ∧ C W) := fun W W' h hb => ⟨h.1.trans (hb.mono h.1.size), hmono W W' h.2 h.1 hb⟩
  have hlen : (l.zipIdx.map fun p => (p.2, p.1)).length = l.toArray.size := by simp
  have hw0 := hmono' w _ ⟨Below.refl _ _, hC⟩ hd
  refine wpAnyIn_of_F (S := fun W => Below w.heap.size w W ∧ C W) hB hD _ (l.zipIdx.map fun p => (p.2, p.1)) _ a (List.range w.heap.size) _ _ hlen ⟨by simp, ?_, ?_, ?_⟩ ?_ ⟨hmono', fun _ h => h, fun W h g hg => Nat.lt_of_lt_of_le (List.mem_range.1 hg) h.1.size, ⟨_, hw0⟩⟩ hw0 ?_
  · intro p hp
    obtain ⟨⟨o, i⟩, hx, rfl⟩ := List.mem_map.1 hp
    have := List.mem_zipIdx' hx
    simp [this.1, this.2]
  · intro i hi
    have hi' : i < l.length := by simpa using hi
    simp only [List.map_map]
    constructor
    · intro _
      refine List.mem_map.2 ⟨(l[i], i), ?_, rfl⟩
      rw [List.mem_zipIdx_iff_getElem?]
      simp [hi']
    · intro _
      simp [hi']
  · rw [List.pairwise_map, List.pairwise_iff_getElem]
    intro i j hi hj hij
    simpa using hij
  · intro j hj
    rcases Nat.lt_or_ge j l.length with h' | h' <;> simp [h'] at hj
  · have : (l.zipIdx.map fun p => (p.2, p.1)).map (·.2) = l := by simp [List.map_map, Function.comp_def, List.zipIdx_map_fst]
    rw [this]
    exact h
end Go.Proofs.YtdaaknfmodbjcaaDoor
