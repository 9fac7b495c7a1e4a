/- Plain: the decimal digits of a number, one at a time; trimmed digits are a part of the digits. | Contract: etchantref01.Text. | Plain: division bit by bit. -/
import Derived.Test.YtdaaknfmodbjcaaDoorJ12
import Derived.Test.YtdaaknfmodbjcaaDoorJ20
import Derived.Test.YtdaaknfmodbjcaaDoorJ19
import Derived.Test.YtdaaknfmodbjcaaDoorJ13
import Derived.StillTailTactics
import Derived.Deep.DeepCutAuto
import Derived.Great.BuildSlice
import Derived.Laws.IdiomStrings
set_option linter.unusedVariables false
set_option linter.unusedSimpArgs false

namespace Go.Proofs.YtdaaknfmodbjcaaDoor
open Go.RowKit
open Go.Lib (decDigits decDigits_one decDigits_length nDigits)

/-- What printing a digit at a time keeps: v is still to be printed, out is printed. -/
def RInv (n v : Nat) (out : List UInt8) : Prop := v * 2 ^ out.length ≤ n ∧ ((v = 0 ∧ out = decDigits n) ∨ (0 < v ∧ decDigits n = decDigits v ++ out))
theorem rinv_start {n : Nat} (h : 0 < n) : RInv n n [] := ⟨by simp, .inr ⟨h, by simp⟩⟩
theorem rinv_step {n v : Nat} {out : List UInt8} (h : RInv n v out) (h0 : 0 < v) : RInv n (v / 10) (UInt8.ofNat (48 + v % 10) :: out) := by
  obtain ⟨h1, h2⟩ := h
  have h3 : decDigits n = decDigits v ++ out := by
    rcases h2 with h2 | h2
    · omega
    · exact h2.2
  constructor
  · rw [List.length_cons, Nat.pow_succ, Nat.mul_comm (2 ^ out.length) 2, ← Nat.mul_assoc]
    exact Nat.le_trans (Nat.mul_le_mul_right _ (by omega)) h1
  · by_cases h10 : v < 10
    · left
      refine ⟨by omega, ?_⟩
      rw [h3, decDigits_one h10, Nat.mod_eq_of_lt h10]
      rfl
    · right
      refine ⟨by omega, ?_⟩
      rw [h3, decDigits_more h10, List.append_assoc]
      rfl
theorem pow_eR (k : Nat) {E : Nat} (h : 32 * k = E) : (4294967296 : Nat) ^ k = 2 ^ E := by
  subst h
  rw [Nat.pow_mul]
theorem rinv_room {n v : Nat} {out : List UInt8} (h : RInv n v out) (h0 : 0 < v) (hn : n < 4294967296 ^ 64) : out.length < 2048 := by
  rcases Nat.lt_or_ge out.length 2048 with g | g
  · exact g
  · exfalso
    have h1 := h.1
    obtain ⟨E, hE⟩ : ∃ E, 32 * 64 = E := ⟨_, rfl⟩
    have h2 : 2 ^ E ≤ 2 ^ out.length := Nat.pow_le_pow_right (by decide) (by omega)
    have h3 : 1 * 2 ^ out.length ≤ v * 2 ^ out.length := Nat.mul_le_mul_right _ h0
    have h4 : (4294967296 : Nat) ^ 64 = 2 ^ E := pow_eR 64 hE
    rw [h4] at hn
    generalize 2 ^ E = T at hn h2
    omega
theorem rinv_end {n : Nat} {out : List UInt8} (h : RInv n 0 out) : out = decDigits n := by
  rcases h.2 with h | h
  · exact h.2
  · omega
theorem rinv_less {n v : Nat} {out : List UInt8} (h : RInv n v out) (h0 : 0 < v) : out.length < (decDigits n).length := by
  rcases h.2 with h | h
  · omega
  · have := dec_pos v
    rw [h.2, List.length_append]
    omega
theorem take_snoc {d : List Nat} {j : Nat} (h : j < d.length) : d.take (j + 1) = d.take j ++ [d[j]?.getD 0] := by
  rw [List.take_add_one, List.getElem?_eq_getElem h]
  rfl
theorem trim_pre : ∀ (k : Nat) (d : List Nat), d.length = k → Dig d → ∃ r, d = trim d ++ r
  | 0, d, h, _ => by
    rw [List.eq_nil_of_length_eq_zero h]
    exact ⟨[], by rw [List.append_nil, trim_tight Dig.nil Tight.nil]⟩
  | k + 1, d, h, hd => by
    have hne : d ≠ [] := by intro e; rw [e] at h; cases h
    by_cases hl : d.getLast hne = 0
    · have e : d.dropLast ++ [0] = d := by
        have := List.dropLast_concat_getLast hne
        rw [hl] at this
        exact this
      have hd' : Dig d.dropLast := fun x hx => hd x (by rw [← e]; exact List.mem_append_left _ hx)
      obtain ⟨r, hr⟩ := trim_pre k d.dropLast (by rw [List.length_dropLast, h]; rfl) hd'
      refine ⟨r ++ [0], ?_⟩
      rw [← List.append_assoc]
      have e2 : trim d = trim d.dropLast := by rw [← e, trim_snoc_zero, List.dropLast_append_of_ne_nil (by simp)]; simp
      rw [e2, ← hr]
      exact e.symm
    · refine ⟨[], ?_⟩
      rw [List.append_nil]
      refine (trim_tight hd ?_).symm
      intro _
      exact hl
def strLen : Value → Nat
  | .string b => b.size
  | _ => 0
theorem conv_one (x : UInt8) (c : Nat) (hc : x.toNat = c) (b : Nat) (W : World) (h : W.cell? ⟨b, 0, none⟩ = some (.int .u8 (c : Int))) : Sem.run Tryd.prog (convert 40 9 (.slice (some ⟨b, 0, none⟩) 1 1)) W = .ok (.string (bytesT [x])) W := by
  refine run_convert_bytes_back W 40 9 5 ⟨b, 0, none⟩ 1 [x] Tryd.underlying40 Tryd.underlying5 Tryd.underlying9 (fun j hj => ?_)
  simp only [List.length_cons, List.length_nil] at hj
  obtain rfl : j = 0 := by omega
  rw [add_none, h]
  subst hc
  rfl
end Go.Proofs.YtdaaknfmodbjcaaDoor

namespace Go.Proofs.YtdaaknfmodbjcaaDoor
open Go.RowKit
open Go.Lib (decDigits decDigits_length nDigits)

theorem tdiv10 (d : Nat) : Int.tdiv (d : Int) 10 = ((d / 10 : Nat) : Int) := tdiv_nat d 10
theorem tmod10 (d : Nat) : Int.tmod (d : Int) 10 = ((d % 10 : Nat) : Int) := tmod_nat d 10
attribute [local go_sem] tdiv10 tmod10

set_option maxRecDepth 100000 in
set_option maxHeartbeats 4000000 in
theorem r01_Text (a : Nm) (na : Bool) (pa : Option Addr) (la ca : Nat) (w : World) (ha : NR w na pa la ca a) :
    Calls Tryd.prog 17 #[.agg #[.bool na, .slice pa la ca]] w fun e w' => e = .returned (.string (bytesT (textL a))) ∧ Ext w w' := by
  have RA := Lib.hid (fun w' (hx : Ext w w') => r01_Right a na pa la ca w' (ha.ext hx))
  cases ra : a.right with
  | false =>
    rw [ra] at RA
    have hT : textL a = [] := by unfold textL; rw [ra]; rfl
    rw [hT]
    clear ha hT
    go_enter Tryd.func17, Tryd.ntmps17
    go_wp2_with fail
    refine (RA.out _ (by (repeat (first | exact Below.refl _ _ | assumption | refine Below.drewN ?_ _ | refine Below.drew ?_ | refine Below.setCell ?_ (by first | exact Nat.le_refl _ | (simp; done) | (simp; omega) | omega) _ | refine Below.alloc ?_ (by first | exact Nat.le_refl _ | (simp; done) | (simp; omega) | omega) _)))).mono ?_
    rintro e w1 ⟨rfl, hx⟩
    have hx0 : Ext w w1 := Ext.step (by (repeat (first | exact Below.refl _ _ | assumption | refine Below.drewN ?_ _ | refine Below.drew ?_ | refine Below.setCell ?_ (by first | exact Nat.le_refl _ | (simp; done) | (simp; omega) | omega) _ | refine Below.alloc ?_ (by first | exact Nat.le_refl _ | (simp; done) | (simp; omega) | omega) _))) hx
    go_wp2
    go_ret
    exact ⟨rfl, hx0⟩
  | true =>
    rw [ra] at RA
    have hneg := ha.1
    have hT : textL a = if na then 45 :: decDigits (val a.d) else decDigits (val a.d) := by unfold textL; rw [ra, hneg]; rfl
    have TA := (a.right_iff.1 ra).2.1
    have L64 := (a.right_iff.1 ra).1
    have hn0 : a.d.length = 0 → na = false := fun h => by
      rw [hneg]
      exact (a.right_iff.1 ra).2.2 (List.eq_nil_of_length_eq_zero h)
    obtain rfl : la = a.d.length := ha.2.1
    have hrow := ha.2.2
    have HT := Lib.hid hT
    have HROW := Lib.hid hrow
    have hla := hrow.le
    have hma := hrow.max
    clear hT hneg ha ra
    obtain ⟨i, hi, hz0, hz1, hz2⟩ := info_parts info32
    go_enter Tryd.func17, Tryd.ntmps17
    go_wp2_with fail
    refine (RA.out _ (by (repeat (first | exact Below.refl _ _ | assumption | refine Below.drewN ?_ _ | refine Below.drew ?_ | refine Below.setCell ?_ (by first | exact Nat.le_refl _ | (simp; done) | (simp; omega) | omega) _ | refine Below.alloc ?_ (by first | exact Nat.le_refl _ | (simp; done) | (simp; omega) | omega) _)))).mono ?_
    rintro e w1 ⟨rfl, hx⟩
    have hx0 : Ext w w1 := Ext.step (by (repeat (first | exact Below.refl _ _ | assumption | refine Below.drewN ?_ _ | refine Below.drew ?_ | refine Below.setCell ?_ (by first | exact Nat.le_refl _ | (simp; done) | (simp; omega) | omega) _ | refine Below.alloc ?_ (by first | exact Nat.le_refl _ | (simp; done) | (simp; omega) | omega) _))) hx
    have hz_w1 : w.heap.size + 1 ≤ w1.heap.size := Nat.le_trans (by first | omega | (simp; done) | (simp; omega)) hx.size
    have hl_w1_0 : w.heap.size < w1.heap.size := Nat.lt_of_lt_of_le (by omega) hz_w1
    have hk_w1_0 : ∀ o, w1.cell? ⟨w.heap.size, o, none⟩ = _ := fun o => hx.cell (p := ⟨w.heap.size, o, none⟩) (show w.heap.size < _ from (by first | omega | (simp; done) | (simp; omega)))
    have hf_w1_0 : ∀ o, w1.frozen? ⟨w.heap.size, o, none⟩ = _ := fun o => hx.frozen (p := ⟨w.heap.size, o, none⟩) (show w.heap.size < _ from (by first | omega | (simp; done) | (simp; omega)))
    clear RA
    by_cases h0 : a.d.length = 0
    · have hna := hn0 h0
      have HT0 := Lib.hid (show textL a = [48] by rw [HT.out, hna, if_neg (by simp), List.eq_nil_of_length_eq_zero h0, val_nil, Lib.decDigits_one (by omega)]; rfl)
      have e0 : ((a.d.length : Int) == 0) = true := by rw [beq_iff_eq]; omega
      clear hrow hla hma
      go_wp2
      go_ret
      rw [HT0.out]
      exact ⟨rfl, hx0⟩
    · have hpos : 0 < a.d.length := by omega
      have e0 : ((a.d.length : Int) == 0) = false := by rw [beq_eq_false_iff_ne]; omega
      have VA := tight_pos TA hpos
      have LT := Lib.hid (Nat.lt_of_lt_of_le (val_lt hrow.dig) (Nat.pow_le_pow_right (show 0 < 4294967296 by omega) L64))
      obtain ⟨n, N⟩ : ∃ n, Hid (val a.d = n) := ⟨_, rfl⟩
      obtain ⟨b, o, rfl, hb, hc⟩ := (hrow.ext hx0).at hpos
      have Hc := Lib.hid hc
      have INV0 := Lib.hid (rinv_start VA)
      have DA := Lib.hid hrow.dig
      have HTA := Lib.hid TA
      rw [N.out] at HT INV0 LT
      clear hc hrow VA TA hn0
      obtain ⟨M, HM⟩ : ∃ m, Hid (a.d.length = m) := ⟨_, rfl⟩
      have hM : M ≤ 64 := by rw [← HM.out]; exact L64
      have hx1 := Lib.hid hx0
      go_wp2_with (at_builtin; refine wpList_append_own _ rfl _ _ 24 rfl w1.heap.size 48 i (.int .u32 0) 1 4 Tryd.underlying24 hi hz0 hz1 hz2 rfl (by decide) _ _ _ rfl (World.ownsRow_made w1 #[] 0 (Nat.le_refl _) (by decide) rfl) ⟨b, o, none⟩ a.d.length ca (enc a.d) rfl (by simp [enc]) ?c2 (enc_one a.d) ?c3 ?c4 ?c5 ?_)
      case c2 => exact row_news (fun i hi => (cell_later ((Below.refl _ _).alloc (Nat.le_refl _) _) (Hc.out i hi)))
      case c3 => unfold maxLen; omega
      case c4 => omega
      case c5 => simp
      intro v' w2 hown hgr _
      have hown2 : w2.ownsRow w1.heap.size 48 1 v' a.d.length (enc a.d) := by simpa using hown
      have hx2 : Ext w1 w2 := ((Below.refl _ _).alloc (Nat.le_refl _) _).grown hgr (by simp) (fun k hk => by simp [Value.ownBlock] at hk; omega)
      obtain ⟨g, cg, rfl, hBg, hcg1, hcg2⟩ : ∃ g cg, v' = .slice (some ⟨g, 0, none⟩) a.d.length cg ∧ w1.heap.size ≤ g ∧ a.d.length ≤ cg ∧ cg ≤ 9223372036854775807 := by
        rcases hown2.2 with ⟨_, h⟩ | ⟨g, cap, cur, h1, h2, h3, h4, h5, _⟩
        · omega
        · exact ⟨g, cap, h1, h2, h4, by unfold maxLen at h5; omega⟩
      rw [HM.out] at hown2 hcg1
      have OWN0 := Lib.hid (show w2.ownsRow w1.heap.size 48 1 (.slice (some ⟨g, 0, none⟩) M cg) M (enc (a.d ++ [])) by rw [List.append_nil]; exact hown2)
      have HX2 := Lib.hid hx2
      clear hown hown2 hgr hx2 Hc hb
      go_wp2_with fail
      go_loopw [3, 4] (fun d s wr => ∃ (dd z : List Nat) (out : List UInt8), d = .slice (some ⟨g, 0, none⟩) dd.length cg ∧ s = .string (bytesT out) ∧ wr.ownsRow w1.heap.size 48 1 (.slice (some ⟨g, 0, none⟩) M cg) M (enc (dd ++ z)) ∧ Dig dd ∧ Tight dd ∧ dd.length ≤ M ∧ RInv n (val dd) out ∧ out.length ≤ 2048 ∧ Ext w1 wr) (fun _ s _ => (decDigits n).length - strLen s)
      case atStart => exact ⟨a.d, [], [], rfl, rfl, OWN0.out, DA.out, HTA.out, Nat.le_of_eq HM.out, by rw [N.out]; exact INV0.out, Nat.zero_le _, HX2.out⟩
      case round =>
        clear OWN0 INV0 DA HTA
        obtain ⟨dd, z, out, rfl, rfl, hown, hdig, htight, hlen, hinv, hol0, hxr⟩ := hrel
        by_cases hd0 : dd.length = 0
        · -- all is printed
          obtain rfl : dd = [] := List.eq_nil_of_length_eq_zero hd0
          have HE := Lib.hid (rinv_end hinv)
          have hx3 : Ext w wr := Ext.step hx1.out hxr
          have hz_wr : w.heap.size + 1 ≤ wr.heap.size := Nat.le_trans (by first | omega | (simp; done) | (simp; omega)) hxr.size
          have hl_wr_0 : w.heap.size < wr.heap.size := Nat.lt_of_lt_of_le (by omega) hz_wr
          have hk_wr_0 : ∀ o, wr.cell? ⟨w.heap.size, o, none⟩ = _ := fun o => hxr.cell (p := ⟨w.heap.size, o, none⟩) (show w.heap.size < _ from (by first | omega | (simp; done) | (simp; omega)))
          have hf_wr_0 : ∀ o, wr.frozen? ⟨w.heap.size, o, none⟩ = _ := fun o => hxr.frozen (p := ⟨w.heap.size, o, none⟩) (show w.heap.size < _ from (by first | omega | (simp; done) | (simp; omega)))
          have SZ : (bytesT out).size ≤ 100000 := by rw [bytesT_size]; omega
          obtain ⟨sO, SO⟩ : ∃ s, Hid (bytesT out = s) := ⟨_, rfl⟩
          rw [SO.out] at SZ ⊢
          clear hown hinv hdig htight
          cases na with
          | false =>
            go_wp2
            go_ret
            rw [show textL a = decDigits n by rw [HT.out]; simp, ← HE.out, ← SO.out]
            exact ⟨rfl, hx3⟩
          | true =>
            go_wp2
            go_ret
            rw [show textL a = 45 :: decDigits n by rw [HT.out]; simp, ← HE.out]
            refine ⟨?_, hx3⟩
            rw [← SO.out]
            exact congrArg (fun s => Ending.returned (.string s)) (bytesT_add [45] out)
        · have hdp : 0 < dd.length := by omega
          have VP := tight_pos htight hdp
          have RM := rinv_room hinv VP LT.out
          have LS := Lib.hid (rinv_less hinv VP)
          have STEP := Lib.hid (rinv_step hinv VP)
          have DD := Lib.hid hdig
          have OWN := Lib.hid hown
          have HXR := Lib.hid hxr
          clear hinv hdig htight hown hxr VP
          go_wp2_with fail
          go_loopw [5, 6] (fun rs is wr2 => ∃ (k s : Nat) (o' : List Nat), ShortInv dd 10 k o' s ∧ is = .int .i64 ((k : Int) - 1) ∧ rs = .int .u64 (s : Int) ∧ wr2.ownsRow w1.heap.size 48 1 (.slice (some ⟨g, 0, none⟩) M cg) M (enc (dd.take k ++ (o' ++ z))) ∧ Ext w1 wr2) (fun _ is _ => (intOf is + 1).toNat)
          case atStart => exact ⟨dd.length, 0, [], ⟨Dig.nil, by simp, by omega, by rw [List.drop_eq_nil_of_le (Nat.le_refl _)]; simp [val]⟩, rfl, rfl, by rw [List.take_of_length_le (Nat.le_refl _)]; exact OWN.out, HXR.out⟩
          case round =>
            rename World => w7
            clear OWN HXR
            obtain ⟨k, s, o', hinv, rfl, rfl, hown, hx2⟩ := hrel
            have INV := Lib.hid hinv
            have hk := hinv.2.1
            have hs := hinv.2.2.1
            clear hinv
            cases k with
            | zero =>
              have e : (((0 : Nat) : Int) - 1) = -1 := by omega
              rw [e]
              clear e
              have hv : val o' * 10 + s = val dd := by
                have := INV.out.2.2.2
                rw [List.drop_zero] at this
                exact this.symm
              have hq : val o' = val dd / 10 := by omega
              have hr : s = val dd % 10 := by omega
              rw [List.take_zero, List.nil_append] at hown
              have hol : o'.length = dd.length := by have := INV.out.2.1; omega
              have hrow := own_part (pre := []) (part := o') (cap := cg) hown INV.out.1 (by omega) hcg2
              have TR := Lib.hid (r01_trim o' (some ⟨g, 0, none⟩) dd.length cg w7 hrow hol.symm)
              obtain ⟨r, HR⟩ := trim_pre o'.length o' rfl INV.out.1
              have hTL : (trim o').length ≤ o'.length := by rw [HR, List.length_append, ← HR]; omega
              have OWN := Lib.hid (show w7.ownsRow w1.heap.size 48 1 (.slice (some ⟨g, 0, none⟩) M cg) M (enc (trim o' ++ (r ++ z))) by rw [← List.append_assoc, ← HR]; exact hown)
              have HX := Lib.hid hx2
              have DT := Lib.hid (show Dig (trim o') from dig_digs _)
              have ST := STEP.out
              rw [← hr, ← hq] at ST
              have VT := Lib.hid (val_trim o')
              rw [← VT.out] at ST
              have STP := Lib.hid ST
              obtain ⟨cd, CD⟩ : ∃ cd : Nat, 48 + s = cd := ⟨_, rfl⟩
              have hcd : cd < 58 := by omega
              have CB := conv_one (UInt8.ofNat (48 + s)) cd (by rw [CD]; simp; omega)
              rw [CD] at CB STP
              have e1 : (48 : Int) + (s : Int) = (cd : Int) := by omega
              have e2 : IntKind.u8.wrap (cd : Int) = (cd : Int) := IntWalk.u8_in _ (by omega)
              have e3 : IntKind.u64.wrap (cd : Int) = (cd : Int) := by rw [u64w]; omega
              have SZ0 : (bytesT out).size ≤ 100000 := by rw [bytesT_size]; omega
              have SZ1 : (bytesT [UInt8.ofNat cd]).size = 1 := bytesT_size _
              have WX := Lib.hid (show bytesT [UInt8.ofNat cd] ++ bytesT out = bytesT (UInt8.ofNat cd :: out) from bytesT_add [_] out)
              have BS := Lib.hid (bytesT_size out)
              obtain ⟨sO, SO⟩ : ∃ s, Hid (bytesT out = s) := ⟨_, rfl⟩
              obtain ⟨sD, SD⟩ : ∃ s, Hid (bytesT [UInt8.ofNat cd] = s) := ⟨_, rfl⟩
              rw [SO.out] at SZ0 WX BS ⊢
              rw [SD.out] at CB SZ1 WX
              have hTL2 : (trim o').length ≤ dd.length := by omega
              clear CD INV hown hv hq hr hrow hx2 STEP ST HR hTL hol
              go_wp2_with fail
              refine TR.out.mono ?_
              rintro e w6 ⟨rfl, hr6, hx6⟩
              have hx7 : Ext w1 w6 := Ext.step HX.out hx6
              have OWN6 := Lib.hid (ownsRow_extT OWN.out hx6)
              clear hr6 hx6 OWN HX
              go_wp2
              have hls := LS.out
              refine ⟨⟨trim o', r ++ z, UInt8.ofNat cd :: out, rfl, by rw [WX.out], ownsRow_extT OWN6.out (by (repeat (first | exact Below.refl _ _ | assumption | refine Below.drewN ?_ _ | refine Below.drew ?_ | refine Below.setCell ?_ (by first | exact Nat.le_refl _ | (simp; done) | (simp; omega) | omega) _ | refine Below.alloc ?_ (by first | exact Nat.le_refl _ | (simp; done) | (simp; omega) | omega) _))), DT.out, tight_digs _, by omega, STP.out, by rw [List.length_cons]; omega, hx7.alloc hx7.size _⟩, ?_⟩
              rw [WX.out]
              show _ - (bytesT _).size < _ - (bytesT _).size
              rw [bytesT_size, bytesT_size, List.length_cons]
              omega
            | succ j =>
              have e : (((j + 1 : Nat) : Int) - 1) = (j : Int) := by omega
              rw [e]
              clear e
              have hj : j < dd.length := by omega
              obtain ⟨SSTEP, hq⟩ := short_step (b := 10) DD.out (by omega) hj INV.out
              rw [take_snoc hj] at hown
              have hxd := DD.out.getD j
              rw [List.getD_eq_getElem?_getD] at hxd
              obtain ⟨x, X⟩ : ∃ x, Hid (dd[j]?.getD 0 = x) := ⟨_, rfl⟩
              rw [X.out] at SSTEP hq hxd hown
              rw [List.append_assoc, List.singleton_append] at hown
              have hlj : j = ([] : List Nat).length + (dd.take j).length := by rw [List.length_take]; simp; omega
              have hown' : w7.ownsRow w1.heap.size 48 1 (.slice (some ⟨g, 0, none⟩) M cg) M (enc ([] ++ (dd.take j ++ x :: (o' ++ z)))) := hown
              have hcx := own_at (i := j) hown' hlj
              have hfx := hown.frozenAt j
              obtain ⟨m, MM⟩ : ∃ m, Hid (s * 4294967296 + x = m) := ⟨_, rfl⟩
              rw [MM.out] at SSTEP hq
              have hm : m < 18446744073709551616 := by have := MM.out; omega
              have M0 : IntKind.u64.wrap ((s : Int) * 4294967296) = (s : Int) * 4294967296 := by rw [u64w]; omega
              have M1 : (s : Int) * 4294967296 + (x : Int) = (m : Int) := by have := MM.out; omega
              have M2 : IntKind.u64.wrap (m : Int) = (m : Int) := by rw [u64w]; omega
              obtain ⟨q, Q⟩ : ∃ q, Hid (m / 10 = q) := ⟨_, rfl⟩
              obtain ⟨r, R⟩ : ∃ r, Hid (m % 10 = r) := ⟨_, rfl⟩
              have DV : (m : Int) / 10 = (q : Int) := by have := Q.out; omega
              have MD : (m : Int) % 10 = (r : Int) := by have := R.out; omega
              rw [Q.out] at SSTEP hq
              rw [R.out] at SSTEP
              have hown3 := own_put (i := j) hown' hlj q
              have OWN3 := Lib.hid (show (w7.setCell ⟨g, j, none⟩ (.int .u32 (q : Int))).ownsRow w1.heap.size 48 1 (.slice (some ⟨g, 0, none⟩) M cg) M (enc (dd.take j ++ ((q :: o') ++ z))) by rw [List.nil_append, List.append_assoc] at hown3; exact hown3)
              have X3 := Lib.hid (Below.setCell hx2 hBg (.int .u32 (q : Int)) : Ext w1 (w7.setCell ⟨g, j, none⟩ (.int .u32 (q : Int))))
              have SS := Lib.hid SSTEP
              have hI1 : (j : Int) < (dd.length : Int) := by omega
              clear hown hown' hown3 SSTEP INV STEP hx2 hlj
              go_wp2
              exact ⟨⟨j, r, q :: o', SS.out, rfl, rfl, OWN3.out, X3.out⟩, by simp [intOf]⟩
end Go.Proofs.YtdaaknfmodbjcaaDoor

namespace Go.Proofs.YtdaaknfmodbjcaaDoor

theorem digit_at {d : List Nat} (hd : Dig d) (j : Nat) : d[j]?.getD 0 = val d / 4294967296 ^ j % 4294967296 := by
  have hp : 0 < 4294967296 ^ j := Nat.pow_pos (by omega)
  by_cases h : j < d.length
  · have h1 := val_take_drop d j (by omega)
    have h2 := val_lt (hd.take j)
    rw [List.length_take, Nat.min_eq_left (by omega)] at h2
    rw [h1, Nat.add_comm, Nat.mul_add_div hp, Nat.div_eq_of_lt h2, Nat.add_zero, List.drop_eq_getElem_cons h, val_cons, Nat.add_mul_mod_self_left, List.getElem?_eq_getElem h, Option.getD_some, Nat.mod_eq_of_lt (hd.get j h)]
  · have h1 := val_lt hd
    have h2 : 4294967296 ^ d.length ≤ 4294967296 ^ j := Nat.pow_le_pow_right (by omega) (by omega)
    rw [List.getElem?_eq_none (by omega), Nat.div_eq_of_lt (by omega)]
    rfl
/-- A bit of a number, out of its digit. -/
theorem bit_at {d : List Nat} (hd : Dig d) (k : Nat) : d[k / 32]?.getD 0 / 2 ^ (k % 32) % 2 = val d / 2 ^ k % 2 := by
  rw [digit_at hd]
  have e : (4294967296 : Nat) ^ (k / 32) = 2 ^ (32 * (k / 32)) := by rw [show (4294967296 : Nat) = 2 ^ 32 from rfl, ← Nat.pow_mul]
  have hi : k % 32 < 32 := Nat.mod_lt _ (by omega)
  have hB : (4294967296 : Nat) = 2 ^ (k % 32) * 2 ^ (32 - k % 32) := by rw [← Nat.pow_add, show k % 32 + (32 - k % 32) = 32 by omega]
  have h2 : (2 : Nat) ^ (32 - k % 32) = 2 * 2 ^ (32 - k % 32 - 1) := by
    rw [← Nat.pow_succ', show (32 - k % 32 - 1).succ = 32 - k % 32 by omega]
  have hk : (2 : Nat) ^ k = 2 ^ (32 * (k / 32)) * 2 ^ (k % 32) := by rw [← Nat.pow_add, show 32 * (k / 32) + k % 32 = k by omega]
  rw [e, hk, ← Nat.div_div_eq_div_mul]
  generalize val d / 2 ^ (32 * (k / 32)) = t
  conv => lhs; rw [hB]
  rw [Nat.mod_mul_right_div_self, h2, Nat.mod_mul_right_mod]

/-- What division bit by bit keeps: k bits are still to come. -/
structure BitInv (A V k m : Nat) (q : List Nat) (r : Nat) : Prop where
  dig : Dig q
  len : q.length = m
  ex : ∃ Q, val q = Q * 2 ^ k ∧ Q * V + r = A / 2 ^ k
  lt : r < V
theorem bit_half (A k : Nat) : A / 2 ^ k = 2 * (A / 2 ^ (k + 1)) + A / 2 ^ k % 2 := by
  rw [Nat.pow_succ, ← Nat.div_div_eq_div_mul]
  omega
theorem bit_zero {A V k m b : Nat} {q : List Nat} {r : Nat} (h : BitInv A V (k + 1) m q r) (hb : A / 2 ^ k % 2 = b) (hlt : 2 * r + b < V) : BitInv A V k m q (2 * r + b) := by
  obtain ⟨Q, h1, h2⟩ := h.ex
  refine ⟨h.dig, h.len, ⟨2 * Q, by rw [h1, Nat.pow_succ]; grind, ?_⟩, hlt⟩
  rw [bit_half A k, hb, ← h2]
  grind
theorem bit_low {A V k m : Nat} {q : List Nat} {r : Nat} (h : BitInv A V (k + 1) m q r) : ∃ t, q[k / 32]?.getD 0 = 2 ^ (k % 32) * (2 * t) ∧ 2 ^ (k % 32) * (2 * t) + 2 ^ (k % 32) < 4294967296 ∧ 2 ^ (k % 32) * (2 * t) ||| 2 ^ (k % 32) = 2 ^ (k % 32) * (2 * t) + 2 ^ (k % 32) := by
  obtain ⟨Q, h1, h2⟩ := h.ex
  have hi : k % 32 < 32 := Nat.mod_lt _ (by omega)
  have e : (4294967296 : Nat) ^ (k / 32) = 2 ^ (32 * (k / 32)) := by rw [show (4294967296 : Nat) = 2 ^ 32 from rfl, ← Nat.pow_mul]
  have hk : (2 : Nat) ^ (k + 1) = 2 ^ (32 * (k / 32)) * (2 ^ (k % 32) * 2) := by rw [← Nat.pow_succ, ← Nat.pow_add, show 32 * (k / 32) + (k % 32).succ = k + 1 by omega]
  have hd := digit_at h.dig (k / 32)
  have hp : 0 < 2 ^ (32 * (k / 32)) := Nat.pow_pos (by omega)
  have hs : 0 < 2 ^ (k % 32) := Nat.pow_pos (by omega)
  rw [h1, e, hk, show Q * (2 ^ (32 * (k / 32)) * (2 ^ (k % 32) * 2)) = 2 ^ (32 * (k / 32)) * (Q * (2 ^ (k % 32) * 2)) by grind, Nat.mul_div_cancel_left _ hp] at hd
  have hB : (4294967296 : Nat) = 2 ^ (k % 32) * 2 * 2 ^ (31 - k % 32) := by rw [← Nat.pow_succ, ← Nat.pow_add, show (k % 32).succ + (31 - k % 32) = 32 by omega]
  rw [hB, Nat.mul_comm Q, Nat.mul_mod_mul_left] at hd
  have hlt : Q % 2 ^ (31 - k % 32) < 2 ^ (31 - k % 32) := Nat.mod_lt _ (Nat.pow_pos (by omega))
  refine ⟨Q % 2 ^ (31 - k % 32), by rw [hd]; grind, ?_, ?_⟩
  · have h3 : 2 ^ (k % 32) * 2 * (Q % 2 ^ (31 - k % 32) + 1) ≤ 2 ^ (k % 32) * 2 * 2 ^ (31 - k % 32) := Nat.mul_le_mul_left _ hlt
    rw [← hB] at h3
    have e3 : 2 ^ (k % 32) * 2 * (Q % 2 ^ (31 - k % 32) + 1) = 2 ^ (k % 32) * (2 * (Q % 2 ^ (31 - k % 32))) + 2 * 2 ^ (k % 32) := by grind
    omega
  · have := Nat.two_pow_add_eq_or_of_lt (i := k % 32 + 1) (b := 2 ^ (k % 32)) (by rw [Nat.pow_succ]; omega) (Q % 2 ^ (31 - k % 32))
    have e4 : 2 ^ (k % 32 + 1) * (Q % 2 ^ (31 - k % 32)) = 2 ^ (k % 32) * (2 * (Q % 2 ^ (31 - k % 32))) := by rw [Nat.pow_succ]; grind
    rw [e4] at this
    exact this.symm
theorem bit_one {A V k m b x : Nat} {q : List Nat} {r : Nat} (h : BitInv A V (k + 1) m q r) (hb : A / 2 ^ k % 2 = b) (hge : V ≤ 2 * r + b) (hj : k / 32 < m) (hx : q[k / 32]?.getD 0 = x) (hxb : x + 2 ^ (k % 32) < 4294967296) : BitInv A V k m (q.set (k / 32) (x + 2 ^ (k % 32))) (2 * r + b - V) := by
  obtain ⟨Q, h1, h2⟩ := h.ex
  have hb2 : b ≤ 1 := by have := Nat.mod_lt (A / 2 ^ k) (show 0 < 2 by omega); omega
  have hr := h.lt
  have e : (4294967296 : Nat) ^ (k / 32) = 2 ^ (32 * (k / 32)) := by rw [show (4294967296 : Nat) = 2 ^ 32 from rfl, ← Nat.pow_mul]
  have hk : 2 ^ (32 * (k / 32)) * 2 ^ (k % 32) = 2 ^ k := by rw [← Nat.pow_add, show 32 * (k / 32) + k % 32 = k by omega]
  have hs := val_set q (k / 32) (x + 2 ^ (k % 32)) x (by rw [h.len]; exact hj) hx
  refine ⟨h.dig.set _ _ hxb, by rw [List.length_set]; exact h.len, ⟨2 * Q + 1, ?_, ?_⟩, by omega⟩
  · rw [Nat.mul_add, e, hk, h1, Nat.pow_succ] at hs
    have e5 : (2 * Q + 1) * 2 ^ k = Q * (2 ^ k * 2) + 2 ^ k := by grind
    omega
  · rw [bit_half A k, hb, ← h2]
    have e6 : (2 * Q + 1) * V = 2 * (Q * V) + V := by grind
    rw [e6]
    omega
theorem bit_end {A V m : Nat} {q : List Nat} {r : Nat} (hV : 0 < V) (h : BitInv A V 0 m q r) : val q = A / V ∧ r = A % V := by
  obtain ⟨Q, h1, h2⟩ := h.ex
  rw [Nat.pow_zero, Nat.mul_one] at h1
  rw [Nat.pow_zero, Nat.div_one] at h2
  have hlt := h.lt
  rw [h1, ← h2]
  constructor
  · rw [Nat.mul_comm, Nat.mul_add_div hV, Nat.div_eq_of_lt hlt, Nat.add_zero]
  · rw [Nat.mul_comm, Nat.mul_add_mod, Nat.mod_eq_of_lt hlt]
theorem bit_start {A V m n : Nat} (hV : 0 < V) (hA : A < 2 ^ n) : BitInv A V n m (List.replicate m 0) 0 :=
  ⟨fun x hx => by rw [(List.mem_replicate.1 hx).2]; omega, List.length_replicate, ⟨0, by rw [val_replicate, Nat.zero_mul], by rw [Nat.div_eq_of_lt hA, Nat.zero_mul]⟩, hV⟩
end Go.Proofs.YtdaaknfmodbjcaaDoor
