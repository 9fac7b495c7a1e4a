/- Contracts: etchantref01.plus, etchantref01.minus. | Contracts: etchantref01.Add, opposite, Sub, Cmp. -/
import Derived.Test.YtghgggaimijcaaaDoorJ05
set_option linter.unusedVariables false
set_option linter.unusedSimpArgs false

namespace Go.Proofs.YtghgggaimijcaaaDoor
open Go.RowKit

theorem one_news {w : World} (z : Int) (x : Nat) (T : TypeId) (h : z = (x : Int)) :
    ∀ j u, [Value.int .u32 (x : Int)][j]? = some u → (w.alloc (.cells #[.int .u32 z] T)).cell? ((⟨w.heap.size, 0, none⟩ : Addr).add j) = some u := by
  subst h
  intro j u hu
  cases j with
  | zero =>
    simp only [List.getElem?_cons_zero, Option.some.injEq] at hu
    subst hu
    rw [add_none, cell_of_row _ _ _ _ _ _ (heap_alloc_new w _)]
    rfl
  | succ j => simp at hu
theorem enc_snoc (o : List Nat) (x : Nat) : enc o ++ [.int .u32 (x : Int)] = enc (o ++ [x]) := by simp [enc]
theorem enc_len_one (o : List Nat) (x : Nat) : (o ++ [x]).length = o.length + 1 := by simp

/-- A new row of tight digits is returned. -/
def RetDigs (w : World) (n : Nat) (e : Ending) (w' : World) : Prop :=
  ∃ p c, e = .returned (.slice p (digs n).length c) ∧ Row w' p c (digs n) ∧ New w p ∧ Ext w w'

theorem ret_u64 {a b : Int} (h : a = b) : Value.int .u64 a = Value.int .u64 b := by rw [h]
theorem sum_done {a b o : List Nat} (h : sumInv a b o 0) (h1 : a.length ≤ o.length) (h2 : b.length ≤ o.length) : val o = val a + val b := by
  have := h.2.2
  rw [val_take_all a _ h1, val_take_all b _ h2] at this
  omega

set_option maxRecDepth 100000 in
set_option maxHeartbeats 2000000 in
theorem r01_plus (a b : List Nat) (pa pb : Option Addr) (la ca lb kb : Nat) (w : World) (ha : Row w pa ca a) (hb : Row w pb kb b) (hla : la = a.length) (hlb : lb = b.length) (hal : a.length ≤ 1000) (hbl : b.length ≤ 1000) :
    Calls Tryd.prog 83 #[.slice pa la ca, .slice pb lb kb] w (RetDigs w (val a + val b)) := by
  subst hla hlb
  obtain ⟨i, hi, hz0, hz1, hz2⟩ := info_parts info32
  have hac := ha.le
  have ham := ha.max
  have hbc := hb.le
  have hbm := hb.max
  go_enter Tryd.func83, Tryd.ntmps83
  go_wp2
  go_loopw [5, 6, 7] (fun v cr k wr => ∃ (o : List Nat) (s : Nat), o.length ≤ 1001 ∧ k = .int .i64 (o.length : Int) ∧ cr = .int .u64 (s : Int) ∧ sumInv a b o s ∧ (a.length < o.length → b.length < o.length → s = 0) ∧ o.length ≤ max a.length b.length + 1 ∧ wr.ownsRow w.heap.size 67 1 v o.length (enc o) ∧ Ext w wr) (fun _ _ k _ => 1002 - (intOf k).toNat)
  case atStart => exact ⟨[], 0, by simp, rfl, rfl, ⟨Dig.nil, by omega, by simp [val]⟩, by simp, by simp, World.ownsRow_nil _ _ _ _, bxx⟩
  case round =>
    obtain ⟨o, s, ho, rfl, rfl, hinv, hs0, hol, hown, hx⟩ := hrel
    have haw := ha.ext hx
    have hbw := hb.ext hx
    have hx1 := ha.dig.getD o.length
    have hy1 := hb.dig.getD o.length
    have INV2 := Lib.hid (sumInv_step ha.dig hb.dig hinv)
    have hs := hinv.2.1
    rw [List.getD_eq_getElem?_getD] at hx1 hy1
    have INV := Lib.hid hinv
    have S0 := Lib.hid hs0
    clear hinv hs0
    by_cases ka : o.length < a.length
    · by_cases kb : o.length < b.length
      · obtain ⟨ba, oa, rfl, hba, hca⟩ := haw.at (by omega)
        have hca1 := hca _ ka
        obtain ⟨x, X⟩ : ∃ x, Hid (a[o.length]?.getD 0 = x) := ⟨_, rfl⟩
        rw [X.out] at hx1 hca1
        clear hca
        obtain ⟨bb, ob, rfl, hbb, hcb⟩ := hbw.at (by omega)
        have hcb1 := hcb _ kb
        obtain ⟨y, Y⟩ : ∃ y, Hid (b[o.length]?.getD 0 = y) := ⟨_, rfl⟩
        rw [Y.out] at hy1 hcb1
        clear hcb
        go_wp2_with (at_builtin; refine wpList_append_own _ rfl _ _ 23 rfl w.heap.size 67 i (.int .u32 0) 1 4 Tryd.underlying23 hi hz0 hz1 hz2 rfl (by decide) _ _ _ rfl (hown.alloc _) ⟨wr.heap.size, 0, none⟩ 1 1 [.int .u32 (((s + (x + y)) % 4294967296 : Nat) : Int)] rfl rfl (one_news _ _ _ (by omega)) (by intro u hu; simp at hu; subst hu; rfl) (by unfold maxLen; omega) (by omega) (by have := hx.size; simp; omega) ?_)
        intro v' w1 hown' hgr _
        have hown2 : w1.ownsRow w.heap.size 67 1 v' (o.length + 1) (enc o ++ [.int .u32 (((s + (x + y)) % 4294967296 : Nat) : Int)]) := hown'
        rw [enc_snoc] at hown2
        have hl := hown.lt
        have hx2 : Ext w w1 := (hx.alloc hx.size _).grown hgr (by have := hx.size; simp; omega) (fun k hk => (hl k hk).1)
        have OWN := Lib.hid hown2
        clear hown' hown2 hgr hown hl
        go_wp2
        have h := INV2.out
        rw [X.out, Y.out] at h
        exact ⟨⟨o ++ [(s + (x + y)) % 4294967296], (s + (x + y)) / 4294967296, by rw [enc_len_one]; omega, by rw [enc_len_one]; rfl, ret_u64 (by omega), h, by rw [enc_len_one]; intro g1 g2; first | omega | (have := S0.out; omega), by rw [enc_len_one]; omega, by rw [enc_len_one]; exact OWN.out, hx2⟩, by simp [intOf]; omega⟩
      · have kb2 : b.length ≤ o.length := by omega
        obtain ⟨ba, oa, rfl, hba, hca⟩ := haw.at (by omega)
        have hca1 := hca _ ka
        obtain ⟨x, X⟩ : ∃ x, Hid (a[o.length]?.getD 0 = x) := ⟨_, rfl⟩
        rw [X.out] at hx1 hca1
        clear hca
        obtain ⟨y, Y, y0⟩ : ∃ y, Hid (b[o.length]?.getD 0 = y) ∧ Hid (y = 0) := ⟨_, rfl, by rw [List.getElem?_eq_none (by omega)]; rfl⟩
        have hy0 : y ≤ 0 := Nat.le_of_eq y0.out
        clear y0
        go_wp2_with (at_builtin; refine wpList_append_own _ rfl _ _ 23 rfl w.heap.size 67 i (.int .u32 0) 1 4 Tryd.underlying23 hi hz0 hz1 hz2 rfl (by decide) _ _ _ rfl (hown.alloc _) ⟨wr.heap.size, 0, none⟩ 1 1 [.int .u32 (((s + (x + y)) % 4294967296 : Nat) : Int)] rfl rfl (one_news _ _ _ (by omega)) (by intro u hu; simp at hu; subst hu; rfl) (by unfold maxLen; omega) (by omega) (by have := hx.size; simp; omega) ?_)
        intro v' w1 hown' hgr _
        have hown2 : w1.ownsRow w.heap.size 67 1 v' (o.length + 1) (enc o ++ [.int .u32 (((s + (x + y)) % 4294967296 : Nat) : Int)]) := hown'
        rw [enc_snoc] at hown2
        have hl := hown.lt
        have hx2 : Ext w w1 := (hx.alloc hx.size _).grown hgr (by have := hx.size; simp; omega) (fun k hk => (hl k hk).1)
        have OWN := Lib.hid hown2
        clear hown' hown2 hgr hown hl
        go_wp2
        have h := INV2.out
        rw [X.out, Y.out] at h
        exact ⟨⟨o ++ [(s + (x + y)) % 4294967296], (s + (x + y)) / 4294967296, by rw [enc_len_one]; omega, by rw [enc_len_one]; rfl, ret_u64 (by omega), h, by rw [enc_len_one]; intro g1 g2; first | omega | (have := S0.out; omega), by rw [enc_len_one]; omega, by rw [enc_len_one]; exact OWN.out, hx2⟩, by simp [intOf]; omega⟩
    · have ka2 : a.length ≤ o.length := by omega
      by_cases kb : o.length < b.length
      · obtain ⟨x, X, x0⟩ : ∃ x, Hid (a[o.length]?.getD 0 = x) ∧ Hid (x = 0) := ⟨_, rfl, by rw [List.getElem?_eq_none (by omega)]; rfl⟩
        have hx0 : x ≤ 0 := Nat.le_of_eq x0.out
        clear x0
        obtain ⟨bb, ob, rfl, hbb, hcb⟩ := hbw.at (by omega)
        have hcb1 := hcb _ kb
        obtain ⟨y, Y⟩ : ∃ y, Hid (b[o.length]?.getD 0 = y) := ⟨_, rfl⟩
        rw [Y.out] at hy1 hcb1
        clear hcb
        go_wp2_with (at_builtin; refine wpList_append_own _ rfl _ _ 23 rfl w.heap.size 67 i (.int .u32 0) 1 4 Tryd.underlying23 hi hz0 hz1 hz2 rfl (by decide) _ _ _ rfl (hown.alloc _) ⟨wr.heap.size, 0, none⟩ 1 1 [.int .u32 (((s + (x + y)) % 4294967296 : Nat) : Int)] rfl rfl (one_news _ _ _ (by omega)) (by intro u hu; simp at hu; subst hu; rfl) (by unfold maxLen; omega) (by omega) (by have := hx.size; simp; omega) ?_)
        intro v' w1 hown' hgr _
        have hown2 : w1.ownsRow w.heap.size 67 1 v' (o.length + 1) (enc o ++ [.int .u32 (((s + (x + y)) % 4294967296 : Nat) : Int)]) := hown'
        rw [enc_snoc] at hown2
        have hl := hown.lt
        have hx2 : Ext w w1 := (hx.alloc hx.size _).grown hgr (by have := hx.size; simp; omega) (fun k hk => (hl k hk).1)
        have OWN := Lib.hid hown2
        clear hown' hown2 hgr hown hl
        go_wp2
        have h := INV2.out
        rw [X.out, Y.out] at h
        exact ⟨⟨o ++ [(s + (x + y)) % 4294967296], (s + (x + y)) / 4294967296, by rw [enc_len_one]; omega, by rw [enc_len_one]; rfl, ret_u64 (by omega), h, by rw [enc_len_one]; intro g1 g2; first | omega | (have := S0.out; omega), by rw [enc_len_one]; omega, by rw [enc_len_one]; exact OWN.out, hx2⟩, by simp [intOf]; omega⟩
      · have kb2 : b.length ≤ o.length := by omega
        by_cases sz : s = 0
        · subst sz
          have V := Lib.hid (sum_done INV.out ka2 kb2)
          have d0 := INV.out.1
          obtain ⟨p, c, rfl, hrow, hnew⟩ := row_of_owns hown d0
          clear hown haw hbw
          go_wp2_with fail
          refine (r01_trim o _ _ _ _ hrow rfl).mono ?_
          rintro e w1 ⟨rfl, hrow1, hx2⟩
          have hx3 : Ext w w1 := Ext.step hx hx2
          have T : trim o = digs (val a + val b) := by rw [← V.out]; rfl
          go_wp2
          go_ret
          rw [T] at hrow1
          exact ⟨p, c, rfl, hrow1, hnew, hx3⟩
        · have sz2 : 0 < s := by omega
          clear sz
          obtain ⟨x, X, x0⟩ : ∃ x, Hid (a[o.length]?.getD 0 = x) ∧ Hid (x = 0) := ⟨_, rfl, by rw [List.getElem?_eq_none (by omega)]; rfl⟩
          have hx0 : x ≤ 0 := Nat.le_of_eq x0.out
          clear x0
          obtain ⟨y, Y, y0⟩ : ∃ y, Hid (b[o.length]?.getD 0 = y) ∧ Hid (y = 0) := ⟨_, rfl, by rw [List.getElem?_eq_none (by omega)]; rfl⟩
          have hy0 : y ≤ 0 := Nat.le_of_eq y0.out
          clear y0
          have hol2 : o.length ≤ max a.length b.length := by
            rcases Nat.lt_or_ge (max a.length b.length) o.length with g | g
            · have := S0.out (by omega) (by omega); omega
            · exact g
          go_wp2_with (at_builtin; refine wpList_append_own _ rfl _ _ 23 rfl w.heap.size 67 i (.int .u32 0) 1 4 Tryd.underlying23 hi hz0 hz1 hz2 rfl (by decide) _ _ _ rfl (hown.alloc _) ⟨wr.heap.size, 0, none⟩ 1 1 [.int .u32 (((s + (x + y)) % 4294967296 : Nat) : Int)] rfl rfl (one_news _ _ _ (by omega)) (by intro u hu; simp at hu; subst hu; rfl) (by unfold maxLen; omega) (by omega) (by have := hx.size; simp; omega) ?_)
          intro v' w1 hown' hgr _
          have hown2 : w1.ownsRow w.heap.size 67 1 v' (o.length + 1) (enc o ++ [.int .u32 (((s + (x + y)) % 4294967296 : Nat) : Int)]) := hown'
          rw [enc_snoc] at hown2
          have hl := hown.lt
          have hx2 : Ext w w1 := (hx.alloc hx.size _).grown hgr (by have := hx.size; simp; omega) (fun k hk => (hl k hk).1)
          have OWN := Lib.hid hown2
          clear hown' hown2 hgr hown hl
          go_wp2
          have h := INV2.out
          rw [X.out, Y.out] at h
          exact ⟨⟨o ++ [(s + (x + y)) % 4294967296], (s + (x + y)) / 4294967296, by rw [enc_len_one]; omega, by rw [enc_len_one]; rfl, ret_u64 (by omega), h, by rw [enc_len_one]; intro g1 g2; first | omega | (have := S0.out; omega), by rw [enc_len_one]; omega, by rw [enc_len_one]; exact OWN.out, hx2⟩, by simp [intOf]; omega⟩
set_option maxRecDepth 100000 in
set_option maxHeartbeats 2000000 in
theorem r01_minus (a b : List Nat) (pa pb : Option Addr) (la ca lb kb : Nat) (w : World) (ha : Row w pa ca a) (hb : Row w pb kb b) (hla : la = a.length) (hlb : lb = b.length) (hal : a.length ≤ 1000) (hbl : b.length ≤ a.length) (hle : val b ≤ val a) :
    Calls Tryd.prog 82 #[.slice pa la ca, .slice pb lb kb] w (RetDigs w (val a - val b)) := by
  subst hla hlb
  obtain ⟨i, hi, hz0, hz1, hz2⟩ := info_parts info32
  have hac := ha.le
  have ham := ha.max
  have hbc := hb.le
  have hbm := hb.max
  go_enter Tryd.func82, Tryd.ntmps82
  go_wp2
  go_loopw [5, 6, 7] (fun v cr k wr => ∃ (o : List Nat) (s : Nat), o.length ≤ a.length ∧ k = .int .i64 (o.length : Int) ∧ cr = .int .u64 (s : Int) ∧ diffInv a b o s ∧ wr.ownsRow w.heap.size 67 1 v o.length (enc o) ∧ Ext w wr) (fun _ _ k _ => a.length - (intOf k).toNat)
  case atStart => exact ⟨[], 0, by simp, rfl, rfl, ⟨Dig.nil, by omega, by simp [val]⟩, World.ownsRow_nil _ _ _ _, bxx⟩
  case round =>
    obtain ⟨o, s, ho, rfl, rfl, hinv, hown, hx⟩ := hrel
    have haw := ha.ext hx
    have hbw := hb.ext hx
    have hx1 := ha.dig.getD o.length
    have hy1 := hb.dig.getD o.length
    have INV2 := Lib.hid (diffInv_step ha.dig hb.dig hinv)
    have hs := hinv.2.1
    rw [List.getD_eq_getElem?_getD] at hx1 hy1
    have INV := Lib.hid hinv
    clear hinv
    by_cases ka : o.length < a.length
    · obtain ⟨ba, oa, rfl, hba, hca⟩ := haw.at (by omega)
      have hca1 := hca _ ka
      obtain ⟨x, X⟩ : ∃ x, Hid (a[o.length]?.getD 0 = x) := ⟨_, rfl⟩
      rw [X.out] at hx1 hca1
      clear hca
      by_cases kb : o.length < b.length
      · obtain ⟨bb, ob, rfl, hbb, hcb⟩ := hbw.at (by omega)
        have hcb1 := hcb _ kb
        obtain ⟨y, Y⟩ : ∃ y, Hid (b[o.length]?.getD 0 = y) := ⟨_, rfl⟩
        rw [Y.out] at hy1 hcb1
        clear hcb
        obtain ⟨dg, DG⟩ : ∃ dg, Hid ((x + 4294967296 - y - s) % 4294967296 = dg) := ⟨_, rfl⟩
        obtain ⟨sg, SG⟩ : ∃ sg, Hid ((if x < y + s then 1 else 0 : Nat) = sg) := ⟨_, rfl⟩
        by_cases hlt : x < y + s
        · have hd1 : dg ≤ x + 4294967296 - y - s := by have := DG.out; omega
          have hd2 : x + 4294967296 - y - s ≤ dg := by have := DG.out; omega
          have hs1 : sg ≤ 1 := by have := SG.out; rw [if_pos hlt] at this; omega
          have hs2 : 1 ≤ sg := by have := SG.out; rw [if_pos hlt] at this; omega
          go_wp2_with (at_builtin; refine wpList_append_own _ rfl _ _ 23 rfl w.heap.size 67 i (.int .u32 0) 1 4 Tryd.underlying23 hi hz0 hz1 hz2 rfl (by decide) _ _ _ rfl (hown.alloc _) ⟨wr.heap.size, 0, none⟩ 1 1 [.int .u32 ((dg : Nat) : Int)] rfl rfl (one_news _ _ _ (by omega)) (by intro u hu; simp at hu; subst hu; rfl) (by unfold maxLen; omega) (by omega) (by have := hx.size; simp; omega) ?_)
          intro v' w1 hown' hgr _
          have hown2 : w1.ownsRow w.heap.size 67 1 v' (o.length + 1) (enc o ++ [.int .u32 ((dg : Nat) : Int)]) := hown'
          rw [enc_snoc] at hown2
          have hl := hown.lt
          have hx2 : Ext w w1 := (hx.alloc hx.size _).grown hgr (by have := hx.size; simp; omega) (fun k hk => (hl k hk).1)
          have OWN := Lib.hid hown2
          clear hown' hown2 hgr hown hl
          go_wp2
          have h := INV2.out
          rw [X.out, Y.out, DG.out, SG.out] at h
          exact ⟨⟨o ++ [dg], sg, by rw [enc_len_one]; omega, by rw [enc_len_one]; rfl, ret_u64 (by omega), h, by rw [enc_len_one]; exact OWN.out, hx2⟩, by simp [intOf]; omega⟩
        · have hd1 : dg ≤ x - y - s := by have := DG.out; omega
          have hd2 : x - y - s ≤ dg := by have := DG.out; omega
          have hs1 : sg ≤ 0 := by have := SG.out; rw [if_neg hlt] at this; omega
          go_wp2_with (at_builtin; refine wpList_append_own _ rfl _ _ 23 rfl w.heap.size 67 i (.int .u32 0) 1 4 Tryd.underlying23 hi hz0 hz1 hz2 rfl (by decide) _ _ _ rfl (hown.alloc _) ⟨wr.heap.size, 0, none⟩ 1 1 [.int .u32 ((dg : Nat) : Int)] rfl rfl (one_news _ _ _ (by omega)) (by intro u hu; simp at hu; subst hu; rfl) (by unfold maxLen; omega) (by omega) (by have := hx.size; simp; omega) ?_)
          intro v' w1 hown' hgr _
          have hown2 : w1.ownsRow w.heap.size 67 1 v' (o.length + 1) (enc o ++ [.int .u32 ((dg : Nat) : Int)]) := hown'
          rw [enc_snoc] at hown2
          have hl := hown.lt
          have hx2 : Ext w w1 := (hx.alloc hx.size _).grown hgr (by have := hx.size; simp; omega) (fun k hk => (hl k hk).1)
          have OWN := Lib.hid hown2
          clear hown' hown2 hgr hown hl
          go_wp2
          have h := INV2.out
          rw [X.out, Y.out, DG.out, SG.out] at h
          exact ⟨⟨o ++ [dg], sg, by rw [enc_len_one]; omega, by rw [enc_len_one]; rfl, ret_u64 (by omega), h, by rw [enc_len_one]; exact OWN.out, hx2⟩, by simp [intOf]; omega⟩
      · have kb2 : b.length ≤ o.length := by omega
        obtain ⟨y, Y, y0⟩ : ∃ y, Hid (b[o.length]?.getD 0 = y) ∧ Hid (y = 0) := ⟨_, rfl, by rw [List.getElem?_eq_none (by omega)]; rfl⟩
        have hy0 : y ≤ 0 := Nat.le_of_eq y0.out
        clear y0
        obtain ⟨dg, DG⟩ : ∃ dg, Hid ((x + 4294967296 - y - s) % 4294967296 = dg) := ⟨_, rfl⟩
        obtain ⟨sg, SG⟩ : ∃ sg, Hid ((if x < y + s then 1 else 0 : Nat) = sg) := ⟨_, rfl⟩
        by_cases hlt : x < y + s
        · have hd1 : dg ≤ x + 4294967296 - y - s := by have := DG.out; omega
          have hd2 : x + 4294967296 - y - s ≤ dg := by have := DG.out; omega
          have hs1 : sg ≤ 1 := by have := SG.out; rw [if_pos hlt] at this; omega
          have hs2 : 1 ≤ sg := by have := SG.out; rw [if_pos hlt] at this; omega
          go_wp2_with (at_builtin; refine wpList_append_own _ rfl _ _ 23 rfl w.heap.size 67 i (.int .u32 0) 1 4 Tryd.underlying23 hi hz0 hz1 hz2 rfl (by decide) _ _ _ rfl (hown.alloc _) ⟨wr.heap.size, 0, none⟩ 1 1 [.int .u32 ((dg : Nat) : Int)] rfl rfl (one_news _ _ _ (by omega)) (by intro u hu; simp at hu; subst hu; rfl) (by unfold maxLen; omega) (by omega) (by have := hx.size; simp; omega) ?_)
          intro v' w1 hown' hgr _
          have hown2 : w1.ownsRow w.heap.size 67 1 v' (o.length + 1) (enc o ++ [.int .u32 ((dg : Nat) : Int)]) := hown'
          rw [enc_snoc] at hown2
          have hl := hown.lt
          have hx2 : Ext w w1 := (hx.alloc hx.size _).grown hgr (by have := hx.size; simp; omega) (fun k hk => (hl k hk).1)
          have OWN := Lib.hid hown2
          clear hown' hown2 hgr hown hl
          go_wp2
          have h := INV2.out
          rw [X.out, Y.out, DG.out, SG.out] at h
          exact ⟨⟨o ++ [dg], sg, by rw [enc_len_one]; omega, by rw [enc_len_one]; rfl, ret_u64 (by omega), h, by rw [enc_len_one]; exact OWN.out, hx2⟩, by simp [intOf]; omega⟩
        · have hd1 : dg ≤ x - y - s := by have := DG.out; omega
          have hd2 : x - y - s ≤ dg := by have := DG.out; omega
          have hs1 : sg ≤ 0 := by have := SG.out; rw [if_neg hlt] at this; omega
          go_wp2_with (at_builtin; refine wpList_append_own _ rfl _ _ 23 rfl w.heap.size 67 i (.int .u32 0) 1 4 Tryd.underlying23 hi hz0 hz1 hz2 rfl (by decide) _ _ _ rfl (hown.alloc _) ⟨wr.heap.size, 0, none⟩ 1 1 [.int .u32 ((dg : Nat) : Int)] rfl rfl (one_news _ _ _ (by omega)) (by intro u hu; simp at hu; subst hu; rfl) (by unfold maxLen; omega) (by omega) (by have := hx.size; simp; omega) ?_)
          intro v' w1 hown' hgr _
          have hown2 : w1.ownsRow w.heap.size 67 1 v' (o.length + 1) (enc o ++ [.int .u32 ((dg : Nat) : Int)]) := hown'
          rw [enc_snoc] at hown2
          have hl := hown.lt
          have hx2 : Ext w w1 := (hx.alloc hx.size _).grown hgr (by have := hx.size; simp; omega) (fun k hk => (hl k hk).1)
          have OWN := Lib.hid hown2
          clear hown' hown2 hgr hown hl
          go_wp2
          have h := INV2.out
          rw [X.out, Y.out, DG.out, SG.out] at h
          exact ⟨⟨o ++ [dg], sg, by rw [enc_len_one]; omega, by rw [enc_len_one]; rfl, ret_u64 (by omega), h, by rw [enc_len_one]; exact OWN.out, hx2⟩, by simp [intOf]; omega⟩
    · have ka2 : a.length ≤ o.length := by omega
      have V := Lib.hid (diffInv_end INV.out ka2 (by omega) hle)
      have d0 := INV.out.1
      obtain ⟨p, c, rfl, hrow, hnew⟩ := row_of_owns hown d0
      clear hown haw hbw
      go_wp2_with fail
      refine (r01_trim o _ _ _ _ hrow rfl).mono ?_
      rintro e w1 ⟨rfl, hrow1, hx2⟩
      have hx3 : Ext w w1 := Ext.step hx hx2
      have T : trim o = digs (val a - val b) := by rw [← V.out]; rfl
      go_wp2
      go_ret
      rw [T] at hrow1
      exact ⟨p, c, rfl, hrow1, hnew, hx3⟩
end Go.Proofs.YtghgggaimijcaaaDoor

namespace Go.Proofs.YtghgggaimijcaaaDoor
open Go.RowKit

theorem tight_len {a b : List Nat} (da : Dig a) (tb : Tight b) (h : val b ≤ val a) : b.length ≤ a.length := by
  rcases Nat.lt_or_ge a.length b.length with g | g
  · have := val_lt_of_length da tb g
    omega
  · exact g
theorem addP_left {a b : Nm} (ha : a.right = false) : addP a b = (zero, false) := by simp [addP, ha]
theorem addP_right {a b : Nm} (hb : b.right = false) : addP a b = (zero, false) := by simp [addP, hb]

end Go.Proofs.YtghgggaimijcaaaDoor
