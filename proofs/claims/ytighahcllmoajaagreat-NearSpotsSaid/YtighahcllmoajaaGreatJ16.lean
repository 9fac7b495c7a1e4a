/- Contracts: etchantref01.plus, etchantref01.minus. | Contracts: etchantref01.Add, opposite, Sub, Cmp. | Contracts: etchantref01.Sub, Cmp. -/
import Derived.Test.YtighahcllmoajaaGreatJ14
set_option linter.unusedVariables false
set_option linter.unusedSimpArgs false

set_option maxHeartbeats 2000000
set_option maxRecDepth 100000
namespace Go.Proofs.YtighahcllmoajaaGreat
open Go.RowKit
theorem one_news {w : World} (z : Int) (x : Nat) (T : TypeId) (h : z = (x : Int)) :
  ∀ j u, [Value.int .u32 (x : Int)][j]? = some u -> (w.alloc (.cells #[.int .u32 z] T)).cell? ((⟨w.heap.size, 0, none⟩ : Addr).add j) = some u := by
 subst h
 intro j u hu
 cases j with
 | zero =>
  simp only [List.getElem?_cons_zero, Option.some.injEq] at hu
  subst hu
  rw [add_none, cell_of_row _ _ _ _ _ _ (heap_alloc_new w _)]
  rfl
 | succ j => simp at hu
theorem enc_snoc (o : List Nat) (x : Nat) : enc o ++ [.int .u32 (x : Int)] = enc (o ++ [x]) := by simp [enc]
theorem enc_len_one (o : List Nat) (x : Nat) : (o ++ [x]).length = o.length + 1 := by simp
def RetDigs (w : World) (n : Nat) (e : Ending) (w' : World) : Prop :=
 ∃ p c, e = .returned (.slice p (digs n).length c) /\ Row w' p c (digs n) /\ New w p /\ Ext w w'
theorem ret_u64 {a b : Int} (h : a = b) : Value.int .u64 a = Value.int .u64 b := by rw [h]
theorem sum_done {a b o : List Nat} (h : sumInv a b o 0) (h1 : a.length <= o.length) (h2 : b.length <= o.length) : val o = val a + val b := by
 have := h.2.2
 rw [val_take_all a _ h1, val_take_all b _ h2] at this
 omega
theorem r01_plus (a b : List Nat) (pa pb : Option Addr) (la ca lb kb : Nat) (w : World) (ha : Row w pa ca a) (hb : Row w pb kb b) (hla : la = a.length) (hlb : lb = b.length) (hal : a.length <= 1000) (hbl : b.length <= 1000) :
  Calls Tryz.prog 165 #[.slice pa la ca, .slice pb lb kb] w (RetDigs w (val a + val b)) := by
 subst hla hlb
 obtain ⟨i, hi, hz0, hz1, hz2⟩ := info_parts info32
 have hac := ha.le
 have ham := ha.max
 have hbc := hb.le
 have hbm := hb.max
 go_enter Tryz.func165, Tryz.ntmps165
 go_wp2
 go_loopw [5, 6, 7] (fun v cr k wr => ∃ (o : List Nat) (s : Nat), o.length <= 1001 /\ k = .int .i64 (o.length : Int) /\ cr = .int .u64 (s : Int) /\ sumInv a b o s /\ (a.length < o.length -> b.length < o.length -> s = 0) /\ o.length <= max a.length b.length + 1 /\ wr.ownsRow w.heap.size 118 1 v o.length (enc o) /\ Ext w wr) (fun _ _ k _ => 1002 - (intOf k).toNat)
 case atStart => exact ⟨[], 0, by simp, rfl, rfl, ⟨Dig.nil, by omega, by simp [val]⟩, by simp, by simp, World.ownsRow_nil _ _ _ _, bxx⟩
 case round =>
  obtain ⟨o, s, ho, rfl, rfl, hinv, hs0, hol, hown, hx⟩ := hrel
  have haw := ha.ext hx
  have hbw := hb.ext hx
  have hx1 := ha.dig.getD o.length
  have hy1 := hb.dig.getD o.length
  have INV2 := Lib.hid (sumInv_step ha.dig hb.dig hinv)
  have hs := hinv.2.1
  rw [List.getD_eq_getElem?_getD] at hx1 hy1
  have INV := Lib.hid hinv
  have S0 := Lib.hid hs0
  clear hinv hs0
  by_cases ka : o.length < a.length
  ·by_cases kb : o.length < b.length
   ·obtain ⟨ba, oa, rfl, hba, hca⟩ := haw.at (by omega)
    have hca1 := hca _ ka
    obtain ⟨x, X⟩ : ∃ x, Hid (a[o.length]?.getD 0 = x) := ⟨_, rfl⟩
    rw [X.out] at hx1 hca1
    clear hca
    obtain ⟨bb, ob, rfl, hbb, hcb⟩ := hbw.at (by omega)
    have hcb1 := hcb _ kb
    obtain ⟨y, Y⟩ : ∃ y, Hid (b[o.length]?.getD 0 = y) := ⟨_, rfl⟩
    rw [Y.out] at hy1 hcb1
    clear hcb
    go_wp2_with (at_builtin; refine wpList_append_own _ rfl _ _ 34 rfl w.heap.size 118 i (.int .u32 0) 1 4 Tryz.underlying34 hi hz0 hz1 hz2 rfl (by decide) _ _ _ rfl (hown.alloc _) ⟨wr.heap.size, 0, none⟩ 1 1 [.int .u32 (((s + (x + y)) % 4294967296 : Nat) : Int)] rfl rfl (one_news _ _ _ (by omega)) (by intro u hu; simp at hu; subst hu; rfl) (by unfold maxLen; omega) (by omega) (by have := hx.size; simp; omega) ?_)
    intro v' w1 hown' hgr _
    have hown2 : w1.ownsRow w.heap.size 118 1 v' (o.length + 1) (enc o ++ [.int .u32 (((s + (x + y)) % 4294967296 : Nat) : Int)]) := hown'
    rw [enc_snoc] at hown2
    have hl := hown.lt
    have hx2 : Ext w w1 := (hx.alloc hx.size _).grown hgr (by have := hx.size; simp; omega) (fun k hk => (hl k hk).1)
    have OWN := Lib.hid hown2
    clear hown' hown2 hgr hown hl
    go_wp2
    have h := INV2.out
    rw [X.out, Y.out] at h
    exact ⟨⟨o ++ [(s + (x + y)) % 4294967296], (s + (x + y)) / 4294967296, by rw [enc_len_one]; omega, by rw [enc_len_one]; rfl, ret_u64 (by omega), h, by rw [enc_len_one]; intro g1 g2; first | omega | (have := S0.out; omega), by rw [enc_len_one]; omega, by rw [enc_len_one]; exact OWN.out, hx2⟩, by simp [intOf]; omega⟩
   ·have kb2 : b.length <= o.length := by omega
    obtain ⟨ba, oa, rfl, hba, hca⟩ := haw.at (by omega)
    have hca1 := hca _ ka
    obtain ⟨x, X⟩ : ∃ x, Hid (a[o.length]?.getD 0 = x) := ⟨_, rfl⟩
    rw [X.out] at hx1 hca1
    clear hca
    obtain ⟨y, Y, y0⟩ : ∃ y, Hid (b[o.length]?.getD 0 = y) /\ Hid (y = 0) := ⟨_, rfl, by rw [List.getElem?_eq_none (by omega)]; rfl⟩
    have hy0 : y <= 0 := Nat.le_of_eq y0.out
    clear y0
    go_wp2_with (at_builtin; refine wpList_append_own _ rfl _ _ 34 rfl w.heap.size 118 i (.int .u32 0) 1 4 Tryz.underlying34 hi hz0 hz1 hz2 rfl (by decide) _ _ _ rfl (hown.alloc _) ⟨wr.heap.size, 0, none⟩ 1 1 [.int .u32 (((s + (x + y)) % 4294967296 : Nat) : Int)] rfl rfl (one_news _ _ _ (by omega)) (by intro u hu; simp at hu; subst hu; rfl) (by unfold maxLen; omega) (by omega) (by have := hx.size; simp; omega) ?_)
    intro v' w1 hown' hgr _
    have hown2 : w1.ownsRow w.heap.size 118 1 v' (o.length + 1) (enc o ++ [.int .u32 (((s + (x + y)) % 4294967296 : Nat) : Int)]) := hown'
    rw [enc_snoc] at hown2
    have hl := hown.lt
    have hx2 : Ext w w1 := (hx.alloc hx.size _).grown hgr (by have := hx.size; simp; omega) (fun k hk => (hl k hk).1)
    have OWN := Lib.hid hown2
    clear hown' hown2 hgr hown hl
    go_wp2
    have h := INV2.out
    rw [X.out, Y.out] at h
    exact ⟨⟨o ++ [(s + (x + y)) % 4294967296], (s + (x + y)) / 4294967296, by rw [enc_len_one]; omega, by rw [enc_len_one]; rfl, ret_u64 (by omega), h, by rw [enc_len_one]; intro g1 g2; first | omega | (have := S0.out; omega), by rw [enc_len_one]; omega, by rw [enc_len_one]; exact OWN.out, hx2⟩, by simp [intOf]; omega⟩
  ·have ka2 : a.length <= o.length := by omega
   by_cases kb : o.length < b.length
   ·obtain ⟨x, X, x0⟩ : ∃ x, Hid (a[o.length]?.getD 0 = x) /\ Hid (x = 0) := ⟨_, rfl, by rw [List.getElem?_eq_none (by omega)]; rfl⟩
    have hx0 : x <= 0 := Nat.le_of_eq x0.out
    clear x0
    obtain ⟨bb, ob, rfl, hbb, hcb⟩ := hbw.at (by omega)
    have hcb1 := hcb _ kb
    obtain ⟨y, Y⟩ : ∃ y, Hid (b[o.length]?.getD 0 = y) := ⟨_, rfl⟩
    rw [Y.out] at hy1 hcb1
    clear hcb
    go_wp2_with (at_builtin; refine wpList_append_own _ rfl _ _ 34 rfl w.heap.size 118 i (.int .u32 0) 1 4 Tryz.underlying34 hi hz0 hz1 hz2 rfl (by decide) _ _ _ rfl (hown.alloc _) ⟨wr.heap.size, 0, none⟩ 1 1 [.int .u32 (((s + (x + y)) % 4294967296 : Nat) : Int)] rfl rfl (one_news _ _ _ (by omega)) (by intro u hu; simp at hu; subst hu; rfl) (by unfold maxLen; omega) (by omega) (by have := hx.size; simp; omega) ?_)
    intro v' w1 hown' hgr _
    have hown2 : w1.ownsRow w.heap.size 118 1 v' (o.length + 1) (enc o ++ [.int .u32 (((s + (x + y)) % 4294967296 : Nat) : Int)]) := hown'
    rw [enc_snoc] at hown2
    have hl := hown.lt
    have hx2 : Ext w w1 := (hx.alloc hx.size _).grown hgr (by have := hx.size; simp; omega) (fun k hk => (hl k hk).1)
    have OWN := Lib.hid hown2
    clear hown' hown2 hgr hown hl
    go_wp2
    have h := INV2.out
    rw [X.out, Y.out] at h
    exact ⟨⟨o ++ [(s + (x + y)) % 4294967296], (s + (x + y)) / 4294967296, by rw [enc_len_one]; omega, by rw [enc_len_one]; rfl, ret_u64 (by omega), h, by rw [enc_len_one]; intro g1 g2; first | omega | (have := S0.out; omega), by rw [enc_len_one]; omega, by rw [enc_len_one]; exact OWN.out, hx2⟩, by simp [intOf]; omega⟩
   ·have kb2 : b.length <= o.length := by omega
    by_cases sz : s = 0
    ·subst sz
     have V := Lib.hid (sum_done INV.out ka2 kb2)
     have d0 := INV.out.1
     obtain ⟨p, c, rfl, hrow, hnew⟩ := row_of_owns hown d0
     clear hown haw hbw
     go_wp2_with fail
     refine (r01_trim o _ _ _ _ hrow rfl).mono ?_
     rintro e w1 ⟨rfl, hrow1, hx2⟩
     have hx3 : Ext w w1 := Ext.step hx hx2
     have T : trim o = digs (val a + val b) := by rw [<- V.out]; rfl
     go_wp2
     go_ret
     rw [T] at hrow1
     exact ⟨p, c, rfl, hrow1, hnew, hx3⟩
    ·have sz2 : 0 < s := by omega
     clear sz
     obtain ⟨x, X, x0⟩ : ∃ x, Hid (a[o.length]?.getD 0 = x) /\ Hid (x = 0) := ⟨_, rfl, by rw [List.getElem?_eq_none (by omega)]; rfl⟩
     have hx0 : x <= 0 := Nat.le_of_eq x0.out
     clear x0
     obtain ⟨y, Y, y0⟩ : ∃ y, Hid (b[o.length]?.getD 0 = y) /\ Hid (y = 0) := ⟨_, rfl, by rw [List.getElem?_eq_none (by omega)]; rfl⟩
     have hy0 : y <= 0 := Nat.le_of_eq y0.out
     clear y0
     have hol2 : o.length <= max a.length b.length := by
      rcases Nat.lt_or_ge (max a.length b.length) o.length with g | g
      ·have := S0.out (by omega) (by omega); omega
      ·exact g
     go_wp2_with (at_builtin; refine wpList_append_own _ rfl _ _ 34 rfl w.heap.size 118 i (.int .u32 0) 1 4 Tryz.underlying34 hi hz0 hz1 hz2 rfl (by decide) _ _ _ rfl (hown.alloc _) ⟨wr.heap.size, 0, none⟩ 1 1 [.int .u32 (((s + (x + y)) % 4294967296 : Nat) : Int)] rfl rfl (one_news _ _ _ (by omega)) (by intro u hu; simp at hu; subst hu; rfl) (by unfold maxLen; omega) (by omega) (by have := hx.size; simp; omega) ?_)
     intro v' w1 hown' hgr _
     have hown2 : w1.ownsRow w.heap.size 118 1 v' (o.length + 1) (enc o ++ [.int .u32 (((s + (x + y)) % 4294967296 : Nat) : Int)]) := hown'
     rw [enc_snoc] at hown2
     have hl := hown.lt
     have hx2 : Ext w w1 := (hx.alloc hx.size _).grown hgr (by have := hx.size; simp; omega) (fun k hk => (hl k hk).1)
     have OWN := Lib.hid hown2
     clear hown' hown2 hgr hown hl
     go_wp2
     have h := INV2.out
     rw [X.out, Y.out] at h
     exact ⟨⟨o ++ [(s + (x + y)) % 4294967296], (s + (x + y)) / 4294967296, by rw [enc_len_one]; omega, by rw [enc_len_one]; rfl, ret_u64 (by omega), h, by rw [enc_len_one]; intro g1 g2; first | omega | (have := S0.out; omega), by rw [enc_len_one]; omega, by rw [enc_len_one]; exact OWN.out, hx2⟩, by simp [intOf]; omega⟩
theorem r01_minus (a b : List Nat) (pa pb : Option Addr) (la ca lb kb : Nat) (w : World) (ha : Row w pa ca a) (hb : Row w pb kb b) (hla : la = a.length) (hlb : lb = b.length) (hal : a.length <= 1000) (hbl : b.length <= a.length) (hle : val b <= val a) :
  Calls Tryz.prog 164 #[.slice pa la ca, .slice pb lb kb] w (RetDigs w (val a - val b)) := by
 subst hla hlb
 obtain ⟨i, hi, hz0, hz1, hz2⟩ := info_parts info32
 have hac := ha.le
 have ham := ha.max
 have hbc := hb.le
 have hbm := hb.max
 go_enter Tryz.func164, Tryz.ntmps164
 go_wp2
 go_loopw [5, 6, 7] (fun v cr k wr => ∃ (o : List Nat) (s : Nat), o.length <= a.length /\ k = .int .i64 (o.length : Int) /\ cr = .int .u64 (s : Int) /\ diffInv a b o s /\ wr.ownsRow w.heap.size 118 1 v o.length (enc o) /\ Ext w wr) (fun _ _ k _ => a.length - (intOf k).toNat)
 case atStart => exact ⟨[], 0, by simp, rfl, rfl, ⟨Dig.nil, by omega, by simp [val]⟩, World.ownsRow_nil _ _ _ _, bxx⟩
 case round =>
  obtain ⟨o, s, ho, rfl, rfl, hinv, hown, hx⟩ := hrel
  have haw := ha.ext hx
  have hbw := hb.ext hx
  have hx1 := ha.dig.getD o.length
  have hy1 := hb.dig.getD o.length
  have INV2 := Lib.hid (diffInv_step ha.dig hb.dig hinv)
  have hs := hinv.2.1
  rw [List.getD_eq_getElem?_getD] at hx1 hy1
  have INV := Lib.hid hinv
  clear hinv
  by_cases ka : o.length < a.length
  ·obtain ⟨ba, oa, rfl, hba, hca⟩ := haw.at (by omega)
   have hca1 := hca _ ka
   obtain ⟨x, X⟩ : ∃ x, Hid (a[o.length]?.getD 0 = x) := ⟨_, rfl⟩
   rw [X.out] at hx1 hca1
   clear hca
   by_cases kb : o.length < b.length
   ·obtain ⟨bb, ob, rfl, hbb, hcb⟩ := hbw.at (by omega)
    have hcb1 := hcb _ kb
    obtain ⟨y, Y⟩ : ∃ y, Hid (b[o.length]?.getD 0 = y) := ⟨_, rfl⟩
    rw [Y.out] at hy1 hcb1
    clear hcb
    obtain ⟨dg, DG⟩ : ∃ dg, Hid ((x + 4294967296 - y - s) % 4294967296 = dg) := ⟨_, rfl⟩
    obtain ⟨sg, SG⟩ : ∃ sg, Hid ((if x < y + s then 1 else 0 : Nat) = sg) := ⟨_, rfl⟩
    by_cases hlt : x < y + s
    ·have hd1 : dg <= x + 4294967296 - y - s := by have := DG.out; omega
     have hd2 : x + 4294967296 - y - s <= dg := by have := DG.out; omega
     have hs1 : sg <= 1 := by have := SG.out; rw [if_pos hlt] at this; omega
     have hs2 : 1 <= sg := by have := SG.out; rw [if_pos hlt] at this; omega
     go_wp2_with (at_builtin; refine wpList_append_own _ rfl _ _ 34 rfl w.heap.size 118 i (.int .u32 0) 1 4 Tryz.underlying34 hi hz0 hz1 hz2 rfl (by decide) _ _ _ rfl (hown.alloc _) ⟨wr.heap.size, 0, none⟩ 1 1 [.int .u32 ((dg : Nat) : Int)] rfl rfl (one_news _ _ _ (by omega)) (by intro u hu; simp at hu; subst hu; rfl) (by unfold maxLen; omega) (by omega) (by have := hx.size; simp; omega) ?_)
     intro v' w1 hown' hgr _
     have hown2 : w1.ownsRow w.heap.size 118 1 v' (o.length + 1) (enc o ++ [.int .u32 ((dg : Nat) : Int)]) := hown'
     rw [enc_snoc] at hown2
     have hl := hown.lt
     have hx2 : Ext w w1 := (hx.alloc hx.size _).grown hgr (by have := hx.size; simp; omega) (fun k hk => (hl k hk).1)
     have OWN := Lib.hid hown2
     clear hown' hown2 hgr hown hl
     go_wp2
     have h := INV2.out
     rw [X.out, Y.out, DG.out, SG.out] at h
     exact ⟨⟨o ++ [dg], sg, by rw [enc_len_one]; omega, by rw [enc_len_one]; rfl, ret_u64 (by omega), h, by rw [enc_len_one]; exact OWN.out, hx2⟩, by simp [intOf]; omega⟩
    ·have hd1 : dg <= x - y - s := by have := DG.out; omega
     have hd2 : x - y - s <= dg := by have := DG.out; omega
     have hs1 : sg <= 0 := by have := SG.out; rw [if_neg hlt] at this; omega
     go_wp2_with (at_builtin; refine wpList_append_own _ rfl _ _ 34 rfl w.heap.size 118 i (.int .u32 0) 1 4 Tryz.underlying34 hi hz0 hz1 hz2 rfl (by decide) _ _ _ rfl (hown.alloc _) ⟨wr.heap.size, 0, none⟩ 1 1 [.int .u32 ((dg : Nat) : Int)] rfl rfl (one_news _ _ _ (by omega)) (by intro u hu; simp at hu; subst hu; rfl) (by unfold maxLen; omega) (by omega) (by have := hx.size; simp; omega) ?_)
     intro v' w1 hown' hgr _
     have hown2 : w1.ownsRow w.heap.size 118 1 v' (o.length + 1) (enc o ++ [.int .u32 ((dg : Nat) : Int)]) := hown'
     rw [enc_snoc] at hown2
     have hl := hown.lt
     have hx2 : Ext w w1 := (hx.alloc hx.size _).grown hgr (by have := hx.size; simp; omega) (fun k hk => (hl k hk).1)
     have OWN := Lib.hid hown2
     clear hown' hown2 hgr hown hl
     go_wp2
     have h := INV2.out
     rw [X.out, Y.out, DG.out, SG.out] at h
     exact ⟨⟨o ++ [dg], sg, by rw [enc_len_one]; omega, by rw [enc_len_one]; rfl, ret_u64 (by omega), h, by rw [enc_len_one]; exact OWN.out, hx2⟩, by simp [intOf]; omega⟩
   ·have kb2 : b.length <= o.length := by omega
    obtain ⟨y, Y, y0⟩ : ∃ y, Hid (b[o.length]?.getD 0 = y) /\ Hid (y = 0) := ⟨_, rfl, by rw [List.getElem?_eq_none (by omega)]; rfl⟩
    have hy0 : y <= 0 := Nat.le_of_eq y0.out
    clear y0
    obtain ⟨dg, DG⟩ : ∃ dg, Hid ((x + 4294967296 - y - s) % 4294967296 = dg) := ⟨_, rfl⟩
    obtain ⟨sg, SG⟩ : ∃ sg, Hid ((if x < y + s then 1 else 0 : Nat) = sg) := ⟨_, rfl⟩
    by_cases hlt : x < y + s
    ·have hd1 : dg <= x + 4294967296 - y - s := by have := DG.out; omega
     have hd2 : x + 4294967296 - y - s <= dg := by have := DG.out; omega
     have hs1 : sg <= 1 := by have := SG.out; rw [if_pos hlt] at this; omega
     have hs2 : 1 <= sg := by have := SG.out; rw [if_pos hlt] at this; omega
     go_wp2_with (at_builtin; refine wpList_append_own _ rfl _ _ 34 rfl w.heap.size 118 i (.int .u32 0) 1 4 Tryz.underlying34 hi hz0 hz1 hz2 rfl (by decide) _ _ _ rfl (hown.alloc _) ⟨wr.heap.size, 0, none⟩ 1 1 [.int .u32 ((dg : Nat) : Int)] rfl rfl (one_news _ _ _ (by omega)) (by intro u hu; simp at hu; subst hu; rfl) (by unfold maxLen; omega) (by omega) (by have := hx.size; simp; omega) ?_)
     intro v' w1 hown' hgr _
     have hown2 : w1.ownsRow w.heap.size 118 1 v' (o.length + 1) (enc o ++ [.int .u32 ((dg : Nat) : Int)]) := hown'
     rw [enc_snoc] at hown2
     have hl := hown.lt
     have hx2 : Ext w w1 := (hx.alloc hx.size _).grown hgr (by have := hx.size; simp; omega) (fun k hk => (hl k hk).1)
     have OWN := Lib.hid hown2
     clear hown' hown2 hgr hown hl
     go_wp2
     have h := INV2.out
     rw [X.out, Y.out, DG.out, SG.out] at h
     exact ⟨⟨o ++ [dg], sg, by rw [enc_len_one]; omega, by rw [enc_len_one]; rfl, ret_u64 (by omega), h, by rw [enc_len_one]; exact OWN.out, hx2⟩, by simp [intOf]; omega⟩
    ·have hd1 : dg <= x - y - s := by have := DG.out; omega
     have hd2 : x - y - s <= dg := by have := DG.out; omega
     have hs1 : sg <= 0 := by have := SG.out; rw [if_neg hlt] at this; omega
     go_wp2_with (at_builtin; refine wpList_append_own _ rfl _ _ 34 rfl w.heap.size 118 i (.int .u32 0) 1 4 Tryz.underlying34 hi hz0 hz1 hz2 rfl (by decide) _ _ _ rfl (hown.alloc _) ⟨wr.heap.size, 0, none⟩ 1 1 [.int .u32 ((dg : Nat) : Int)] rfl rfl (one_news _ _ _ (by omega)) (by intro u hu; simp at hu; subst hu; rfl) (by unfold maxLen; omega) (by omega) (by have := hx.size; simp; omega) ?_)
     intro v' w1 hown' hgr _
     have hown2 : w1.ownsRow w.heap.size 118 1 v' (o.length + 1) (enc o ++ [.int .u32 ((dg : Nat) : Int)]) := hown'
     rw [enc_snoc] at hown2
     have hl := hown.lt
     have hx2 : Ext w w1 := (hx.alloc hx.size _).grown hgr (by have := hx.size; simp; omega) (fun k hk => (hl k hk).1)
     have OWN := Lib.hid hown2
     clear hown' hown2 hgr hown hl
     go_wp2
     have h := INV2.out
     rw [X.out, Y.out, DG.out, SG.out] at h
     exact ⟨⟨o ++ [dg], sg, by rw [enc_len_one]; omega, by rw [enc_len_one]; rfl, ret_u64 (by omega), h, by rw [enc_len_one]; exact OWN.out, hx2⟩, by simp [intOf]; omega⟩
  ·have ka2 : a.length <= o.length := by omega
   have V := Lib.hid (diffInv_end INV.out ka2 (by omega) hle)
   have d0 := INV.out.1
   obtain ⟨p, c, rfl, hrow, hnew⟩ := row_of_owns hown d0
   clear hown haw hbw
   go_wp2_with fail
   refine (r01_trim o _ _ _ _ hrow rfl).mono ?_
   rintro e w1 ⟨rfl, hrow1, hx2⟩
   have hx3 : Ext w w1 := Ext.step hx hx2
   have T : trim o = digs (val a - val b) := by rw [<- V.out]; rfl
   go_wp2
   go_ret
   rw [T] at hrow1
   exact ⟨p, c, rfl, hrow1, hnew, hx3⟩
end Go.Proofs.YtighahcllmoajaaGreat

set_option maxHeartbeats 1000000
set_option maxRecDepth 100000
namespace Go.Proofs.YtighahcllmoajaaGreat
open Go.RowKit
theorem tight_len {a b : List Nat} (da : Dig a) (tb : Tight b) (h : val b <= val a) : b.length <= a.length := by
 rcases Nat.lt_or_ge a.length b.length with g | g
 ·have := val_lt_of_length da tb g
  omega
 ·exact g
theorem addP_left {a b : Nm} (ha : a.right = false) : addP a b = (zero, false) := by simp [addP, ha]
theorem addP_right {a b : Nm} (hb : b.right = false) : addP a b = (zero, false) := by simp [addP, hb]
theorem r01_add_same (a b : Nm) (na nb : Bool) (pa pb : Option Addr) (la ca lb cb : Nat) (w : World) (ha : NR w na pa la ca a) (hb : NR w nb pb lb cb b) (ra : a.right = true) (rb : b.right = true) (hn : a.neg = b.neg) :
  Calls Tryz.prog 138 #[.agg #[.bool na, .slice pa la ca], .agg #[.bool nb, .slice pb lb cb]] w (RetNum w (addP a b)) := by
 have la64 := ha.len ra
 have lb64 := hb.len rb
 have hq : (na == nb) = true := by rw [ha.1, hb.1, hn]; simp
 have SP : Hid (madeP na (digs (val a.d + val b.d)) = addP a b) := by rw [ha.1, hn]; exact sumP_plus ra rb hn (val_digs _)
 clear hn
 go_enter Tryz.func138, Tryz.ntmps138
 go_wp2_with fail
 refine (r01_Right a _ _ _ _ _ (ha.ext bxx)).mono ?_
 rintro e w1 ⟨rfl, hx⟩
 rw [ra]
 have hx0 : Ext w w1 := Ext.step bxx hx
 have hz_w1 : w.heap.size + 3 <= w1.heap.size := Nat.le_trans omm hx.size
 obtain ⟨hl_w1_0, hk_w1_0, hf_w1_0⟩ := extK hx (w.heap.size)
 obtain ⟨hl_w1_1, hk_w1_1, hf_w1_1⟩ := extK hx (w.heap.size + 1)
 obtain ⟨hl_w1_2, hk_w1_2, hf_w1_2⟩ := extK hx (w.heap.size + 2)
 go_wp2_with fail
 refine (r01_Right b _ _ _ _ _ (hb.ext bxx)).mono ?_
 rintro e w2 ⟨rfl, hx2⟩
 rw [rb]
 have hx1 : Ext w w2 := Ext.step hx0 hx2
 have hz_w2 : w.heap.size + 3 <= w2.heap.size := Nat.le_trans omm hx2.size
 obtain ⟨hl_w2_0, hk_w2_0, hf_w2_0⟩ := extK hx2 (w.heap.size)
 obtain ⟨hl_w2_1, hk_w2_1, hf_w2_1⟩ := extK hx2 (w.heap.size + 1)
 obtain ⟨hl_w2_2, hk_w2_2, hf_w2_2⟩ := extK hx2 (w.heap.size + 2)
 go_wp2_with fail
 go_region_held3 (fun w' => w'.cell? ⟨w.heap.size, 0, none⟩ = some (.bool na) /\ w'.cell? ⟨w.heap.size, 1, none⟩ = some (.slice pa la ca) /\ w'.cell? ⟨w.heap.size + 1, 0, none⟩ = some (.bool nb) /\ w'.cell? ⟨w.heap.size + 1, 1, none⟩ = some (.slice pb lb cb)) (refine ⟨?_, ?_, ?_, ?_⟩ <;> go_simp) (first | (go_at_call 165; refine (r01_plus a.d b.d _ _ _ _ _ _ _ (ha.2.2.ext bxx) (hb.2.2.ext bxx) ha.2.1 hb.2.1 (by omega) (by omega)).mono ?_; rintro e w4 ⟨p, c, rfl, hrow, hnew, hx5⟩; (have hx6 : Ext w w4 := Ext.step bxx hx5); have hz_w4 : w.heap.size + 3 <= w4.heap.size := Nat.le_trans omm hx5.size; obtain ⟨hl_w4_0, hk_w4_0, hf_w4_0⟩ := extK hx5 (w.heap.size); obtain ⟨hl_w4_1, hk_w4_1, hf_w4_1⟩ := extK hx5 (w.heap.size + 1); obtain ⟨hl_w4_2, hk_w4_2, hf_w4_2⟩ := extK hx5 (w.heap.size + 2)) | (go_at_call 70; refine (r01_made na _ _ _ _ _ hrow rfl).mono ?_; rintro e w5 ⟨n', p', l', c', rfl, hnr, hnew', hx7⟩; (have hx8 : Ext w w5 := Ext.step hx6 hx7); have hz_w5 : w.heap.size + 3 <= w5.heap.size := Nat.le_trans omm hx7.size; obtain ⟨hl_w5_0, hk_w5_0, hf_w5_0⟩ := extK hx7 (w.heap.size); obtain ⟨hl_w5_1, hk_w5_1, hf_w5_1⟩ := extK hx7 (w.heap.size + 1); obtain ⟨hl_w5_2, hk_w5_2, hf_w5_2⟩ := extK hx7 (w.heap.size + 2)))
 have HNR : NR w5 n' p' l' c' (addP a b).1 := by rw [<- SP.out]; exact hnr
 rw [SP.out]
 clear hnr
 go_wp2_with fail
 refine bodyPost_ret (v := .tuple #[.agg #[.bool n', .slice p' l' c'], .bool (addP a b).2]) (by simp [results, Tryz.results138, go_sem, *]) rfl ?_
 exact ⟨n', p', l', c', rfl, (by repeat (first | assumption | refine NR.set ?_ (by assumption) _ (by first | (simp; done) | (simp; omega) | omega) _ | refine NR.alloc ?_ _)), hnew'.mono (by omega), bxx⟩
theorem r01_add_minus (a b : Nm) (na nb : Bool) (pa pb : Option Addr) (la ca lb cb : Nat) (w : World) (ha : NR w na pa la ca a) (hb : NR w nb pb lb cb b) (ra : a.right = true) (rb : b.right = true) (hn : a.neg ≠ b.neg) (hc : val b.d <= val a.d) :
  Calls Tryz.prog 138 #[.agg #[.bool na, .slice pa la ca], .agg #[.bool nb, .slice pb lb cb]] w (RetNum w (addP a b)) := by
 have la64 := ha.len ra
 have lb64 := hb.len rb
 have hq : (na == nb) = false := by rw [ha.1, hb.1]; simpa using hn
 have hge : 0 <= cmpL a.d b.d := (cmp_ge ra rb ha.2.2.dig hb.2.2.dig).2 hc
 have SP : Hid (madeP na (digs (val a.d - val b.d)) = addP a b) := by rw [ha.1]; exact sumP_minus ra rb hn hc (val_digs _)
 have hlen := tight_len ha.2.2.dig (b.right_iff.1 rb).2.1 hc
 go_enter Tryz.func138, Tryz.ntmps138
 go_wp2_with fail
 refine (r01_Right a _ _ _ _ _ (ha.ext bxx)).mono ?_
 rintro e w1 ⟨rfl, hx⟩
 rw [ra]
 have hx0 : Ext w w1 := Ext.step bxx hx
 have hz_w1 : w.heap.size + 3 <= w1.heap.size := Nat.le_trans omm hx.size
 obtain ⟨hl_w1_0, hk_w1_0, hf_w1_0⟩ := extK hx (w.heap.size)
 obtain ⟨hl_w1_1, hk_w1_1, hf_w1_1⟩ := extK hx (w.heap.size + 1)
 obtain ⟨hl_w1_2, hk_w1_2, hf_w1_2⟩ := extK hx (w.heap.size + 2)
 go_wp2_with fail
 refine (r01_Right b _ _ _ _ _ (hb.ext bxx)).mono ?_
 rintro e w2 ⟨rfl, hx2⟩
 rw [rb]
 have hx1 : Ext w w2 := Ext.step hx0 hx2
 have hz_w2 : w.heap.size + 3 <= w2.heap.size := Nat.le_trans omm hx2.size
 obtain ⟨hl_w2_0, hk_w2_0, hf_w2_0⟩ := extK hx2 (w.heap.size)
 obtain ⟨hl_w2_1, hk_w2_1, hf_w2_1⟩ := extK hx2 (w.heap.size + 1)
 obtain ⟨hl_w2_2, hk_w2_2, hf_w2_2⟩ := extK hx2 (w.heap.size + 2)
 go_wp2_with fail
 refine (r01_compare a.d b.d _ _ _ _ _ _ _ (ha.2.2.ext bxx) (hb.2.2.ext bxx) ha.2.1 hb.2.1).mono ?_
 rintro e w3 ⟨rfl, hx3⟩
 have hx4 : Ext w w3 := Ext.step hx1 hx3
 have hz_w3 : w.heap.size + 3 <= w3.heap.size := Nat.le_trans omm hx3.size
 obtain ⟨hl_w3_0, hk_w3_0, hf_w3_0⟩ := extK hx3 (w.heap.size)
 obtain ⟨hl_w3_1, hk_w3_1, hf_w3_1⟩ := extK hx3 (w.heap.size + 1)
 obtain ⟨hl_w3_2, hk_w3_2, hf_w3_2⟩ := extK hx3 (w.heap.size + 2)
 go_wp2_with fail
 go_region_held3 (fun w' => w'.cell? ⟨w.heap.size, 0, none⟩ = some (.bool na) /\ w'.cell? ⟨w.heap.size, 1, none⟩ = some (.slice pa la ca) /\ w'.cell? ⟨w.heap.size + 1, 0, none⟩ = some (.bool nb) /\ w'.cell? ⟨w.heap.size + 1, 1, none⟩ = some (.slice pb lb cb)) (refine ⟨?_, ?_, ?_, ?_⟩ <;> go_simp) (first | (go_at_call 164; refine (r01_minus a.d b.d _ _ _ _ _ _ _ (ha.2.2.ext bxx) (hb.2.2.ext bxx) ha.2.1 hb.2.1 (by omega) hlen hc).mono ?_; rintro e w4 ⟨p, c, rfl, hrow, hnew, hx5⟩; (have hx6 : Ext w w4 := Ext.step bxx hx5); have hz_w4 : w.heap.size + 3 <= w4.heap.size := Nat.le_trans omm hx5.size; obtain ⟨hl_w4_0, hk_w4_0, hf_w4_0⟩ := extK hx5 (w.heap.size); obtain ⟨hl_w4_1, hk_w4_1, hf_w4_1⟩ := extK hx5 (w.heap.size + 1); obtain ⟨hl_w4_2, hk_w4_2, hf_w4_2⟩ := extK hx5 (w.heap.size + 2)) | (go_at_call 70; refine (r01_made na _ _ _ _ _ hrow rfl).mono ?_; rintro e w5 ⟨n', p', l', c', rfl, hnr, hnew', hx7⟩; (have hx8 : Ext w w5 := Ext.step hx6 hx7); have hz_w5 : w.heap.size + 3 <= w5.heap.size := Nat.le_trans omm hx7.size; obtain ⟨hl_w5_0, hk_w5_0, hf_w5_0⟩ := extK hx7 (w.heap.size); obtain ⟨hl_w5_1, hk_w5_1, hf_w5_1⟩ := extK hx7 (w.heap.size + 1); obtain ⟨hl_w5_2, hk_w5_2, hf_w5_2⟩ := extK hx7 (w.heap.size + 2)))
 have HNR : NR w5 n' p' l' c' (addP a b).1 := by rw [<- SP.out]; exact hnr
 rw [SP.out]
 clear hnr
 go_wp2_with fail
 refine bodyPost_ret (v := .tuple #[.agg #[.bool n', .slice p' l' c'], .bool (addP a b).2]) (by simp [results, Tryz.results138, go_sem, *]) rfl ?_
 exact ⟨n', p', l', c', rfl, (by repeat (first | assumption | refine NR.set ?_ (by assumption) _ (by first | (simp; done) | (simp; omega) | omega) _ | refine NR.alloc ?_ _)), hnew'.mono (by omega), bxx⟩
theorem r01_add_other (a b : Nm) (na nb : Bool) (pa pb : Option Addr) (la ca lb cb : Nat) (w : World) (ha : NR w na pa la ca a) (hb : NR w nb pb lb cb b) (ra : a.right = true) (rb : b.right = true) (hn : a.neg ≠ b.neg) (hc : ¬ val b.d <= val a.d) :
  Calls Tryz.prog 138 #[.agg #[.bool na, .slice pa la ca], .agg #[.bool nb, .slice pb lb cb]] w (RetNum w (addP a b)) := by
 have la64 := ha.len ra
 have lb64 := hb.len rb
 have hq : (na == nb) = false := by rw [ha.1, hb.1]; simpa using hn
 have hlt : cmpL a.d b.d < 0 := by
  have h1 := cmp_ge ra rb ha.2.2.dig hb.2.2.dig
  rcases Int.lt_or_le (cmpL a.d b.d) 0 with h | h
  ·exact h
  ·exact absurd (h1.1 h) hc
 have SP : Hid (madeP nb (digs (val b.d - val a.d)) = addP a b) := by rw [hb.1]; exact sumP_other ra rb hn (by omega) (val_digs _)
 have hlen := tight_len hb.2.2.dig (a.right_iff.1 ra).2.1 (by omega)
 go_enter Tryz.func138, Tryz.ntmps138
 go_wp2_with fail
 refine (r01_Right a _ _ _ _ _ (ha.ext bxx)).mono ?_
 rintro e w1 ⟨rfl, hx⟩
 rw [ra]
 have hx0 : Ext w w1 := Ext.step bxx hx
 have hz_w1 : w.heap.size + 3 <= w1.heap.size := Nat.le_trans omm hx.size
 obtain ⟨hl_w1_0, hk_w1_0, hf_w1_0⟩ := extK hx (w.heap.size)
 obtain ⟨hl_w1_1, hk_w1_1, hf_w1_1⟩ := extK hx (w.heap.size + 1)
 obtain ⟨hl_w1_2, hk_w1_2, hf_w1_2⟩ := extK hx (w.heap.size + 2)
 go_wp2_with fail
 refine (r01_Right b _ _ _ _ _ (hb.ext bxx)).mono ?_
 rintro e w2 ⟨rfl, hx2⟩
 rw [rb]
 have hx1 : Ext w w2 := Ext.step hx0 hx2
 have hz_w2 : w.heap.size + 3 <= w2.heap.size := Nat.le_trans omm hx2.size
 obtain ⟨hl_w2_0, hk_w2_0, hf_w2_0⟩ := extK hx2 (w.heap.size)
 obtain ⟨hl_w2_1, hk_w2_1, hf_w2_1⟩ := extK hx2 (w.heap.size + 1)
 obtain ⟨hl_w2_2, hk_w2_2, hf_w2_2⟩ := extK hx2 (w.heap.size + 2)
 go_wp2_with fail
 refine (r01_compare a.d b.d _ _ _ _ _ _ _ (ha.2.2.ext bxx) (hb.2.2.ext bxx) ha.2.1 hb.2.1).mono ?_
 rintro e w3 ⟨rfl, hx3⟩
 have hx4 : Ext w w3 := Ext.step hx1 hx3
 have hz_w3 : w.heap.size + 3 <= w3.heap.size := Nat.le_trans omm hx3.size
 obtain ⟨hl_w3_0, hk_w3_0, hf_w3_0⟩ := extK hx3 (w.heap.size)
 obtain ⟨hl_w3_1, hk_w3_1, hf_w3_1⟩ := extK hx3 (w.heap.size + 1)
 obtain ⟨hl_w3_2, hk_w3_2, hf_w3_2⟩ := extK hx3 (w.heap.size + 2)
 go_wp2_with fail
 go_region_held3 (fun w' => w'.cell? ⟨w.heap.size, 0, none⟩ = some (.bool na) /\ w'.cell? ⟨w.heap.size, 1, none⟩ = some (.slice pa la ca) /\ w'.cell? ⟨w.heap.size + 1, 0, none⟩ = some (.bool nb) /\ w'.cell? ⟨w.heap.size + 1, 1, none⟩ = some (.slice pb lb cb)) (refine ⟨?_, ?_, ?_, ?_⟩ <;> go_simp) (first | (go_at_call 164; refine (r01_minus b.d a.d _ _ _ _ _ _ _ (hb.2.2.ext bxx) (ha.2.2.ext bxx) hb.2.1 ha.2.1 (by omega) hlen (by omega)).mono ?_; rintro e w4 ⟨p, c, rfl, hrow, hnew, hx5⟩; (have hx6 : Ext w w4 := Ext.step bxx hx5); have hz_w4 : w.heap.size + 3 <= w4.heap.size := Nat.le_trans omm hx5.size; obtain ⟨hl_w4_0, hk_w4_0, hf_w4_0⟩ := extK hx5 (w.heap.size); obtain ⟨hl_w4_1, hk_w4_1, hf_w4_1⟩ := extK hx5 (w.heap.size + 1); obtain ⟨hl_w4_2, hk_w4_2, hf_w4_2⟩ := extK hx5 (w.heap.size + 2)) | (go_at_call 70; refine (r01_made nb _ _ _ _ _ hrow rfl).mono ?_; rintro e w5 ⟨n', p', l', c', rfl, hnr, hnew', hx7⟩; (have hx8 : Ext w w5 := Ext.step hx6 hx7); have hz_w5 : w.heap.size + 3 <= w5.heap.size := Nat.le_trans omm hx7.size; obtain ⟨hl_w5_0, hk_w5_0, hf_w5_0⟩ := extK hx7 (w.heap.size); obtain ⟨hl_w5_1, hk_w5_1, hf_w5_1⟩ := extK hx7 (w.heap.size + 1); obtain ⟨hl_w5_2, hk_w5_2, hf_w5_2⟩ := extK hx7 (w.heap.size + 2)))
 have HNR : NR w5 n' p' l' c' (addP a b).1 := by rw [<- SP.out]; exact hnr
 rw [SP.out]
 clear hnr
 go_wp2_with fail
 refine bodyPost_ret (v := .tuple #[.agg #[.bool n', .slice p' l' c'], .bool (addP a b).2]) (by simp [results, Tryz.results138, go_sem, *]) rfl ?_
 exact ⟨n', p', l', c', rfl, (by repeat (first | assumption | refine NR.set ?_ (by assumption) _ (by first | (simp; done) | (simp; omega) | omega) _ | refine NR.alloc ?_ _)), hnew'.mono (by omega), bxx⟩
theorem r01_Add (a b : Nm) (na nb : Bool) (pa pb : Option Addr) (la ca lb cb : Nat) (w : World) (ha : NR w na pa la ca a) (hb : NR w nb pb lb cb b) :
  Calls Tryz.prog 138 #[.agg #[.bool na, .slice pa la ca], .agg #[.bool nb, .slice pb lb cb]] w (RetNum w (addP a b)) := by
 by_cases ra : a.right = true
 ·by_cases rb : b.right = true
  ·by_cases hn : a.neg = b.neg
   ·exact r01_add_same a b na nb pa pb la ca lb cb w ha hb ra rb hn
   ·by_cases hc : val b.d <= val a.d
    ·exact r01_add_minus a b na nb pa pb la ca lb cb w ha hb ra rb hn hc
    ·exact r01_add_other a b na nb pa pb la ca lb cb w ha hb ra rb hn hc
  ·have rb : b.right = false := by simpa using rb
   have S := Lib.hid (addP_right (a := a) rb)
   go_enter Tryz.func138, Tryz.ntmps138
   go_wp2_with fail
   refine (r01_Right a _ _ _ _ _ (ha.ext bxx)).mono ?_
   rintro e w1 ⟨rfl, hx⟩
   rw [ra]
   have hx0 : Ext w w1 := Ext.step bxx hx
   have hz_w1 : w.heap.size + 3 <= w1.heap.size := Nat.le_trans omm hx.size
   obtain ⟨hl_w1_0, hk_w1_0, hf_w1_0⟩ := extK hx (w.heap.size)
   obtain ⟨hl_w1_1, hk_w1_1, hf_w1_1⟩ := extK hx (w.heap.size + 1)
   obtain ⟨hl_w1_2, hk_w1_2, hf_w1_2⟩ := extK hx (w.heap.size + 2)
   go_wp2_with fail
   refine (r01_Right b _ _ _ _ _ (hb.ext bxx)).mono ?_
   rintro e w2 ⟨rfl, hx2⟩
   rw [rb]
   have hx1 : Ext w w2 := Ext.step hx0 hx2
   have hz_w2 : w.heap.size + 3 <= w2.heap.size := Nat.le_trans omm hx2.size
   obtain ⟨hl_w2_0, hk_w2_0, hf_w2_0⟩ := extK hx2 (w.heap.size)
   obtain ⟨hl_w2_1, hk_w2_1, hf_w2_1⟩ := extK hx2 (w.heap.size + 1)
   obtain ⟨hl_w2_2, hk_w2_2, hf_w2_2⟩ := extK hx2 (w.heap.size + 2)
   go_wp2_with fail
   refine bodyPost_ret (v := .tuple #[.agg #[.bool false, .slice none 0 0], .bool false]) (by simp [results, Tryz.results138, go_sem, *]) rfl ?_
   rw [S.out]
   exact ⟨false, none, 0, 0, rfl, ⟨rfl, rfl, Row.nil _⟩, New.none _, bxx⟩
 ·have ra : a.right = false := by simpa using ra
  have S := Lib.hid (addP_left (b := b) ra)
  go_enter Tryz.func138, Tryz.ntmps138
  go_wp2_with fail
  refine (r01_Right a _ _ _ _ _ (ha.ext bxx)).mono ?_
  rintro e w1 ⟨rfl, hx⟩
  rw [ra]
  have hx0 : Ext w w1 := Ext.step bxx hx
  have hz_w1 : w.heap.size + 3 <= w1.heap.size := Nat.le_trans omm hx.size
  obtain ⟨hl_w1_0, hk_w1_0, hf_w1_0⟩ := extK hx (w.heap.size)
  obtain ⟨hl_w1_1, hk_w1_1, hf_w1_1⟩ := extK hx (w.heap.size + 1)
  obtain ⟨hl_w1_2, hk_w1_2, hf_w1_2⟩ := extK hx (w.heap.size + 2)
  go_wp2_with fail
  refine bodyPost_ret (v := .tuple #[.agg #[.bool false, .slice none 0 0], .bool false]) (by simp [results, Tryz.results138, go_sem, *]) rfl ?_
  rw [S.out]
  exact ⟨false, none, 0, 0, rfl, ⟨rfl, rfl, Row.nil _⟩, New.none _, bxx⟩
def oppP (a : Nm) : Nm := if a.d = [] then a else ⟨!a.neg, a.d⟩
theorem r01_opposite (a : Nm) (n : Bool) (p : Option Addr) (l c : Nat) (w : World) (h : NR w n p l c a) :
  Calls Tryz.prog 175 #[.agg #[.bool n, .slice p l c]] w fun e w' => ∃ n', e = .returned (.agg #[.bool n', .slice p l c]) /\ NR w' n' p l c (oppP a) /\ Ext w w' := by
 obtain ⟨hn, hl, hr⟩ := h
 have hlc := hr.le
 have hcm := hr.max
 by_cases h0 : a.d = []
 ·have hl0 : l <= 0 := by rw [hl, h0]; simp
  have e0 : oppP a = a := by simp [oppP, h0]
  have H : NR w n p l c (oppP a) := by rw [e0]; exact ⟨hn, hl, hr⟩
  have hl1 : l <= 9223372036854775807 := by omega
  clear e0 hn hl hr h0
  go_enter Tryz.func175, Tryz.ntmps175
  go_wp2
  refine bodyPost_ret (v := .agg #[.bool n, .slice p l c]) (by simp [results, Tryz.results175, go_sem, *]) rfl ?_
  exact ⟨n, rfl, H.ext bxx, bxx⟩
 ·have hl0 : 0 < l := by rw [hl]; exact List.length_pos_iff.2 h0
  have H : NR w (!n) p l c (oppP a) := by
   simp only [oppP, h0, ↓reduceIte]
   exact ⟨by rw [hn], hl, hr⟩
  have hl1 : l <= 9223372036854775807 := by omega
  clear hn hl hr h0
  go_enter Tryz.func175, Tryz.ntmps175
  go_wp2
  refine bodyPost_ret (v := .agg #[.bool (!n), .slice p l c]) (by simp [results, Tryz.results175, go_sem, *]) rfl ?_
  exact ⟨!n, rfl, H.ext bxx, bxx⟩
end Go.Proofs.YtighahcllmoajaaGreat

set_option maxHeartbeats 1000000
set_option maxRecDepth 100000
namespace Go.Proofs.YtighahcllmoajaaGreat
open Go.RowKit
theorem oppP_right (a : Nm) : (oppP a).right = a.right := by
 unfold oppP
 split
 ·rfl
 ·rename_i h
  have h1 : a.d.length ≠ 0 := by simpa using h
  simp [Nm.right, h1]
theorem oppP_z (a : Nm) : (oppP a).z = -a.z := by
 unfold oppP
 split
 ·rename_i h
  simp [Nm.z, h, val]
 ·unfold Nm.z
  cases a.neg <;> simp
theorem oppP_sub (a b : Nm) : addP a (oppP b) = subP a b := by
 unfold addP subP
 rw [oppP_right, oppP_z]
 rfl
theorem r01_Sub (a b : Nm) (na nb : Bool) (pa pb : Option Addr) (la ca lb cb : Nat) (w : World) (ha : NR w na pa la ca a) (hb : NR w nb pb lb cb b) :
  Calls Tryz.prog 137 #[.agg #[.bool na, .slice pa la ca], .agg #[.bool nb, .slice pb lb cb]] w (RetNum w (subP a b)) := by
 have S := Lib.hid (oppP_sub a b)
 go_enter Tryz.func137, Tryz.ntmps137
 go_wp2_with fail
 go_region_held3 (fun w' => w'.cell? ⟨w.heap.size, 0, none⟩ = some (.bool na) /\ w'.cell? ⟨w.heap.size, 1, none⟩ = some (.slice pa la ca) /\ w'.cell? ⟨w.heap.size + 1, 0, none⟩ = some (.bool nb) /\ w'.cell? ⟨w.heap.size + 1, 1, none⟩ = some (.slice pb lb cb)) (refine ⟨?_, ?_, ?_, ?_⟩ <;> go_simp) (first | (go_at_call 175; refine (r01_opposite b _ _ _ _ _ (hb.ext bxx)).mono ?_; rintro e w1 ⟨nb', rfl, hnb, hx⟩; (have hx0 : Ext w w1 := Ext.step bxx hx); have hz_w1 : w.heap.size + 3 <= w1.heap.size := Nat.le_trans omm hx.size; obtain ⟨hl_w1_0, hk_w1_0, hf_w1_0⟩ := extK hx (w.heap.size); obtain ⟨hl_w1_1, hk_w1_1, hf_w1_1⟩ := extK hx (w.heap.size + 1); obtain ⟨hl_w1_2, hk_w1_2, hf_w1_2⟩ := extK hx (w.heap.size + 2)) | (go_at_call 138; refine (r01_Add a (oppP b) _ _ _ _ _ _ _ _ _ (ha.ext bxx) (hnb.ext bxx)).mono ?_; rintro e w2 ⟨n', p', l', c', rfl, hnr, hnew', hx2⟩; (have hx3 : Ext w w2 := Ext.step bxx hx2); have hz_w2 : w.heap.size + 3 <= w2.heap.size := Nat.le_trans omm hx2.size; obtain ⟨hl_w2_0, hk_w2_0, hf_w2_0⟩ := extK hx2 (w.heap.size); obtain ⟨hl_w2_1, hk_w2_1, hf_w2_1⟩ := extK hx2 (w.heap.size + 1); obtain ⟨hl_w2_2, hk_w2_2, hf_w2_2⟩ := extK hx2 (w.heap.size + 2)))
 all_goals
  have HNR : NR w2 n' p' l' c' (subP a b).1 := by rw [<- S.out]; exact hnr
  rw [S.out]
  clear hnr
  go_wp2_with fail
  refine bodyPost_ret (v := .tuple #[.agg #[.bool n', .slice p' l' c'], .bool (subP a b).2]) (by simp [results, Tryz.results137, go_sem, *]) rfl ?_
  exact ⟨n', p', l', c', rfl, (by repeat (first | assumption | refine NR.set ?_ (by assumption) _ (by first | (simp; done) | (simp; omega) | omega) _ | refine NR.alloc ?_ _)), hnew'.mono (by first | omega | (simp; omega)), bxx⟩
theorem r01_Cmp (a b : Nm) (na nb : Bool) (pa pb : Option Addr) (la ca lb cb : Nat) (w : World) (ha : NR w na pa la ca a) (hb : NR w nb pb lb cb b) :
  Calls Tryz.prog 120 #[.agg #[.bool na, .slice pa la ca], .agg #[.bool nb, .slice pb lb cb]] w fun e w' => e = .returned (.int .i64 (cmpP a b)) /\ Ext w w' := by
 by_cases ra : a.right = true
 ·by_cases rb : b.right = true
  ·have n1 := ha.1
   have n2 := hb.1
   have da := ha.2.2.dig
   have db := hb.2.2.dig
   cases h1 : a.neg <;> cases h2 : b.neg <;> rw [h1] at n1 <;> rw [h2] at n2 <;> subst n1 n2
   ·have S := Lib.hid (cmpP_pos ra rb da db h1 h2)
    clear h1 h2
    go_enter Tryz.func120, Tryz.ntmps120
    go_wp2_with fail
    refine (r01_Right a _ _ _ _ _ (ha.ext bxx)).mono ?_
    rintro e w1 ⟨rfl, hx⟩
    rw [ra]
    have hx0 : Ext w w1 := Ext.step bxx hx
    have hz_w1 : w.heap.size + 2 <= w1.heap.size := Nat.le_trans omm hx.size
    obtain ⟨hl_w1_0, hk_w1_0, hf_w1_0⟩ := extK hx (w.heap.size)
    obtain ⟨hl_w1_1, hk_w1_1, hf_w1_1⟩ := extK hx (w.heap.size + 1)
    go_wp2_with fail
    refine (r01_Right b _ _ _ _ _ (hb.ext bxx)).mono ?_
    rintro e w2 ⟨rfl, hx2⟩
    rw [rb]
    have hx1 : Ext w w2 := Ext.step hx0 hx2
    have hz_w2 : w.heap.size + 2 <= w2.heap.size := Nat.le_trans omm hx2.size
    obtain ⟨hl_w2_0, hk_w2_0, hf_w2_0⟩ := extK hx2 (w.heap.size)
    obtain ⟨hl_w2_1, hk_w2_1, hf_w2_1⟩ := extK hx2 (w.heap.size + 1)
    go_wp2_with fail
    refine (r01_compare a.d b.d _ _ _ _ _ _ _ (ha.2.2.ext bxx) (hb.2.2.ext bxx) ha.2.1 hb.2.1).mono ?_
    rintro e w3 ⟨rfl, hx3⟩
    have hx4 : Ext w w3 := Ext.step hx1 hx3
    go_wp2
    go_ret
    exact ⟨by rw [S.out]; rfl, hx4⟩
   ·have S := Lib.hid (cmpP_more ra rb db h1 h2)
    clear h1 h2
    go_enter Tryz.func120, Tryz.ntmps120
    go_wp2_with fail
    refine (r01_Right a _ _ _ _ _ (ha.ext bxx)).mono ?_
    rintro e w1 ⟨rfl, hx⟩
    rw [ra]
    have hx0 : Ext w w1 := Ext.step bxx hx
    have hz_w1 : w.heap.size + 2 <= w1.heap.size := Nat.le_trans omm hx.size
    obtain ⟨hl_w1_0, hk_w1_0, hf_w1_0⟩ := extK hx (w.heap.size)
    obtain ⟨hl_w1_1, hk_w1_1, hf_w1_1⟩ := extK hx (w.heap.size + 1)
    go_wp2_with fail
    refine (r01_Right b _ _ _ _ _ (hb.ext bxx)).mono ?_
    rintro e w2 ⟨rfl, hx2⟩
    rw [rb]
    have hx1 : Ext w w2 := Ext.step hx0 hx2
    have hz_w2 : w.heap.size + 2 <= w2.heap.size := Nat.le_trans omm hx2.size
    obtain ⟨hl_w2_0, hk_w2_0, hf_w2_0⟩ := extK hx2 (w.heap.size)
    obtain ⟨hl_w2_1, hk_w2_1, hf_w2_1⟩ := extK hx2 (w.heap.size + 1)
    go_wp2
    go_ret
    exact ⟨by rw [S.out]; rfl, hx1⟩
   ·have S := Lib.hid (cmpP_less ra rb da h1 h2)
    clear h1 h2
    go_enter Tryz.func120, Tryz.ntmps120
    go_wp2_with fail
    refine (r01_Right a _ _ _ _ _ (ha.ext bxx)).mono ?_
    rintro e w1 ⟨rfl, hx⟩
    rw [ra]
    have hx0 : Ext w w1 := Ext.step bxx hx
    have hz_w1 : w.heap.size + 2 <= w1.heap.size := Nat.le_trans omm hx.size
    obtain ⟨hl_w1_0, hk_w1_0, hf_w1_0⟩ := extK hx (w.heap.size)
    obtain ⟨hl_w1_1, hk_w1_1, hf_w1_1⟩ := extK hx (w.heap.size + 1)
    go_wp2_with fail
    refine (r01_Right b _ _ _ _ _ (hb.ext bxx)).mono ?_
    rintro e w2 ⟨rfl, hx2⟩
    rw [rb]
    have hx1 : Ext w w2 := Ext.step hx0 hx2
    have hz_w2 : w.heap.size + 2 <= w2.heap.size := Nat.le_trans omm hx2.size
    obtain ⟨hl_w2_0, hk_w2_0, hf_w2_0⟩ := extK hx2 (w.heap.size)
    obtain ⟨hl_w2_1, hk_w2_1, hf_w2_1⟩ := extK hx2 (w.heap.size + 1)
    go_wp2
    go_ret
    exact ⟨by rw [S.out]; rfl, hx1⟩
   ·have S := Lib.hid (cmpP_negs ra rb da db h1 h2)
    clear h1 h2
    go_enter Tryz.func120, Tryz.ntmps120
    go_wp2_with fail
    refine (r01_Right a _ _ _ _ _ (ha.ext bxx)).mono ?_
    rintro e w1 ⟨rfl, hx⟩
    rw [ra]
    have hx0 : Ext w w1 := Ext.step bxx hx
    have hz_w1 : w.heap.size + 2 <= w1.heap.size := Nat.le_trans omm hx.size
    obtain ⟨hl_w1_0, hk_w1_0, hf_w1_0⟩ := extK hx (w.heap.size)
    obtain ⟨hl_w1_1, hk_w1_1, hf_w1_1⟩ := extK hx (w.heap.size + 1)
    go_wp2_with fail
    refine (r01_Right b _ _ _ _ _ (hb.ext bxx)).mono ?_
    rintro e w2 ⟨rfl, hx2⟩
    rw [rb]
    have hx1 : Ext w w2 := Ext.step hx0 hx2
    have hz_w2 : w.heap.size + 2 <= w2.heap.size := Nat.le_trans omm hx2.size
    obtain ⟨hl_w2_0, hk_w2_0, hf_w2_0⟩ := extK hx2 (w.heap.size)
    obtain ⟨hl_w2_1, hk_w2_1, hf_w2_1⟩ := extK hx2 (w.heap.size + 1)
    go_wp2_with fail
    refine (r01_compare b.d a.d _ _ _ _ _ _ _ (hb.2.2.ext bxx) (ha.2.2.ext bxx) hb.2.1 ha.2.1).mono ?_
    rintro e w3 ⟨rfl, hx3⟩
    have hx4 : Ext w w3 := Ext.step hx1 hx3
    go_wp2
    go_ret
    exact ⟨by rw [S.out]; rfl, hx4⟩
  ·have rb : b.right = false := by simpa using rb
   have S := Lib.hid (cmpP_none (a := a) (.inr rb))
   go_enter Tryz.func120, Tryz.ntmps120
   go_wp2_with fail
   refine (r01_Right a _ _ _ _ _ (ha.ext bxx)).mono ?_
   rintro e w1 ⟨rfl, hx⟩
   rw [ra]
   have hx0 : Ext w w1 := Ext.step bxx hx
   have hz_w1 : w.heap.size + 2 <= w1.heap.size := Nat.le_trans omm hx.size
   obtain ⟨hl_w1_0, hk_w1_0, hf_w1_0⟩ := extK hx (w.heap.size)
   obtain ⟨hl_w1_1, hk_w1_1, hf_w1_1⟩ := extK hx (w.heap.size + 1)
   go_wp2_with fail
   refine (r01_Right b _ _ _ _ _ (hb.ext bxx)).mono ?_
   rintro e w2 ⟨rfl, hx2⟩
   rw [rb]
   have hx1 : Ext w w2 := Ext.step hx0 hx2
   have hz_w2 : w.heap.size + 2 <= w2.heap.size := Nat.le_trans omm hx2.size
   obtain ⟨hl_w2_0, hk_w2_0, hf_w2_0⟩ := extK hx2 (w.heap.size)
   obtain ⟨hl_w2_1, hk_w2_1, hf_w2_1⟩ := extK hx2 (w.heap.size + 1)
   go_wp2
   go_ret
   exact ⟨by rw [S.out]; rfl, hx1⟩
 ·have ra : a.right = false := by simpa using ra
  have S := Lib.hid (cmpP_none (b := b) (.inl ra))
  go_enter Tryz.func120, Tryz.ntmps120
  go_wp2_with fail
  refine (r01_Right a _ _ _ _ _ (ha.ext bxx)).mono ?_
  rintro e w1 ⟨rfl, hx⟩
  rw [ra]
  have hx0 : Ext w w1 := Ext.step bxx hx
  have hz_w1 : w.heap.size + 2 <= w1.heap.size := Nat.le_trans omm hx.size
  obtain ⟨hl_w1_0, hk_w1_0, hf_w1_0⟩ := extK hx (w.heap.size)
  obtain ⟨hl_w1_1, hk_w1_1, hf_w1_1⟩ := extK hx (w.heap.size + 1)
  go_wp2
  go_ret
  exact ⟨by rw [S.out]; rfl, hx0⟩
end Go.Proofs.YtighahcllmoajaaGreat
