/- Contract: num.Mul. | The examples of law 01: what the contracts say at them. -/
import Derived.Test.YtdaaknfmodbjcaaDoorJ05
import Derived.Test.YtdaaknfmodbjcaaDoorJ13
import Derived.Test.YtdaaknfmodbjcaaDoorJ06
import Derived.Test.YtdaaknfmodbjcaaDoorJ12
import Derived.Test.YtdaaknfmodbjcaaDoorJ04
set_option linter.unusedVariables false
set_option linter.unusedSimpArgs false

namespace Go.Proofs.YtdaaknfmodbjcaaDoor
open Go.RowKit

theorem own_len {w : World} {B e : Nat} {v : Value} {n : Nat} {o : List Nat} (h : w.ownsRow B e 1 v n (enc o)) : o.length = n := by
  have := h.1
  rwa [enc_length, Nat.mul_one] at this
theorem own_cell {w : World} {B e g n c : Nat} {o : List Nat} (h : w.ownsRow B e 1 (.slice (some ⟨g, 0, none⟩) n c) n (enc o)) (j q : Nat) (hj : j < n) (hq : o[j]?.getD 0 = q) : w.cell? ⟨g, j, none⟩ = some (.int .u32 (q : Int)) := by
  rw [h.cellAt j (by omega), enc_get o j (by rw [own_len h]; exact hj), hq]
theorem own_set {w : World} {B e g n c : Nat} {o : List Nat} (h : w.ownsRow B e 1 (.slice (some ⟨g, 0, none⟩) n c) n (enc o)) (j d : Nat) :
    (w.setCell ⟨g, j, none⟩ (.int .u32 (d : Int))).ownsRow B e 1 (.slice (some ⟨g, 0, none⟩) n c) n (enc (o.set j d)) ∧ w.grownBy (w.setCell ⟨g, j, none⟩ (.int .u32 (d : Int))) (some g) := by
  have := h.stored j (.int .u32 (d : Int))
  have e : (enc o).set j (.int .u32 (d : Int)) = enc (o.set j d) := by simp [enc, List.map_set]
  rw [e] at this
  exact this

theorem mulP_left {a b : Nm} (ha : a.right = false) : mulP a b = (zero, false) := by simp [mulP, ha]
theorem mulP_right {a b : Nm} (hb : b.right = false) : mulP a b = (zero, false) := by simp [mulP, hb]
theorem mulP_made {a b : Nm} {o : List Nat} (ra : a.right = true) (rb : b.right = true) (hv : val o = val a.d * val b.d) : madeP (a.neg != b.neg) o = mulP a b := by
  rw [madeP_fit, mulP, ra, rb, hv, Nm.z, Nm.z]
  have e : (((val a.d * val b.d : Nat)) : Int) = (val a.d : Int) * (val b.d : Int) := by simp
  rw [e]
  cases a.neg <;> cases b.neg <;> simp [Int.neg_mul, Int.mul_neg]

set_option maxRecDepth 100000 in
set_option maxHeartbeats 4000000 in
theorem num_mul_main (a b : Nm) (na nb : Bool) (pa pb : Option Addr) (la ca lb cb : Nat) (w : World) (ha : NR w na pa la ca a) (hb : NR w nb pb lb cb b) (ra : a.right = true) (rb : b.right = true) :
    Calls Tryd.prog 18 #[.agg #[.bool na, .slice pa la ca], .agg #[.bool nb, .slice pb lb cb]] w (RetNum w (mulP a b)) := by
  have la64 := ha.len ra
  have lb64 := hb.len rb
  have hla := ha.2.1
  have hlb := hb.2.1
  have rowa := ha.2.2
  have rowb := hb.2.2
  have hnn : (na != nb) = (a.neg != b.neg) := by rw [ha.1, hb.1]
  have HNN := Lib.hid hnn
  have la64' : la ≤ 64 := by omega
  have lb64' : lb ≤ 64 := by omega
  have HLA := Lib.hid hla
  have HLB := Lib.hid hlb
  clear hla hlb hnn
  obtain ⟨i, hi, hz0, hz1, hz2⟩ := info_parts info32
  go_enter Tryd.func18, Tryd.ntmps18
  go_wp2_with fail
  refine (num_Right a _ _ _ _ _ (ha.ext (by (repeat (first | exact Below.refl _ _ | assumption | refine Below.drewN ?_ _ | refine Below.drew ?_ | refine Below.setCell ?_ (by first | exact Nat.le_refl _ | (simp; done) | (simp; omega) | omega) _ | refine Below.alloc ?_ (by first | exact Nat.le_refl _ | (simp; done) | (simp; omega) | omega) _))))).mono ?_
  rintro e w1 ⟨rfl, hx⟩
  rw [ra]
  have hx0 : Ext w w1 := Ext.step (by (repeat (first | exact Below.refl _ _ | assumption | refine Below.drewN ?_ _ | refine Below.drew ?_ | refine Below.setCell ?_ (by first | exact Nat.le_refl _ | (simp; done) | (simp; omega) | omega) _ | refine Below.alloc ?_ (by first | exact Nat.le_refl _ | (simp; done) | (simp; omega) | omega) _))) hx
  have hz_w1 : w.heap.size + 3 ≤ w1.heap.size := Nat.le_trans (by first | omega | (simp; done) | (simp; omega)) hx.size
  have hl_w1_0 : w.heap.size < w1.heap.size := Nat.lt_of_lt_of_le (by omega) hz_w1
  have hk_w1_0 : ∀ o, w1.cell? ⟨w.heap.size, o, none⟩ = _ := fun o => hx.cell (p := ⟨w.heap.size, o, none⟩) (show w.heap.size < _ from (by first | omega | (simp; done) | (simp; omega)))
  have hf_w1_0 : ∀ o, w1.frozen? ⟨w.heap.size, o, none⟩ = _ := fun o => hx.frozen (p := ⟨w.heap.size, o, none⟩) (show w.heap.size < _ from (by first | omega | (simp; done) | (simp; omega)))
  have hl_w1_1 : w.heap.size + 1 < w1.heap.size := Nat.lt_of_lt_of_le (by omega) hz_w1
  have hk_w1_1 : ∀ o, w1.cell? ⟨w.heap.size + 1, o, none⟩ = _ := fun o => hx.cell (p := ⟨w.heap.size + 1, o, none⟩) (show w.heap.size + 1 < _ from (by first | omega | (simp; done) | (simp; omega)))
  have hf_w1_1 : ∀ o, w1.frozen? ⟨w.heap.size + 1, o, none⟩ = _ := fun o => hx.frozen (p := ⟨w.heap.size + 1, o, none⟩) (show w.heap.size + 1 < _ from (by first | omega | (simp; done) | (simp; omega)))
  have hl_w1_2 : w.heap.size + 2 < w1.heap.size := Nat.lt_of_lt_of_le (by omega) hz_w1
  have hk_w1_2 : ∀ o, w1.cell? ⟨w.heap.size + 2, o, none⟩ = _ := fun o => hx.cell (p := ⟨w.heap.size + 2, o, none⟩) (show w.heap.size + 2 < _ from (by first | omega | (simp; done) | (simp; omega)))
  have hf_w1_2 : ∀ o, w1.frozen? ⟨w.heap.size + 2, o, none⟩ = _ := fun o => hx.frozen (p := ⟨w.heap.size + 2, o, none⟩) (show w.heap.size + 2 < _ from (by first | omega | (simp; done) | (simp; omega)))
  go_wp2_with fail
  refine (num_Right b _ _ _ _ _ (hb.ext (by (repeat (first | exact Below.refl _ _ | assumption | refine Below.drewN ?_ _ | refine Below.drew ?_ | refine Below.setCell ?_ (by first | exact Nat.le_refl _ | (simp; done) | (simp; omega) | omega) _ | refine Below.alloc ?_ (by first | exact Nat.le_refl _ | (simp; done) | (simp; omega) | omega) _))))).mono ?_
  rintro e w2 ⟨rfl, hx2⟩
  rw [rb]
  have hx1 : Ext w w2 := Ext.step hx0 hx2
  have hz_w2 : w.heap.size + 3 ≤ w2.heap.size := Nat.le_trans (by first | omega | (simp; done) | (simp; omega)) hx2.size
  have hl_w2_0 : w.heap.size < w2.heap.size := Nat.lt_of_lt_of_le (by omega) hz_w2
  have hk_w2_0 : ∀ o, w2.cell? ⟨w.heap.size, o, none⟩ = _ := fun o => hx2.cell (p := ⟨w.heap.size, o, none⟩) (show w.heap.size < _ from (by first | omega | (simp; done) | (simp; omega)))
  have hf_w2_0 : ∀ o, w2.frozen? ⟨w.heap.size, o, none⟩ = _ := fun o => hx2.frozen (p := ⟨w.heap.size, o, none⟩) (show w.heap.size < _ from (by first | omega | (simp; done) | (simp; omega)))
  have hl_w2_1 : w.heap.size + 1 < w2.heap.size := Nat.lt_of_lt_of_le (by omega) hz_w2
  have hk_w2_1 : ∀ o, w2.cell? ⟨w.heap.size + 1, o, none⟩ = _ := fun o => hx2.cell (p := ⟨w.heap.size + 1, o, none⟩) (show w.heap.size + 1 < _ from (by first | omega | (simp; done) | (simp; omega)))
  have hf_w2_1 : ∀ o, w2.frozen? ⟨w.heap.size + 1, o, none⟩ = _ := fun o => hx2.frozen (p := ⟨w.heap.size + 1, o, none⟩) (show w.heap.size + 1 < _ from (by first | omega | (simp; done) | (simp; omega)))
  have hl_w2_2 : w.heap.size + 2 < w2.heap.size := Nat.lt_of_lt_of_le (by omega) hz_w2
  have hk_w2_2 : ∀ o, w2.cell? ⟨w.heap.size + 2, o, none⟩ = _ := fun o => hx2.cell (p := ⟨w.heap.size + 2, o, none⟩) (show w.heap.size + 2 < _ from (by first | omega | (simp; done) | (simp; omega)))
  have hf_w2_2 : ∀ o, w2.frozen? ⟨w.heap.size + 2, o, none⟩ = _ := fun o => hx2.frozen (p := ⟨w.heap.size + 2, o, none⟩) (show w.heap.size + 2 < _ from (by first | omega | (simp; done) | (simp; omega)))
  obtain ⟨N, hN⟩ : ∃ N, N = la + lb := ⟨_, rfl⟩
  have hN1 : N ≤ la + lb := Nat.le_of_eq hN
  have hN2 : la + lb ≤ N := Nat.le_of_eq hN.symm
  clear hN
  go_wp2_with (at_make; refine wpList_make_full _ rfl _ _ 24 rfl w2.heap.size 48 i (.int .u32 0) 1 Tryd.underlying24 hi hz0 hz1 _ _ _ _ N rfl rfl (by omega) (by omega) (by rw [hz2]; omega) (by unfold maxLen; omega) (Nat.le_refl _) ?_)
  intro w3 hown hgr
  rw [show (madeCells #[Value.int IntKind.u32 0] N).toList = enc (List.replicate N 0) from by rw [enc, List.map_replicate]; exact toList_madeCells_one _ _] at hown
  obtain ⟨g, G⟩ : ∃ g, Hid (w2.heap.size = g) := ⟨_, rfl⟩
  have hx3 : Ext w2 w3 := ⟨hgr.os, hgr.tape, hgr.output, hgr.size, fun k hk => hgr.block k hk (by simp)⟩
  have hx4 : Ext w w3 := Ext.step hx1 hx3
  have hz_w3 : w.heap.size + 3 ≤ w3.heap.size := Nat.le_trans (by first | omega | (simp; done) | (simp; omega)) hx3.size
  have hl_w3_0 : w.heap.size < w3.heap.size := Nat.lt_of_lt_of_le (by omega) hz_w3
  have hk_w3_0 : ∀ o, w3.cell? ⟨w.heap.size, o, none⟩ = _ := fun o => hx3.cell (p := ⟨w.heap.size, o, none⟩) (show w.heap.size < _ from (by first | omega | (simp; done) | (simp; omega)))
  have hf_w3_0 : ∀ o, w3.frozen? ⟨w.heap.size, o, none⟩ = _ := fun o => hx3.frozen (p := ⟨w.heap.size, o, none⟩) (show w.heap.size < _ from (by first | omega | (simp; done) | (simp; omega)))
  have hl_w3_1 : w.heap.size + 1 < w3.heap.size := Nat.lt_of_lt_of_le (by omega) hz_w3
  have hk_w3_1 : ∀ o, w3.cell? ⟨w.heap.size + 1, o, none⟩ = _ := fun o => hx3.cell (p := ⟨w.heap.size + 1, o, none⟩) (show w.heap.size + 1 < _ from (by first | omega | (simp; done) | (simp; omega)))
  have hf_w3_1 : ∀ o, w3.frozen? ⟨w.heap.size + 1, o, none⟩ = _ := fun o => hx3.frozen (p := ⟨w.heap.size + 1, o, none⟩) (show w.heap.size + 1 < _ from (by first | omega | (simp; done) | (simp; omega)))
  have hl_w3_2 : w.heap.size + 2 < w3.heap.size := Nat.lt_of_lt_of_le (by omega) hz_w3
  have hk_w3_2 : ∀ o, w3.cell? ⟨w.heap.size + 2, o, none⟩ = _ := fun o => hx3.cell (p := ⟨w.heap.size + 2, o, none⟩) (show w.heap.size + 2 < _ from (by first | omega | (simp; done) | (simp; omega)))
  have hf_w3_2 : ∀ o, w3.frozen? ⟨w.heap.size + 2, o, none⟩ = _ := fun o => hx3.frozen (p := ⟨w.heap.size + 2, o, none⟩) (show w.heap.size + 2 < _ from (by first | omega | (simp; done) | (simp; omega)))
  rw [G.out] at hown ⊢
  have hg0 : w.heap.size + 3 ≤ g := by rw [← G.out]; exact hz_w2
  have hg1 : g < w3.heap.size := by
    obtain ⟨_, h⟩ := hown
    rcases h with ⟨h, _⟩ | ⟨g', _, _, h, _, hh, _⟩
    · cases h
    · cases h
      exact (Array.getElem?_eq_some_iff.1 hh).1
  clear hgr hx hx2 hx3 hx0
  go_wp2_with fail
  have c0 : w3.cell? ⟨w.heap.size, 0, none⟩ = some (.bool na) := by go_simp
  have c1 : w3.cell? ⟨w.heap.size, 1, none⟩ = some (.slice pa la ca) := by go_simp
  have c2 : w3.cell? ⟨w.heap.size + 1, 0, none⟩ = some (.bool nb) := by go_simp
  have c3 : w3.cell? ⟨w.heap.size + 1, 1, none⟩ = some (.slice pb lb cb) := by go_simp
  have c4 : w3.cell? ⟨w.heap.size + 2, 0, none⟩ = some (.bool false) := by go_simp
  have c5 : w3.cell? ⟨w.heap.size + 2, 1, none⟩ = some (.slice none 0 0) := by go_simp
  have f4 : ∀ o, w3.frozen? ⟨w.heap.size + 2, o, none⟩ = false := by intro o; go_simp
  have rowa3 := rowa.ext hx4
  have rowb3 := rowb.ext hx4
  have bla : 0 < a.d.length → ∀ x, pa = some x → x.block ≠ g := by
    intro h0 x hx
    obtain ⟨b', o, hp, hlt, _⟩ := rowa.at h0
    rw [hp] at hx
    cases hx
    exact Nat.ne_of_lt (show b' < g by omega)
  have blb : 0 < b.d.length → ∀ x, pb = some x → x.block ≠ g := by
    intro h0 x hx
    obtain ⟨b', o, hp, hlt, _⟩ := rowb.at h0
    rw [hp] at hx
    cases hx
    exact Nat.ne_of_lt (show b' < g by omega)
  have BLA := Lib.hid bla
  have BLB := Lib.hid blb
  have C0 := Lib.hid c0
  have C2 := Lib.hid c2
  have C4 := Lib.hid c4
  have C5 := Lib.hid c5
  have C1 := Lib.hid c1
  have C3 := Lib.hid c3
  have F4 := Lib.hid f4
  have RA := Lib.hid rowa3
  have RB := Lib.hid rowb3
  clear hk_w1_0 hk_w1_1 hk_w1_2 hf_w1_0 hf_w1_1 hf_w1_2 hk_w2_0 hk_w2_1 hk_w2_2 hf_w2_0 hf_w2_1 hf_w2_2 hk_w3_0 hk_w3_1 hk_w3_2 hf_w3_0 hf_w3_1 hf_w3_2 c0 c1 c2 c3 c4 c5 f4 rowa3 rowb3 bla blb rowa rowb ha hb
  go_loopw [32] (fun i wr => ∃ (n : Nat) (o : List Nat), n ≤ la ∧ i = .int .i64 (n : Int) ∧ Dig o ∧ val o = val (a.d.take n) * val b.d ∧ Zeros o (n + lb) ∧ wr.ownsRow g 48 1 (.slice (some ⟨g, 0, none⟩) N N) N (enc o) ∧ w3.grownBy wr (some g)) (fun i _ => la - (intOf i).toNat)
  case atStart => exact ⟨0, _, Nat.zero_le _, rfl, fun x hx => by rw [List.eq_of_mem_replicate hx]; decide, by rw [val_replicate]; simp [val], Zeros.replicate _ _, hown, ⟨rfl, rfl, rfl, Nat.le_refl _, fun _ _ _ => rfl⟩⟩
  case round =>
    clear hown
    obtain ⟨n, o, hn, rfl, hd, hv, hz, hown, hg⟩ := hrel
    by_cases hlt : n < la
    · have RAw := RA.out.grown BLA.out hg
      obtain ⟨ba, oa, rfl, hba, hca⟩ := RAw.at (by rw [← HLA.out]; omega)
      have hca1 := hca n (by rw [← HLA.out]; omega)
      obtain ⟨x, X⟩ : ∃ x, Hid (a.d[n]?.getD 0 = x) := ⟨_, rfl⟩
      rw [X.out] at hca1
      have hxd : x < 4294967296 := by have := RA.out.dig.getD n; rw [List.getD_eq_getElem?_getD, X.out] at this; exact this
      have c3 : wr.cell? ⟨w.heap.size + 1, 1, none⟩ = some (.slice pb lb cb) := (World.cell?_of_block (hg.block _ (show w.heap.size + 1 < w3.heap.size by omega) (by simp; omega))).trans C3.out
      have M0 := Lib.hid (MulInv.start (a := a.d) (b := b.d) (i := n) (x := x) hd hv)
      clear hca hd hv
      have V := Lib.hid hz
      clear hz
      go_wp2_with fail
      go_loopw [9, 40] (fun cr kk wi => ∃ (k c : Nat) (q : List Nat), k ≤ lb ∧ kk = .int .i64 (k : Int) ∧ cr = .int .u64 (c : Int) ∧ MulInv a.d b.d q n k x c ∧ Zeros q (n + lb) ∧ wi.ownsRow g 48 1 (.slice (some ⟨g, 0, none⟩) N N) N (enc q) ∧ w3.grownBy wi (some g)) (fun _ kk _ => lb - (intOf kk).toNat)
      case atStart => exact ⟨0, 0, o, Nat.zero_le _, rfl, rfl, M0.out, V.out, hown, hg⟩
      case round =>
        clear hown hg c3 hca1
        obtain ⟨k, c, q, hk, rfl, rfl, hm, hz, hown, hg⟩ := hrel
        by_cases hkl : k < lb
        · have RBw := RB.out.grown BLB.out hg
          obtain ⟨bb, ob, rfl, hbb, hcb⟩ := RBw.at (by rw [← HLB.out]; omega)
          have hcb1 := hcb k (by rw [← HLB.out]; omega)
          obtain ⟨y, Y⟩ : ∃ y, Hid (b.d[k]?.getD 0 = y) := ⟨_, rfl⟩
          rw [Y.out] at hcb1
          have hyd : y < 4294967296 := by have := RB.out.dig.getD k; rw [List.getD_eq_getElem?_getD, Y.out] at this; exact this
          obtain ⟨u, U⟩ : ∃ u, Hid (q[n + k]?.getD 0 = u) := ⟨_, rfl⟩
          have hud : u < 4294967296 := by have := hm.1.getD (n + k); rw [List.getD_eq_getElem?_getD, U.out] at this; exact this
          have hql := own_len hown
          have hcu := own_cell hown (n + k) u (by omega) U.out
          have hfu := hown.frozenAt (n + k)
          obtain ⟨m, MM⟩ : ∃ m, Hid (x * y = m) := ⟨_, rfl⟩
          have hme : (x : Int) * (y : Int) = (m : Int) := by rw [← MM.out]; simp
          have hmb : m ≤ 18446744065119617025 := by rw [← MM.out]; exact Nat.mul_le_mul (show x ≤ 4294967295 by omega) (show y ≤ 4294967295 by omega)
          have hcd := hm.2.1
          have M1 := Lib.hid (hm.step (by omega) hxd Y.out hyd U.out hud MM.out)
          have hst := own_set hown (n + k) ((c + (u + m)) % 4294967296)
          have ST := Lib.hid hst.1
          have SG := Lib.hid (grownBy_trans hg hst.2)
          have Tryd1 := Lib.hid (hz.set (j := n + k) (d := (c + (u + m)) % 4294967296) (by omega))
          clear hcb hm hst hz hql hown hg
          go_wp2
          have e : (((c + (u + m)) % 4294967296 : Nat) : Int) = ((c : Int) + ((u : Int) + (m : Int))) % 4294967296 := by omega
          have s1 := ST.out
          have s2 := SG.out
          rw [e] at s1 s2
          exact ⟨⟨k + 1, (c + (u + m)) / 4294967296, _, by omega, rfl, ret_u64 (by omega), M1.out, Tryd1.out, s1, s2⟩, by simp [intOf]; omega⟩
        · have hk2 : lb ≤ k := by omega
          have hql := own_len hown
          have hcu := own_cell hown (n + lb) 0 (by omega) (hz _ (Nat.le_refl _))
          have hfu := hown.frozenAt (n + lb)
          obtain rfl : k = lb := by omega
          have c3 : wr.cell? ⟨w.heap.size + 1, 1, none⟩ = some (.slice pb k cb) := (World.cell?_of_block (hg.block _ (show w.heap.size + 1 < w3.heap.size by omega) (by simp; omega))).trans C3.out
          have hst := own_set hown (n + k) c
          have ST := Lib.hid hst.1
          have SG := Lib.hid (grownBy_trans hg hst.2)
          have FIN := Lib.hid (hm.finish (by rw [← HLB.out]; exact Nat.le_refl _) X.out (hz _ (Nat.le_refl _)) (by omega))
          have hcd := hm.2.1
          have Tryd1 := Lib.hid ((hz.mono (show n + k ≤ n + 1 + k by omega)).set (j := n + k) (d := c) (by omega))
          clear hst hm hz hql hown hg
          go_wp2
          exact ⟨⟨n + 1, _, by omega, rfl, FIN.out.1, FIN.out.2, Tryd1.out, ST.out, SG.out⟩, by simp [intOf]; omega⟩
    · obtain rfl : n = la := by omega
      have hql := own_len hown
      obtain ⟨p', c', hv', hrow, _⟩ := row_of_owns hown hd
      obtain ⟨rfl, rfl⟩ : some (⟨g, 0, none⟩ : Addr) = p' ∧ N = c' := by
        simp only [Value.slice.injEq] at hv'
        exact ⟨hv'.1, hv'.2.2⟩
      have MP : Hid (madeP (na != nb) o = mulP a b) := by
        have := mulP_made ra rb (o := o) (by rw [hv, HLA.out, List.take_of_length_le (Nat.le_refl _)])
        rw [HNN.out]; exact this
      have ROW := Lib.hid hrow
      have HQ := Lib.hid hql
      have hx5 : Ext w wr := ⟨hg.os.trans hx4.os, hg.tape.trans hx4.tape, hg.output.trans hx4.output, Nat.le_trans hx4.size hg.size, fun k hk => (hg.block k (by omega) (by simp; omega)).trans (hx4.block k hk)⟩
      have kp : ∀ j o, j < 3 → wr.cell? ⟨w.heap.size + j, o, none⟩ = w3.cell? ⟨w.heap.size + j, o, none⟩ := fun j o hj => World.cell?_of_block (hg.block _ (show w.heap.size + j < w3.heap.size by omega) (by simp; omega))
      have kf : ∀ j o, j < 3 → wr.frozen? ⟨w.heap.size + j, o, none⟩ = w3.frozen? ⟨w.heap.size + j, o, none⟩ := fun j o hj => World.frozen?_of_block (hg.block _ (show w.heap.size + j < w3.heap.size by omega) (by simp; omega))
      have c0 : wr.cell? ⟨w.heap.size, 0, none⟩ = some (.bool na) := (kp 0 0 (by omega)).trans C0.out
      have c2 : wr.cell? ⟨w.heap.size + 1, 0, none⟩ = some (.bool nb) := (kp 1 0 (by omega)).trans C2.out
      have c4 : wr.cell? ⟨w.heap.size + 2, 0, none⟩ = some (.bool false) := (kp 2 0 (by omega)).trans C4.out
      have c5 : wr.cell? ⟨w.heap.size + 2, 1, none⟩ = some (.slice none 0 0) := (kp 2 1 (by omega)).trans C5.out
      have f4 : ∀ o, wr.frozen? ⟨w.heap.size + 2, o, none⟩ = false := fun o => (kf 2 o (by omega)).trans (F4.out o)
      have hzr : w.heap.size + 3 ≤ wr.heap.size := by have := hg.size; omega
      clear kp kf hrow hql hv' hown hd hv hz hg
      go_wp2_with fail
      refine (num_made (na != nb) o _ _ _ _ ROW.out HQ.out.symm).mono ?_
      rintro e w4 ⟨n', p', l', c', rfl, hnr, hnew, hx6⟩
      rw [MP.out] at hnr ⊢
      have hx7 : Ext w w4 := Ext.step hx5 hx6
      have hz_w4 : w.heap.size + 3 ≤ w4.heap.size := Nat.le_trans (by first | omega | (simp; done) | (simp; omega)) hx6.size
      have hl_w4_0 : w.heap.size < w4.heap.size := Nat.lt_of_lt_of_le (by omega) hz_w4
      have hk_w4_0 : ∀ o, w4.cell? ⟨w.heap.size, o, none⟩ = _ := fun o => hx6.cell (p := ⟨w.heap.size, o, none⟩) (show w.heap.size < _ from (by first | omega | (simp; done) | (simp; omega)))
      have hf_w4_0 : ∀ o, w4.frozen? ⟨w.heap.size, o, none⟩ = _ := fun o => hx6.frozen (p := ⟨w.heap.size, o, none⟩) (show w.heap.size < _ from (by first | omega | (simp; done) | (simp; omega)))
      have hl_w4_1 : w.heap.size + 1 < w4.heap.size := Nat.lt_of_lt_of_le (by omega) hz_w4
      have hk_w4_1 : ∀ o, w4.cell? ⟨w.heap.size + 1, o, none⟩ = _ := fun o => hx6.cell (p := ⟨w.heap.size + 1, o, none⟩) (show w.heap.size + 1 < _ from (by first | omega | (simp; done) | (simp; omega)))
      have hf_w4_1 : ∀ o, w4.frozen? ⟨w.heap.size + 1, o, none⟩ = _ := fun o => hx6.frozen (p := ⟨w.heap.size + 1, o, none⟩) (show w.heap.size + 1 < _ from (by first | omega | (simp; done) | (simp; omega)))
      have hl_w4_2 : w.heap.size + 2 < w4.heap.size := Nat.lt_of_lt_of_le (by omega) hz_w4
      have hk_w4_2 : ∀ o, w4.cell? ⟨w.heap.size + 2, o, none⟩ = _ := fun o => hx6.cell (p := ⟨w.heap.size + 2, o, none⟩) (show w.heap.size + 2 < _ from (by first | omega | (simp; done) | (simp; omega)))
      have hf_w4_2 : ∀ o, w4.frozen? ⟨w.heap.size + 2, o, none⟩ = _ := fun o => hx6.frozen (p := ⟨w.heap.size + 2, o, none⟩) (show w.heap.size + 2 < _ from (by first | omega | (simp; done) | (simp; omega)))
      go_wp2_with fail
      refine bodyPost_ret (v := .tuple #[.agg #[.bool n', .slice p' l' c'], .bool (mulP a b).2]) (by simp [results, Tryd.results18, go_sem, *]) rfl ?_
      exact ⟨n', p', l', c', rfl, (by repeat (first | assumption | refine NR.set ?_ (by assumption) _ (by first | (simp; done) | (simp; omega) | omega) _ | refine NR.alloc ?_ _)), hnew.mono (by omega), by (repeat (first | exact Below.refl _ _ | assumption | refine Below.drewN ?_ _ | refine Below.drew ?_ | refine Below.setCell ?_ (by first | exact Nat.le_refl _ | (simp; done) | (simp; omega) | omega) _ | refine Below.alloc ?_ (by first | exact Nat.le_refl _ | (simp; done) | (simp; omega) | omega) _))⟩

set_option maxRecDepth 100000 in
set_option maxHeartbeats 1000000 in
theorem num_Mul (a b : Nm) (na nb : Bool) (pa pb : Option Addr) (la ca lb cb : Nat) (w : World) (ha : NR w na pa la ca a) (hb : NR w nb pb lb cb b) :
    Calls Tryd.prog 18 #[.agg #[.bool na, .slice pa la ca], .agg #[.bool nb, .slice pb lb cb]] w (RetNum w (mulP a b)) := by
  by_cases ra : a.right = true
  · by_cases rb : b.right = true
    · exact num_mul_main a b na nb pa pb la ca lb cb w ha hb ra rb
    · have rb : b.right = false := by simpa using rb
      have S := Lib.hid (mulP_right (a := a) rb)
      go_enter Tryd.func18, Tryd.ntmps18
      go_wp2_with fail
      refine (num_Right a _ _ _ _ _ (ha.ext (by (repeat (first | exact Below.refl _ _ | assumption | refine Below.drewN ?_ _ | refine Below.drew ?_ | refine Below.setCell ?_ (by first | exact Nat.le_refl _ | (simp; done) | (simp; omega) | omega) _ | refine Below.alloc ?_ (by first | exact Nat.le_refl _ | (simp; done) | (simp; omega) | omega) _))))).mono ?_
      rintro e w1 ⟨rfl, hx⟩
      rw [ra]
      have hx0 : Ext w w1 := Ext.step (by (repeat (first | exact Below.refl _ _ | assumption | refine Below.drewN ?_ _ | refine Below.drew ?_ | refine Below.setCell ?_ (by first | exact Nat.le_refl _ | (simp; done) | (simp; omega) | omega) _ | refine Below.alloc ?_ (by first | exact Nat.le_refl _ | (simp; done) | (simp; omega) | omega) _))) hx
      have hz_w1 : w.heap.size + 3 ≤ w1.heap.size := Nat.le_trans (by first | omega | (simp; done) | (simp; omega)) hx.size
      have hl_w1_0 : w.heap.size < w1.heap.size := Nat.lt_of_lt_of_le (by omega) hz_w1
      have hk_w1_0 : ∀ o, w1.cell? ⟨w.heap.size, o, none⟩ = _ := fun o => hx.cell (p := ⟨w.heap.size, o, none⟩) (show w.heap.size < _ from (by first | omega | (simp; done) | (simp; omega)))
      have hf_w1_0 : ∀ o, w1.frozen? ⟨w.heap.size, o, none⟩ = _ := fun o => hx.frozen (p := ⟨w.heap.size, o, none⟩) (show w.heap.size < _ from (by first | omega | (simp; done) | (simp; omega)))
      have hl_w1_1 : w.heap.size + 1 < w1.heap.size := Nat.lt_of_lt_of_le (by omega) hz_w1
      have hk_w1_1 : ∀ o, w1.cell? ⟨w.heap.size + 1, o, none⟩ = _ := fun o => hx.cell (p := ⟨w.heap.size + 1, o, none⟩) (show w.heap.size + 1 < _ from (by first | omega | (simp; done) | (simp; omega)))
      have hf_w1_1 : ∀ o, w1.frozen? ⟨w.heap.size + 1, o, none⟩ = _ := fun o => hx.frozen (p := ⟨w.heap.size + 1, o, none⟩) (show w.heap.size + 1 < _ from (by first | omega | (simp; done) | (simp; omega)))
      have hl_w1_2 : w.heap.size + 2 < w1.heap.size := Nat.lt_of_lt_of_le (by omega) hz_w1
      have hk_w1_2 : ∀ o, w1.cell? ⟨w.heap.size + 2, o, none⟩ = _ := fun o => hx.cell (p := ⟨w.heap.size + 2, o, none⟩) (show w.heap.size + 2 < _ from (by first | omega | (simp; done) | (simp; omega)))
      have hf_w1_2 : ∀ o, w1.frozen? ⟨w.heap.size + 2, o, none⟩ = _ := fun o => hx.frozen (p := ⟨w.heap.size + 2, o, none⟩) (show w.heap.size + 2 < _ from (by first | omega | (simp; done) | (simp; omega)))
      go_wp2_with fail
      refine (num_Right b _ _ _ _ _ (hb.ext (by (repeat (first | exact Below.refl _ _ | assumption | refine Below.drewN ?_ _ | refine Below.drew ?_ | refine Below.setCell ?_ (by first | exact Nat.le_refl _ | (simp; done) | (simp; omega) | omega) _ | refine Below.alloc ?_ (by first | exact Nat.le_refl _ | (simp; done) | (simp; omega) | omega) _))))).mono ?_
      rintro e w2 ⟨rfl, hx2⟩
      rw [rb]
      have hx1 : Ext w w2 := Ext.step hx0 hx2
      have hz_w2 : w.heap.size + 3 ≤ w2.heap.size := Nat.le_trans (by first | omega | (simp; done) | (simp; omega)) hx2.size
      have hl_w2_0 : w.heap.size < w2.heap.size := Nat.lt_of_lt_of_le (by omega) hz_w2
      have hk_w2_0 : ∀ o, w2.cell? ⟨w.heap.size, o, none⟩ = _ := fun o => hx2.cell (p := ⟨w.heap.size, o, none⟩) (show w.heap.size < _ from (by first | omega | (simp; done) | (simp; omega)))
      have hf_w2_0 : ∀ o, w2.frozen? ⟨w.heap.size, o, none⟩ = _ := fun o => hx2.frozen (p := ⟨w.heap.size, o, none⟩) (show w.heap.size < _ from (by first | omega | (simp; done) | (simp; omega)))
      have hl_w2_1 : w.heap.size + 1 < w2.heap.size := Nat.lt_of_lt_of_le (by omega) hz_w2
      have hk_w2_1 : ∀ o, w2.cell? ⟨w.heap.size + 1, o, none⟩ = _ := fun o => hx2.cell (p := ⟨w.heap.size + 1, o, none⟩) (show w.heap.size + 1 < _ from (by first | omega | (simp; done) | (simp; omega)))
      have hf_w2_1 : ∀ o, w2.frozen? ⟨w.heap.size + 1, o, none⟩ = _ := fun o => hx2.frozen (p := ⟨w.heap.size + 1, o, none⟩) (show w.heap.size + 1 < _ from (by first | omega | (simp; done) | (simp; omega)))
      have hl_w2_2 : w.heap.size + 2 < w2.heap.size := Nat.lt_of_lt_of_le (by omega) hz_w2
      have hk_w2_2 : ∀ o, w2.cell? ⟨w.heap.size + 2, o, none⟩ = _ := fun o => hx2.cell (p := ⟨w.heap.size + 2, o, none⟩) (show w.heap.size + 2 < _ from (by first | omega | (simp; done) | (simp; omega)))
      have hf_w2_2 : ∀ o, w2.frozen? ⟨w.heap.size + 2, o, none⟩ = _ := fun o => hx2.frozen (p := ⟨w.heap.size + 2, o, none⟩) (show w.heap.size + 2 < _ from (by first | omega | (simp; done) | (simp; omega)))
      go_wp2_with fail
      refine bodyPost_ret (v := .tuple #[.agg #[.bool false, .slice none 0 0], .bool false]) (by simp [results, Tryd.results18, go_sem, *]) rfl ?_
      rw [S.out]
      exact ⟨false, none, 0, 0, rfl, ⟨rfl, rfl, Row.nil _⟩, New.none _, by (repeat (first | exact Below.refl _ _ | assumption | refine Below.drewN ?_ _ | refine Below.drew ?_ | refine Below.setCell ?_ (by first | exact Nat.le_refl _ | (simp; done) | (simp; omega) | omega) _ | refine Below.alloc ?_ (by first | exact Nat.le_refl _ | (simp; done) | (simp; omega) | omega) _))⟩
  · have ra : a.right = false := by simpa using ra
    have S := Lib.hid (mulP_left (b := b) ra)
    go_enter Tryd.func18, Tryd.ntmps18
    go_wp2_with fail
    refine (num_Right a _ _ _ _ _ (ha.ext (by (repeat (first | exact Below.refl _ _ | assumption | refine Below.drewN ?_ _ | refine Below.drew ?_ | refine Below.setCell ?_ (by first | exact Nat.le_refl _ | (simp; done) | (simp; omega) | omega) _ | refine Below.alloc ?_ (by first | exact Nat.le_refl _ | (simp; done) | (simp; omega) | omega) _))))).mono ?_
    rintro e w1 ⟨rfl, hx⟩
    rw [ra]
    have hx0 : Ext w w1 := Ext.step (by (repeat (first | exact Below.refl _ _ | assumption | refine Below.drewN ?_ _ | refine Below.drew ?_ | refine Below.setCell ?_ (by first | exact Nat.le_refl _ | (simp; done) | (simp; omega) | omega) _ | refine Below.alloc ?_ (by first | exact Nat.le_refl _ | (simp; done) | (simp; omega) | omega) _))) hx
    have hz_w1 : w.heap.size + 3 ≤ w1.heap.size := Nat.le_trans (by first | omega | (simp; done) | (simp; omega)) hx.size
    have hl_w1_0 : w.heap.size < w1.heap.size := Nat.lt_of_lt_of_le (by omega) hz_w1
    have hk_w1_0 : ∀ o, w1.cell? ⟨w.heap.size, o, none⟩ = _ := fun o => hx.cell (p := ⟨w.heap.size, o, none⟩) (show w.heap.size < _ from (by first | omega | (simp; done) | (simp; omega)))
    have hf_w1_0 : ∀ o, w1.frozen? ⟨w.heap.size, o, none⟩ = _ := fun o => hx.frozen (p := ⟨w.heap.size, o, none⟩) (show w.heap.size < _ from (by first | omega | (simp; done) | (simp; omega)))
    have hl_w1_1 : w.heap.size + 1 < w1.heap.size := Nat.lt_of_lt_of_le (by omega) hz_w1
    have hk_w1_1 : ∀ o, w1.cell? ⟨w.heap.size + 1, o, none⟩ = _ := fun o => hx.cell (p := ⟨w.heap.size + 1, o, none⟩) (show w.heap.size + 1 < _ from (by first | omega | (simp; done) | (simp; omega)))
    have hf_w1_1 : ∀ o, w1.frozen? ⟨w.heap.size + 1, o, none⟩ = _ := fun o => hx.frozen (p := ⟨w.heap.size + 1, o, none⟩) (show w.heap.size + 1 < _ from (by first | omega | (simp; done) | (simp; omega)))
    have hl_w1_2 : w.heap.size + 2 < w1.heap.size := Nat.lt_of_lt_of_le (by omega) hz_w1
    have hk_w1_2 : ∀ o, w1.cell? ⟨w.heap.size + 2, o, none⟩ = _ := fun o => hx.cell (p := ⟨w.heap.size + 2, o, none⟩) (show w.heap.size + 2 < _ from (by first | omega | (simp; done) | (simp; omega)))
    have hf_w1_2 : ∀ o, w1.frozen? ⟨w.heap.size + 2, o, none⟩ = _ := fun o => hx.frozen (p := ⟨w.heap.size + 2, o, none⟩) (show w.heap.size + 2 < _ from (by first | omega | (simp; done) | (simp; omega)))
    go_wp2_with fail
    refine bodyPost_ret (v := .tuple #[.agg #[.bool false, .slice none 0 0], .bool false]) (by simp [results, Tryd.results18, go_sem, *]) rfl ?_
    rw [S.out]
    exact ⟨false, none, 0, 0, rfl, ⟨rfl, rfl, Row.nil _⟩, New.none _, by (repeat (first | exact Below.refl _ _ | assumption | refine Below.drewN ?_ _ | refine Below.drew ?_ | refine Below.setCell ?_ (by first | exact Nat.le_refl _ | (simp; done) | (simp; omega) | omega) _ | refine Below.alloc ?_ (by first | exact Nat.le_refl _ | (simp; done) | (simp; omega) | omega) _))⟩
end Go.Proofs.YtdaaknfmodbjcaaDoor

namespace Go.Proofs.YtdaaknfmodbjcaaDoor
open Go.RowKit

theorem dig_lit {d : List Nat} (h : d.all (fun x => decide (x < 4294967296)) = true) : Dig d := fun x hx => by
  have := List.all_eq_true.1 h x hx
  simpa using this
theorem ofZ_lit (X : Nm) {z : Int} (h1 : X.right = true) (h2 : X.d.all (fun x => decide (x < 4294967296)) = true) (h3 : X.z = z) : ofZ z = X := by
  rw [← h3]; exact ofZ_of_right (dig_lit h2) h1
theorem fit_lit (X : Nm) {z : Int} (h1 : X.right = true) (h2 : X.d.all (fun x => decide (x < 4294967296)) = true) (h3 : X.z = z) : fit z = (X, true) := by
  unfold fit
  rw [← h3, if_pos (small_of_right (dig_lit h2) h1), ofZ_of_right (dig_lit h2) h1]
theorem mul_lit (a b X : Nm) (ha : a.right = true) (hb : b.right = true) (h1 : X.right = true) (h2 : X.d.all (fun x => decide (x < 4294967296)) = true) (h3 : X.z = a.z * b.z) : mulP a b = (X, true) := by
  unfold mulP
  rw [ha, hb]
  exact fit_lit X h1 h2 h3
theorem sub_lit (a b X : Nm) (ha : a.right = true) (hb : b.right = true) (h1 : X.right = true) (h2 : X.d.all (fun x => decide (x < 4294967296)) = true) (h3 : X.z = a.z - b.z) : subP a b = (X, true) := by
  unfold subP
  rw [ha, hb]
  exact fit_lit X h1 h2 h3

/-- A variable of a number. -/
def VB (W : World) (B : Nat) (n : Bool) (p : Option Addr) (l c : Nat) (X : Nm) : Prop := B < W.heap.size ∧ W.cell? ⟨B, 0, none⟩ = some (.bool n) ∧ W.cell? ⟨B, 1, none⟩ = some (.slice p l c) ∧ NR W n p l c X
theorem VB.ext {W W' : World} {B : Nat} {n : Bool} {p : Option Addr} {l c : Nat} {X : Nm} (h : VB W B n p l c X) (hx : Ext W W') : VB W' B n p l c X :=
  ⟨Nat.lt_of_lt_of_le h.1 hx.size, (hx.cell (p := ⟨B, 0, none⟩) h.1).trans h.2.1, (hx.cell (p := ⟨B, 1, none⟩) h.1).trans h.2.2.1, h.2.2.2.ext hx⟩
theorem VB.new {w w' : World} {n : Bool} {p : Option Addr} {l c : Nat} {X : Nm} {T : TypeId} (h : NR w n p l c X) (hx : Ext (w.alloc (.cells #[.bool n, .slice p l c] T)) w') : VB w' w.heap.size n p l c X := by
  have h0 : VB (w.alloc (.cells #[.bool n, .slice p l c] T)) w.heap.size n p l c X := by
    have hh := heap_alloc_new w (.cells #[.bool n, .slice p l c] T)
    exact ⟨by simp, by rw [cell_of_row _ _ _ _ _ _ hh]; rfl, by rw [cell_of_row _ _ _ _ _ _ hh]; rfl, h.alloc _⟩
  exact h0.ext hx
theorem VB.new2 {w w' : World} {n m : Bool} {p q : Option Addr} {l c k d : Nat} {X Y : Nm} {T U : TypeId} (h : NR w n p l c X) (h2 : NR w m q k d Y) (hx : Ext ((w.alloc (.cells #[.bool n, .slice p l c] T)).alloc (.cells #[.bool m, .slice q k d] U)) w') :
    VB w' w.heap.size n p l c X ∧ VB w' (w.heap.size + 1) m q k d Y := by
  have h0 := VB.new (T := T) h (Below.refl _ _)
  have h1 := VB.new (T := U) (h2.alloc (.cells #[.bool n, .slice p l c] T)) hx
  have e : (w.alloc (.cells #[.bool n, .slice p l c] T)).heap.size = w.heap.size + 1 := by simp
  rw [e] at h1
  exact ⟨h0.ext (Below.trans ((Below.refl _ _).alloc (Nat.le_refl _) _) (hx.mono (by simp))), h1⟩
theorem row_pair (W : World) (x y : Nat) (T : TypeId) (h1 : x < 4294967296) (h2 : y < 4294967296) : Row (W.alloc (.cells #[.int .u32 (x : Int), .int .u32 (y : Int)] T)) (some ⟨W.heap.size, 0, none⟩) 2 [x, y] := by
  refine ⟨by simp, by omega, Dig.cons h1 (Dig.cons h2 Dig.nil), fun _ => ⟨_, 0, rfl, by simp, fun i hi' => ?_⟩⟩
  have h := heap_alloc_new W (.cells #[.int .u32 (x : Int), .int .u32 (y : Int)] T)
  rw [cell_of_row _ _ (0 + i) _ _ _ h]
  simp only [List.length_cons, List.length_nil] at hi'
  match i, hi' with
  | 0, _ => rfl
  | 1, _ => rfl
theorem row_three (W : World) (x y z : Nat) (T : TypeId) (h1 : x < 4294967296) (h2 : y < 4294967296) (h3 : z < 4294967296) : Row (W.alloc (.cells #[.int .u32 (x : Int), .int .u32 (y : Int), .int .u32 (z : Int)] T)) (some ⟨W.heap.size, 0, none⟩) 3 [x, y, z] := by
  refine ⟨by simp, by omega, Dig.cons h1 (Dig.cons h2 (Dig.cons h3 Dig.nil)), fun _ => ⟨_, 0, rfl, by simp, fun i hi' => ?_⟩⟩
  have h := heap_alloc_new W (.cells #[.int .u32 (x : Int), .int .u32 (y : Int), .int .u32 (z : Int)] T)
  rw [cell_of_row _ _ (0 + i) _ _ _ h]
  simp only [List.length_cons, List.length_nil] at hi'
  match i, hi' with
  | 0, _ => rfl
  | 1, _ => rfl
  | 2, _ => rfl
theorem is_yes (a : Nm) (na neg : Bool) (pa pd : Option Addr) (la ca ld cd : Nat) (d : List Nat) (w : World) (ha : NR w na pa la ca a) (hd : Row w pd cd d) (hl : ld = d.length) (E : a = ⟨neg, d⟩) :
    Calls Tryd.prog 25 #[.agg #[.bool na, .slice pa la ca], .bool true, .bool neg, .slice pd ld cd] w fun e w' => e = .returned (.bool true) ∧ Ext w w' := by
  refine (law_is a na true neg pa pd la ca ld cd d w ha hd hl).mono ?_
  rintro e w' ⟨rfl, hx⟩
  rw [sameB_eq E]
  exact ⟨rfl, hx⟩
theorem of_lit (n : Int) (X : Nm) (w : World) (h1 : -9223372036854775808 ≤ n) (h2 : n ≤ 9223372036854775807) (h : ofZ n = X) : Calls Tryd.prog 21 #[.int .i64 n] w (RetN w X) := h ▸ num_Of n w h1 h2
theorem div_one (a b : Nm) (r : Nm × Nm × Bool) (na nb : Bool) (pa pb : Option Addr) (la ca lb cb : Nat) (w : World) (ha : NR w na pa la ca a) (hb : NR w nb pb lb cb b) (h1 : b.d.length ≤ 1) (h : divP a b = r) :
    Calls Tryd.prog 11 #[.agg #[.bool na, .slice pa la ca], .agg #[.bool nb, .slice pb lb cb]] w (RetDiv w r) :=
  h ▸ num_Div a b na nb pa pb la ca lb cb w ha hb (fun ra rb h0 W hx => divOn_one a.d b.d pa pb la ca lb cb W (ha.2.2.ext hx) (hb.2.2.ext hx) ha.2.1 hb.2.1 (a.right_iff.1 ra).2.1 (b.right_iff.1 rb).2.1 (a.right_iff.1 ra).1 h0 h1)
theorem gcd_one (a b : Nm) (r : Nm × Bool) (na nb : Bool) (pa pb : Option Addr) (la ca lb cb : Nat) (w : World) (ha : NR w na pa la ca a) (hb : NR w nb pb lb cb b) (h1 : b.d.length ≤ 1) (h : gcdP a b = r) :
    Calls Tryd.prog 13 #[.agg #[.bool na, .slice pa la ca], .agg #[.bool nb, .slice pb lb cb]] w (RetNum w r) :=
  h ▸ num_Gcd a b na nb pa pb la ca lb cb w ha hb 1 h1 divOn_one
theorem int_lit (a : Nm) (r : Int × Bool) (na : Bool) (pa : Option Addr) (la ca : Nat) (w : World) (ha : NR w na pa la ca a) (h : intP a = r) : Calls Tryd.prog 22 #[.agg #[.bool na, .slice pa la ca]] w (RetInt w r) := h ▸ num_Int a na pa la ca w ha

theorem lit_a : mulP ⟨false, [4294967295]⟩ ⟨false, [4294967295]⟩ = (⟨false, [1, 4294967294]⟩, true) := mul_lit _ _ _ rfl rfl rfl rfl (by decide +kernel)
theorem lit_0 : ofZ 0 = ⟨false, []⟩ := ofZ_lit _ rfl rfl rfl
theorem lit_1 : ofZ 1 = ⟨false, [1]⟩ := ofZ_lit _ rfl rfl (by decide +kernel)
theorem lit_2 : ofZ 2 = ⟨false, [2]⟩ := ofZ_lit _ rfl rfl (by decide +kernel)
theorem lit_7 : ofZ 7 = ⟨false, [7]⟩ := ofZ_lit _ rfl rfl (by decide +kernel)
theorem lit_18 : ofZ 18 = ⟨false, [18]⟩ := ofZ_lit _ rfl rfl (by decide +kernel)
theorem lit_m1 : ofZ (-1) = ⟨true, [1]⟩ := ofZ_lit _ rfl rfl (by decide +kernel)
theorem lit_m7 : ofZ (-7) = ⟨true, [7]⟩ := ofZ_lit _ rfl rfl (by decide +kernel)
theorem lit_m12 : ofZ (-12) = ⟨true, [12]⟩ := ofZ_lit _ rfl rfl (by decide +kernel)
theorem lit_big : ofZ 4294967296 = ⟨false, [0, 1]⟩ := ofZ_lit _ rfl rfl (by decide +kernel)
theorem lit_s : subP ⟨false, [0, 1]⟩ ⟨false, [1]⟩ = (⟨false, [4294967295]⟩, true) := sub_lit _ _ _ rfl rfl rfl rfl (by decide +kernel)
theorem lit_d : divP ⟨true, [7]⟩ ⟨false, [2]⟩ = (⟨true, [4]⟩, ⟨false, [1]⟩, true) := by
  rw [divP_yes rfl rfl rfl (by decide)]
  rw [ofZ_lit ⟨true, [4]⟩ rfl rfl (by decide +kernel), ofZ_lit ⟨false, [1]⟩ rfl rfl (by decide +kernel)]
theorem lit_n : divP ⟨false, [7]⟩ ⟨false, []⟩ = (zero, zero, false) := divP_no (.inr (.inr (.inr rfl)))
theorem lit_g : gcdP ⟨true, [12]⟩ ⟨false, [18]⟩ = (⟨false, [6]⟩, true) := by
  unfold gcdP
  rw [show (Nm.right ⟨true, [12]⟩ && Nm.right ⟨false, [18]⟩) = true from rfl, if_pos rfl, ofZ_lit ⟨false, [6]⟩ rfl rfl (by decide +kernel)]
theorem lit_h : gcdP ⟨false, []⟩ ⟨false, []⟩ = (⟨false, []⟩, true) := by
  unfold gcdP
  rw [show (Nm.right ⟨false, []⟩ && Nm.right ⟨false, []⟩) = true from rfl, if_pos rfl, ofZ_lit ⟨false, []⟩ rfl rfl (by decide +kernel)]
theorem lit_i : intP ⟨false, [0, 2147483648]⟩ = (0, false) := by decide +kernel
theorem lit_k : intP ⟨true, [0, 2147483648]⟩ = (-9223372036854775808, true) := by decide +kernel
theorem decU {n : Nat} {l : List UInt8} (q : Nat) (d : UInt8) (l' : List UInt8) (h10 : ¬ n < 10) (hq : n / 10 = q) (hd : UInt8.ofNat (48 + n % 10) = d) (hl : l = l' ++ [d]) (h : Lib.decDigits q = l') : Lib.decDigits n = l := by
  rw [decDigits_more h10, hq, h, hd, hl]
theorem dec_0 : Lib.decDigits 1 = [49] := by rw [Lib.decDigits_one (by decide)]; rfl
theorem dec_1 : Lib.decDigits 18 = [49, 56] := decU 1 56 [49] (by decide) (by decide) (by decide +kernel) rfl dec_0
theorem dec_2 : Lib.decDigits 184 = [49, 56, 52] := decU 18 52 [49, 56] (by decide) (by decide) (by decide +kernel) rfl dec_1
theorem dec_3 : Lib.decDigits 1844 = [49, 56, 52, 52] := decU 184 52 [49, 56, 52] (by decide) (by decide) (by decide +kernel) rfl dec_2
theorem dec_4 : Lib.decDigits 18446 = [49, 56, 52, 52, 54] := decU 1844 54 [49, 56, 52, 52] (by decide) (by decide) (by decide +kernel) rfl dec_3
theorem dec_5 : Lib.decDigits 184467 = [49, 56, 52, 52, 54, 55] := decU 18446 55 [49, 56, 52, 52, 54] (by decide) (by decide) (by decide +kernel) rfl dec_4
theorem dec_6 : Lib.decDigits 1844674 = [49, 56, 52, 52, 54, 55, 52] := decU 184467 52 [49, 56, 52, 52, 54, 55] (by decide) (by decide) (by decide +kernel) rfl dec_5
theorem dec_7 : Lib.decDigits 18446744 = [49, 56, 52, 52, 54, 55, 52, 52] := decU 1844674 52 [49, 56, 52, 52, 54, 55, 52] (by decide) (by decide) (by decide +kernel) rfl dec_6
theorem dec_8 : Lib.decDigits 184467440 = [49, 56, 52, 52, 54, 55, 52, 52, 48] := decU 18446744 48 [49, 56, 52, 52, 54, 55, 52, 52] (by decide) (by decide) (by decide +kernel) rfl dec_7
theorem dec_9 : Lib.decDigits 1844674407 = [49, 56, 52, 52, 54, 55, 52, 52, 48, 55] := decU 184467440 55 [49, 56, 52, 52, 54, 55, 52, 52, 48] (by decide) (by decide) (by decide +kernel) rfl dec_8
theorem dec_10 : Lib.decDigits 18446744073 = [49, 56, 52, 52, 54, 55, 52, 52, 48, 55, 51] := decU 1844674407 51 [49, 56, 52, 52, 54, 55, 52, 52, 48, 55] (by decide) (by decide) (by decide +kernel) rfl dec_9
theorem dec_11 : Lib.decDigits 184467440737 = [49, 56, 52, 52, 54, 55, 52, 52, 48, 55, 51, 55] := decU 18446744073 55 [49, 56, 52, 52, 54, 55, 52, 52, 48, 55, 51] (by decide) (by decide) (by decide +kernel) rfl dec_10
theorem dec_12 : Lib.decDigits 1844674407370 = [49, 56, 52, 52, 54, 55, 52, 52, 48, 55, 51, 55, 48] := decU 184467440737 48 [49, 56, 52, 52, 54, 55, 52, 52, 48, 55, 51, 55] (by decide) (by decide) (by decide +kernel) rfl dec_11
theorem dec_13 : Lib.decDigits 18446744073709 = [49, 56, 52, 52, 54, 55, 52, 52, 48, 55, 51, 55, 48, 57] := decU 1844674407370 57 [49, 56, 52, 52, 54, 55, 52, 52, 48, 55, 51, 55, 48] (by decide) (by decide) (by decide +kernel) rfl dec_12
theorem dec_14 : Lib.decDigits 184467440737095 = [49, 56, 52, 52, 54, 55, 52, 52, 48, 55, 51, 55, 48, 57, 53] := decU 18446744073709 53 [49, 56, 52, 52, 54, 55, 52, 52, 48, 55, 51, 55, 48, 57] (by decide) (by decide) (by decide +kernel) rfl dec_13
theorem dec_15 : Lib.decDigits 1844674407370955 = [49, 56, 52, 52, 54, 55, 52, 52, 48, 55, 51, 55, 48, 57, 53, 53] := decU 184467440737095 53 [49, 56, 52, 52, 54, 55, 52, 52, 48, 55, 51, 55, 48, 57, 53] (by decide) (by decide) (by decide +kernel) rfl dec_14
theorem dec_16 : Lib.decDigits 18446744073709551 = [49, 56, 52, 52, 54, 55, 52, 52, 48, 55, 51, 55, 48, 57, 53, 53, 49] := decU 1844674407370955 49 [49, 56, 52, 52, 54, 55, 52, 52, 48, 55, 51, 55, 48, 57, 53, 53] (by decide) (by decide) (by decide +kernel) rfl dec_15
theorem dec_17 : Lib.decDigits 184467440737095516 = [49, 56, 52, 52, 54, 55, 52, 52, 48, 55, 51, 55, 48, 57, 53, 53, 49, 54] := decU 18446744073709551 54 [49, 56, 52, 52, 54, 55, 52, 52, 48, 55, 51, 55, 48, 57, 53, 53, 49] (by decide) (by decide) (by decide +kernel) rfl dec_16
theorem dec_18 : Lib.decDigits 1844674407370955161 = [49, 56, 52, 52, 54, 55, 52, 52, 48, 55, 51, 55, 48, 57, 53, 53, 49, 54, 49] := decU 184467440737095516 49 [49, 56, 52, 52, 54, 55, 52, 52, 48, 55, 51, 55, 48, 57, 53, 53, 49, 54] (by decide) (by decide) (by decide +kernel) rfl dec_17
theorem dec_19 : Lib.decDigits 18446744073709551616 = [49, 56, 52, 52, 54, 55, 52, 52, 48, 55, 51, 55, 48, 57, 53, 53, 49, 54, 49, 54] := decU 1844674407370955161 54 [49, 56, 52, 52, 54, 55, 52, 52, 48, 55, 51, 55, 48, 57, 53, 53, 49, 54, 49] (by decide) (by decide) (by decide +kernel) rfl dec_18
theorem lit_t : textL ⟨true, [0, 0, 1]⟩ = 45 :: [49, 56, 52, 52, 54, 55, 52, 52, 48, 55, 51, 55, 48, 57, 53, 53, 49, 54, 49, 54] := by
  unfold textL
  rw [if_pos (by rfl), if_pos (by rfl), show val (Nm.mk true [0, 0, 1]).d = 18446744073709551616 from by decide +kernel, dec_19]
end Go.Proofs.YtdaaknfmodbjcaaDoor
