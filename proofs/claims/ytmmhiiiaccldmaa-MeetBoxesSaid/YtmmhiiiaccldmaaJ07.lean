/- Contract: num.Mul. | Contracts: etchantref01.times, etchantref01.Mul. | Contracts: root.sign, root.times (products that are small enough). -/
import Derived.Test.YtmmhiiiaccldmaaJ06
set_option linter.unusedVariables false
set_option linter.unusedSimpArgs false

namespace Go.Proofs.Ytmmhiiiaccldmaa
open Go.RowKit

theorem own_len {w : World} {B e : Nat} {v : Value} {n : Nat} {o : List Nat} (h : w.ownsRow B e 1 v n (enc o)) : o.length = n := by
  have := h.1
  rwa [enc_length, Nat.mul_one] at this
theorem own_cell {w : World} {B e g n c : Nat} {o : List Nat} (h : w.ownsRow B e 1 (.slice (some ⟨g, 0, none⟩) n c) n (enc o)) (j q : Nat) (hj : j < n) (hq : o[j]?.getD 0 = q) : w.cell? ⟨g, j, none⟩ = some (.int .u32 (q : Int)) := by
  rw [h.cellAt j (by omega), enc_get o j (by rw [own_len h]; exact hj), hq]
theorem own_set {w : World} {B e g n c : Nat} {o : List Nat} (h : w.ownsRow B e 1 (.slice (some ⟨g, 0, none⟩) n c) n (enc o)) (j d : Nat) :
    (w.setCell ⟨g, j, none⟩ (.int .u32 (d : Int))).ownsRow B e 1 (.slice (some ⟨g, 0, none⟩) n c) n (enc (o.set j d)) ∧ w.grownBy (w.setCell ⟨g, j, none⟩ (.int .u32 (d : Int))) (some g) := by
  have := h.stored j (.int .u32 (d : Int))
  have e : (enc o).set j (.int .u32 (d : Int)) = enc (o.set j d) := by simp [enc, List.map_set]
  rw [e] at this
  exact this

theorem mulP_left {a b : Nm} (ha : a.right = false) : mulP a b = (zero, false) := by simp [mulP, ha]
theorem mulP_right {a b : Nm} (hb : b.right = false) : mulP a b = (zero, false) := by simp [mulP, hb]
theorem mulP_made {a b : Nm} {o : List Nat} (ra : a.right = true) (rb : b.right = true) (hv : val o = val a.d * val b.d) : madeP (a.neg != b.neg) o = mulP a b := by
  rw [madeP_fit, mulP, ra, rb, hv, Nm.z, Nm.z]
  have e : (((val a.d * val b.d : Nat)) : Int) = (val a.d : Int) * (val b.d : Int) := by simp
  rw [e]
  cases a.neg <;> cases b.neg <;> simp [Int.neg_mul, Int.mul_neg]

set_option maxRecDepth 100000 in
set_option maxHeartbeats 4000000 in
theorem num_mul_main (a b : Nm) (na nb : Bool) (pa pb : Option Addr) (la ca lb cb : Nat) (w : World) (ha : NR w na pa la ca a) (hb : NR w nb pb lb cb b) (ra : a.right = true) (rb : b.right = true) :
    Calls Try.prog 52 #[.agg #[.bool na, .slice pa la ca], .agg #[.bool nb, .slice pb lb cb]] w (RetNum w (mulP a b)) := by
  have la64 := ha.len ra
  have lb64 := hb.len rb
  have hla := ha.2.1
  have hlb := hb.2.1
  have rowa := ha.2.2
  have rowb := hb.2.2
  have hnn : (na != nb) = (a.neg != b.neg) := by rw [ha.1, hb.1]
  have HNN := Lib.hid hnn
  have la64' : la ≤ 64 := by omega
  have lb64' : lb ≤ 64 := by omega
  have HLA := Lib.hid hla
  have HLB := Lib.hid hlb
  clear hla hlb hnn
  obtain ⟨i, hi, hz0, hz1, hz2⟩ := info_parts info32
  go_enter Try.func52, Try.ntmps52
  go_wp2_with fail
  refine (num_Right a _ _ _ _ _ (ha.ext (by (repeat (first | exact Below.refl _ _ | assumption | refine Below.drewN ?_ _ | refine Below.drew ?_ | refine Below.setCell ?_ (by first | exact Nat.le_refl _ | (simp; done) | (simp; omega) | omega) _ | refine Below.alloc ?_ (by first | exact Nat.le_refl _ | (simp; done) | (simp; omega) | omega) _))))).mono ?_
  rintro e w1 ⟨rfl, hx⟩
  rw [ra]
  have hx0 : Ext w w1 := Ext.step (by (repeat (first | exact Below.refl _ _ | assumption | refine Below.drewN ?_ _ | refine Below.drew ?_ | refine Below.setCell ?_ (by first | exact Nat.le_refl _ | (simp; done) | (simp; omega) | omega) _ | refine Below.alloc ?_ (by first | exact Nat.le_refl _ | (simp; done) | (simp; omega) | omega) _))) hx
  have hz_w1 : w.heap.size + 3 ≤ w1.heap.size := Nat.le_trans (by first | omega | (simp; done) | (simp; omega)) hx.size
  have hl_w1_0 : w.heap.size < w1.heap.size := Nat.lt_of_lt_of_le (by omega) hz_w1
  have hk_w1_0 : ∀ o, w1.cell? ⟨w.heap.size, o, none⟩ = _ := fun o => hx.cell (p := ⟨w.heap.size, o, none⟩) (show w.heap.size < _ from (by first | omega | (simp; done) | (simp; omega)))
  have hf_w1_0 : ∀ o, w1.frozen? ⟨w.heap.size, o, none⟩ = _ := fun o => hx.frozen (p := ⟨w.heap.size, o, none⟩) (show w.heap.size < _ from (by first | omega | (simp; done) | (simp; omega)))
  have hl_w1_1 : w.heap.size + 1 < w1.heap.size := Nat.lt_of_lt_of_le (by omega) hz_w1
  have hk_w1_1 : ∀ o, w1.cell? ⟨w.heap.size + 1, o, none⟩ = _ := fun o => hx.cell (p := ⟨w.heap.size + 1, o, none⟩) (show w.heap.size + 1 < _ from (by first | omega | (simp; done) | (simp; omega)))
  have hf_w1_1 : ∀ o, w1.frozen? ⟨w.heap.size + 1, o, none⟩ = _ := fun o => hx.frozen (p := ⟨w.heap.size + 1, o, none⟩) (show w.heap.size + 1 < _ from (by first | omega | (simp; done) | (simp; omega)))
  have hl_w1_2 : w.heap.size + 2 < w1.heap.size := Nat.lt_of_lt_of_le (by omega) hz_w1
  have hk_w1_2 : ∀ o, w1.cell? ⟨w.heap.size + 2, o, none⟩ = _ := fun o => hx.cell (p := ⟨w.heap.size + 2, o, none⟩) (show w.heap.size + 2 < _ from (by first | omega | (simp; done) | (simp; omega)))
  have hf_w1_2 : ∀ o, w1.frozen? ⟨w.heap.size + 2, o, none⟩ = _ := fun o => hx.frozen (p := ⟨w.heap.size + 2, o, none⟩) (show w.heap.size + 2 < _ from (by first | omega | (simp; done) | (simp; omega)))
  go_wp2_with fail
  refine (num_Right b _ _ _ _ _ (hb.ext (by (repeat (first | exact Below.refl _ _ | assumption | refine Below.drewN ?_ _ | refine Below.drew ?_ | refine Below.setCell ?_ (by first | exact Nat.le_refl _ | (simp; done) | (simp; omega) | omega) _ | refine Below.alloc ?_ (by first | exact Nat.le_refl _ | (simp; done) | (simp; omega) | omega) _))))).mono ?_
  rintro e w2 ⟨rfl, hx2⟩
  rw [rb]
  have hx1 : Ext w w2 := Ext.step hx0 hx2
  have hz_w2 : w.heap.size + 3 ≤ w2.heap.size := Nat.le_trans (by first | omega | (simp; done) | (simp; omega)) hx2.size
  have hl_w2_0 : w.heap.size < w2.heap.size := Nat.lt_of_lt_of_le (by omega) hz_w2
  have hk_w2_0 : ∀ o, w2.cell? ⟨w.heap.size, o, none⟩ = _ := fun o => hx2.cell (p := ⟨w.heap.size, o, none⟩) (show w.heap.size < _ from (by first | omega | (simp; done) | (simp; omega)))
  have hf_w2_0 : ∀ o, w2.frozen? ⟨w.heap.size, o, none⟩ = _ := fun o => hx2.frozen (p := ⟨w.heap.size, o, none⟩) (show w.heap.size < _ from (by first | omega | (simp; done) | (simp; omega)))
  have hl_w2_1 : w.heap.size + 1 < w2.heap.size := Nat.lt_of_lt_of_le (by omega) hz_w2
  have hk_w2_1 : ∀ o, w2.cell? ⟨w.heap.size + 1, o, none⟩ = _ := fun o => hx2.cell (p := ⟨w.heap.size + 1, o, none⟩) (show w.heap.size + 1 < _ from (by first | omega | (simp; done) | (simp; omega)))
  have hf_w2_1 : ∀ o, w2.frozen? ⟨w.heap.size + 1, o, none⟩ = _ := fun o => hx2.frozen (p := ⟨w.heap.size + 1, o, none⟩) (show w.heap.size + 1 < _ from (by first | omega | (simp; done) | (simp; omega)))
  have hl_w2_2 : w.heap.size + 2 < w2.heap.size := Nat.lt_of_lt_of_le (by omega) hz_w2
  have hk_w2_2 : ∀ o, w2.cell? ⟨w.heap.size + 2, o, none⟩ = _ := fun o => hx2.cell (p := ⟨w.heap.size + 2, o, none⟩) (show w.heap.size + 2 < _ from (by first | omega | (simp; done) | (simp; omega)))
  have hf_w2_2 : ∀ o, w2.frozen? ⟨w.heap.size + 2, o, none⟩ = _ := fun o => hx2.frozen (p := ⟨w.heap.size + 2, o, none⟩) (show w.heap.size + 2 < _ from (by first | omega | (simp; done) | (simp; omega)))
  obtain ⟨N, hN⟩ : ∃ N, N = la + lb := ⟨_, rfl⟩
  have hN1 : N ≤ la + lb := Nat.le_of_eq hN
  have hN2 : la + lb ≤ N := Nat.le_of_eq hN.symm
  clear hN
  go_wp2_with (at_make; refine wpList_make_full _ rfl _ _ 82 rfl w2.heap.size 101 i (.int .u32 0) 1 Try.underlying82 hi hz0 hz1 _ _ _ _ N rfl rfl (by omega) (by omega) (by rw [hz2]; omega) (by unfold maxLen; omega) (Nat.le_refl _) ?_)
  intro w3 hown hgr
  rw [show (madeCells #[Value.int IntKind.u32 0] N).toList = enc (List.replicate N 0) from by rw [enc, List.map_replicate]; exact toList_madeCells_one _ _] at hown
  obtain ⟨g, G⟩ : ∃ g, Hid (w2.heap.size = g) := ⟨_, rfl⟩
  have hx3 : Ext w2 w3 := ⟨hgr.os, hgr.tape, hgr.output, hgr.size, fun k hk => hgr.block k hk (by simp)⟩
  have hx4 : Ext w w3 := Ext.step hx1 hx3
  have hz_w3 : w.heap.size + 3 ≤ w3.heap.size := Nat.le_trans (by first | omega | (simp; done) | (simp; omega)) hx3.size
  have hl_w3_0 : w.heap.size < w3.heap.size := Nat.lt_of_lt_of_le (by omega) hz_w3
  have hk_w3_0 : ∀ o, w3.cell? ⟨w.heap.size, o, none⟩ = _ := fun o => hx3.cell (p := ⟨w.heap.size, o, none⟩) (show w.heap.size < _ from (by first | omega | (simp; done) | (simp; omega)))
  have hf_w3_0 : ∀ o, w3.frozen? ⟨w.heap.size, o, none⟩ = _ := fun o => hx3.frozen (p := ⟨w.heap.size, o, none⟩) (show w.heap.size < _ from (by first | omega | (simp; done) | (simp; omega)))
  have hl_w3_1 : w.heap.size + 1 < w3.heap.size := Nat.lt_of_lt_of_le (by omega) hz_w3
  have hk_w3_1 : ∀ o, w3.cell? ⟨w.heap.size + 1, o, none⟩ = _ := fun o => hx3.cell (p := ⟨w.heap.size + 1, o, none⟩) (show w.heap.size + 1 < _ from (by first | omega | (simp; done) | (simp; omega)))
  have hf_w3_1 : ∀ o, w3.frozen? ⟨w.heap.size + 1, o, none⟩ = _ := fun o => hx3.frozen (p := ⟨w.heap.size + 1, o, none⟩) (show w.heap.size + 1 < _ from (by first | omega | (simp; done) | (simp; omega)))
  have hl_w3_2 : w.heap.size + 2 < w3.heap.size := Nat.lt_of_lt_of_le (by omega) hz_w3
  have hk_w3_2 : ∀ o, w3.cell? ⟨w.heap.size + 2, o, none⟩ = _ := fun o => hx3.cell (p := ⟨w.heap.size + 2, o, none⟩) (show w.heap.size + 2 < _ from (by first | omega | (simp; done) | (simp; omega)))
  have hf_w3_2 : ∀ o, w3.frozen? ⟨w.heap.size + 2, o, none⟩ = _ := fun o => hx3.frozen (p := ⟨w.heap.size + 2, o, none⟩) (show w.heap.size + 2 < _ from (by first | omega | (simp; done) | (simp; omega)))
  rw [G.out] at hown ⊢
  have hg0 : w.heap.size + 3 ≤ g := by rw [← G.out]; exact hz_w2
  have hg1 : g < w3.heap.size := by
    obtain ⟨_, h⟩ := hown
    rcases h with ⟨h, _⟩ | ⟨g', _, _, h, _, hh, _⟩
    · cases h
    · cases h
      exact (Array.getElem?_eq_some_iff.1 hh).1
  clear hgr hx hx2 hx3 hx0
  go_wp2_with fail
  have c0 : w3.cell? ⟨w.heap.size, 0, none⟩ = some (.bool na) := by go_simp
  have c1 : w3.cell? ⟨w.heap.size, 1, none⟩ = some (.slice pa la ca) := by go_simp
  have c2 : w3.cell? ⟨w.heap.size + 1, 0, none⟩ = some (.bool nb) := by go_simp
  have c3 : w3.cell? ⟨w.heap.size + 1, 1, none⟩ = some (.slice pb lb cb) := by go_simp
  have c4 : w3.cell? ⟨w.heap.size + 2, 0, none⟩ = some (.bool false) := by go_simp
  have c5 : w3.cell? ⟨w.heap.size + 2, 1, none⟩ = some (.slice none 0 0) := by go_simp
  have f4 : ∀ o, w3.frozen? ⟨w.heap.size + 2, o, none⟩ = false := by intro o; go_simp
  have rowa3 := rowa.ext hx4
  have rowb3 := rowb.ext hx4
  have bla : 0 < a.d.length → ∀ x, pa = some x → x.block ≠ g := by
    intro h0 x hx
    obtain ⟨b', o, hp, hlt, _⟩ := rowa.at h0
    rw [hp] at hx
    cases hx
    exact Nat.ne_of_lt (show b' < g by omega)
  have blb : 0 < b.d.length → ∀ x, pb = some x → x.block ≠ g := by
    intro h0 x hx
    obtain ⟨b', o, hp, hlt, _⟩ := rowb.at h0
    rw [hp] at hx
    cases hx
    exact Nat.ne_of_lt (show b' < g by omega)
  have BLA := Lib.hid bla
  have BLB := Lib.hid blb
  have C0 := Lib.hid c0
  have C2 := Lib.hid c2
  have C4 := Lib.hid c4
  have C5 := Lib.hid c5
  have C1 := Lib.hid c1
  have C3 := Lib.hid c3
  have F4 := Lib.hid f4
  have RA := Lib.hid rowa3
  have RB := Lib.hid rowb3
  clear hk_w1_0 hk_w1_1 hk_w1_2 hf_w1_0 hf_w1_1 hf_w1_2 hk_w2_0 hk_w2_1 hk_w2_2 hf_w2_0 hf_w2_1 hf_w2_2 hk_w3_0 hk_w3_1 hk_w3_2 hf_w3_0 hf_w3_1 hf_w3_2 c0 c1 c2 c3 c4 c5 f4 rowa3 rowb3 bla blb rowa rowb ha hb
  go_loopw [32] (fun i wr => ∃ (n : Nat) (o : List Nat), n ≤ la ∧ i = .int .i64 (n : Int) ∧ Dig o ∧ val o = val (a.d.take n) * val b.d ∧ Zeros o (n + lb) ∧ wr.ownsRow g 101 1 (.slice (some ⟨g, 0, none⟩) N N) N (enc o) ∧ w3.grownBy wr (some g)) (fun i _ => la - (intOf i).toNat)
  case atStart => exact ⟨0, _, Nat.zero_le _, rfl, fun x hx => by rw [List.eq_of_mem_replicate hx]; decide, by rw [val_replicate]; simp [val], Zeros.replicate _ _, hown, ⟨rfl, rfl, rfl, Nat.le_refl _, fun _ _ _ => rfl⟩⟩
  case round =>
    clear hown
    obtain ⟨n, o, hn, rfl, hd, hv, hz, hown, hg⟩ := hrel
    by_cases hlt : n < la
    · have RAw := RA.out.grown BLA.out hg
      obtain ⟨ba, oa, rfl, hba, hca⟩ := RAw.at (by rw [← HLA.out]; omega)
      have hca1 := hca n (by rw [← HLA.out]; omega)
      obtain ⟨x, X⟩ : ∃ x, Hid (a.d[n]?.getD 0 = x) := ⟨_, rfl⟩
      rw [X.out] at hca1
      have hxd : x < 4294967296 := by have := RA.out.dig.getD n; rw [List.getD_eq_getElem?_getD, X.out] at this; exact this
      have c3 : wr.cell? ⟨w.heap.size + 1, 1, none⟩ = some (.slice pb lb cb) := (World.cell?_of_block (hg.block _ (show w.heap.size + 1 < w3.heap.size by omega) (by simp; omega))).trans C3.out
      have M0 := Lib.hid (MulInv.start (a := a.d) (b := b.d) (i := n) (x := x) hd hv)
      clear hca hd hv
      have V := Lib.hid hz
      clear hz
      go_wp2_with fail
      go_loopw [9, 40] (fun cr kk wi => ∃ (k c : Nat) (q : List Nat), k ≤ lb ∧ kk = .int .i64 (k : Int) ∧ cr = .int .u64 (c : Int) ∧ MulInv a.d b.d q n k x c ∧ Zeros q (n + lb) ∧ wi.ownsRow g 101 1 (.slice (some ⟨g, 0, none⟩) N N) N (enc q) ∧ w3.grownBy wi (some g)) (fun _ kk _ => lb - (intOf kk).toNat)
      case atStart => exact ⟨0, 0, o, Nat.zero_le _, rfl, rfl, M0.out, V.out, hown, hg⟩
      case round =>
        clear hown hg c3 hca1
        obtain ⟨k, c, q, hk, rfl, rfl, hm, hz, hown, hg⟩ := hrel
        by_cases hkl : k < lb
        · have RBw := RB.out.grown BLB.out hg
          obtain ⟨bb, ob, rfl, hbb, hcb⟩ := RBw.at (by rw [← HLB.out]; omega)
          have hcb1 := hcb k (by rw [← HLB.out]; omega)
          obtain ⟨y, Y⟩ : ∃ y, Hid (b.d[k]?.getD 0 = y) := ⟨_, rfl⟩
          rw [Y.out] at hcb1
          have hyd : y < 4294967296 := by have := RB.out.dig.getD k; rw [List.getD_eq_getElem?_getD, Y.out] at this; exact this
          obtain ⟨u, U⟩ : ∃ u, Hid (q[n + k]?.getD 0 = u) := ⟨_, rfl⟩
          have hud : u < 4294967296 := by have := hm.1.getD (n + k); rw [List.getD_eq_getElem?_getD, U.out] at this; exact this
          have hql := own_len hown
          have hcu := own_cell hown (n + k) u (by omega) U.out
          have hfu := hown.frozenAt (n + k)
          obtain ⟨m, MM⟩ : ∃ m, Hid (x * y = m) := ⟨_, rfl⟩
          have hme : (x : Int) * (y : Int) = (m : Int) := by rw [← MM.out]; simp
          have hmb : m ≤ 18446744065119617025 := by rw [← MM.out]; exact Nat.mul_le_mul (show x ≤ 4294967295 by omega) (show y ≤ 4294967295 by omega)
          have hcd := hm.2.1
          have M1 := Lib.hid (hm.step (by omega) hxd Y.out hyd U.out hud MM.out)
          have hst := own_set hown (n + k) ((c + (u + m)) % 4294967296)
          have ST := Lib.hid hst.1
          have SG := Lib.hid (grownBy_trans hg hst.2)
          have Try1 := Lib.hid (hz.set (j := n + k) (d := (c + (u + m)) % 4294967296) (by omega))
          clear hcb hm hst hz hql hown hg
          go_wp2
          have e : (((c + (u + m)) % 4294967296 : Nat) : Int) = ((c : Int) + ((u : Int) + (m : Int))) % 4294967296 := by omega
          have s1 := ST.out
          have s2 := SG.out
          rw [e] at s1 s2
          exact ⟨⟨k + 1, (c + (u + m)) / 4294967296, _, by omega, rfl, ret_u64 (by omega), M1.out, Try1.out, s1, s2⟩, by simp [intOf]; omega⟩
        · have hk2 : lb ≤ k := by omega
          have hql := own_len hown
          have hcu := own_cell hown (n + lb) 0 (by omega) (hz _ (Nat.le_refl _))
          have hfu := hown.frozenAt (n + lb)
          obtain rfl : k = lb := by omega
          have c3 : wr.cell? ⟨w.heap.size + 1, 1, none⟩ = some (.slice pb k cb) := (World.cell?_of_block (hg.block _ (show w.heap.size + 1 < w3.heap.size by omega) (by simp; omega))).trans C3.out
          have hst := own_set hown (n + k) c
          have ST := Lib.hid hst.1
          have SG := Lib.hid (grownBy_trans hg hst.2)
          have FIN := Lib.hid (hm.finish (by rw [← HLB.out]; exact Nat.le_refl _) X.out (hz _ (Nat.le_refl _)) (by omega))
          have hcd := hm.2.1
          have Try1 := Lib.hid ((hz.mono (show n + k ≤ n + 1 + k by omega)).set (j := n + k) (d := c) (by omega))
          clear hst hm hz hql hown hg
          go_wp2
          exact ⟨⟨n + 1, _, by omega, rfl, FIN.out.1, FIN.out.2, Try1.out, ST.out, SG.out⟩, by simp [intOf]; omega⟩
    · obtain rfl : n = la := by omega
      have hql := own_len hown
      obtain ⟨p', c', hv', hrow, _⟩ := row_of_owns hown hd
      obtain ⟨rfl, rfl⟩ : some (⟨g, 0, none⟩ : Addr) = p' ∧ N = c' := by
        simp only [Value.slice.injEq] at hv'
        exact ⟨hv'.1, hv'.2.2⟩
      have MP : Hid (madeP (na != nb) o = mulP a b) := by
        have := mulP_made ra rb (o := o) (by rw [hv, HLA.out, List.take_of_length_le (Nat.le_refl _)])
        rw [HNN.out]; exact this
      have ROW := Lib.hid hrow
      have HQ := Lib.hid hql
      have hx5 : Ext w wr := ⟨hg.os.trans hx4.os, hg.tape.trans hx4.tape, hg.output.trans hx4.output, Nat.le_trans hx4.size hg.size, fun k hk => (hg.block k (by omega) (by simp; omega)).trans (hx4.block k hk)⟩
      have kp : ∀ j o, j < 3 → wr.cell? ⟨w.heap.size + j, o, none⟩ = w3.cell? ⟨w.heap.size + j, o, none⟩ := fun j o hj => World.cell?_of_block (hg.block _ (show w.heap.size + j < w3.heap.size by omega) (by simp; omega))
      have kf : ∀ j o, j < 3 → wr.frozen? ⟨w.heap.size + j, o, none⟩ = w3.frozen? ⟨w.heap.size + j, o, none⟩ := fun j o hj => World.frozen?_of_block (hg.block _ (show w.heap.size + j < w3.heap.size by omega) (by simp; omega))
      have c0 : wr.cell? ⟨w.heap.size, 0, none⟩ = some (.bool na) := (kp 0 0 (by omega)).trans C0.out
      have c2 : wr.cell? ⟨w.heap.size + 1, 0, none⟩ = some (.bool nb) := (kp 1 0 (by omega)).trans C2.out
      have c4 : wr.cell? ⟨w.heap.size + 2, 0, none⟩ = some (.bool false) := (kp 2 0 (by omega)).trans C4.out
      have c5 : wr.cell? ⟨w.heap.size + 2, 1, none⟩ = some (.slice none 0 0) := (kp 2 1 (by omega)).trans C5.out
      have f4 : ∀ o, wr.frozen? ⟨w.heap.size + 2, o, none⟩ = false := fun o => (kf 2 o (by omega)).trans (F4.out o)
      have hzr : w.heap.size + 3 ≤ wr.heap.size := by have := hg.size; omega
      clear kp kf hrow hql hv' hown hd hv hz hg
      go_wp2_with fail
      refine (num_made (na != nb) o _ _ _ _ ROW.out HQ.out.symm).mono ?_
      rintro e w4 ⟨n', p', l', c', rfl, hnr, hnew, hx6⟩
      rw [MP.out] at hnr ⊢
      have hx7 : Ext w w4 := Ext.step hx5 hx6
      have hz_w4 : w.heap.size + 3 ≤ w4.heap.size := Nat.le_trans (by first | omega | (simp; done) | (simp; omega)) hx6.size
      have hl_w4_0 : w.heap.size < w4.heap.size := Nat.lt_of_lt_of_le (by omega) hz_w4
      have hk_w4_0 : ∀ o, w4.cell? ⟨w.heap.size, o, none⟩ = _ := fun o => hx6.cell (p := ⟨w.heap.size, o, none⟩) (show w.heap.size < _ from (by first | omega | (simp; done) | (simp; omega)))
      have hf_w4_0 : ∀ o, w4.frozen? ⟨w.heap.size, o, none⟩ = _ := fun o => hx6.frozen (p := ⟨w.heap.size, o, none⟩) (show w.heap.size < _ from (by first | omega | (simp; done) | (simp; omega)))
      have hl_w4_1 : w.heap.size + 1 < w4.heap.size := Nat.lt_of_lt_of_le (by omega) hz_w4
      have hk_w4_1 : ∀ o, w4.cell? ⟨w.heap.size + 1, o, none⟩ = _ := fun o => hx6.cell (p := ⟨w.heap.size + 1, o, none⟩) (show w.heap.size + 1 < _ from (by first | omega | (simp; done) | (simp; omega)))
      have hf_w4_1 : ∀ o, w4.frozen? ⟨w.heap.size + 1, o, none⟩ = _ := fun o => hx6.frozen (p := ⟨w.heap.size + 1, o, none⟩) (show w.heap.size + 1 < _ from (by first | omega | (simp; done) | (simp; omega)))
      have hl_w4_2 : w.heap.size + 2 < w4.heap.size := Nat.lt_of_lt_of_le (by omega) hz_w4
      have hk_w4_2 : ∀ o, w4.cell? ⟨w.heap.size + 2, o, none⟩ = _ := fun o => hx6.cell (p := ⟨w.heap.size + 2, o, none⟩) (show w.heap.size + 2 < _ from (by first | omega | (simp; done) | (simp; omega)))
      have hf_w4_2 : ∀ o, w4.frozen? ⟨w.heap.size + 2, o, none⟩ = _ := fun o => hx6.frozen (p := ⟨w.heap.size + 2, o, none⟩) (show w.heap.size + 2 < _ from (by first | omega | (simp; done) | (simp; omega)))
      go_wp2_with fail
      refine bodyPost_ret (v := .tuple #[.agg #[.bool n', .slice p' l' c'], .bool (mulP a b).2]) (by simp [results, Try.results52, go_sem, *]) rfl ?_
      exact ⟨n', p', l', c', rfl, (by repeat (first | assumption | refine NR.set ?_ (by assumption) _ (by first | (simp; done) | (simp; omega) | omega) _ | refine NR.alloc ?_ _)), hnew.mono (by omega), by (repeat (first | exact Below.refl _ _ | assumption | refine Below.drewN ?_ _ | refine Below.drew ?_ | refine Below.setCell ?_ (by first | exact Nat.le_refl _ | (simp; done) | (simp; omega) | omega) _ | refine Below.alloc ?_ (by first | exact Nat.le_refl _ | (simp; done) | (simp; omega) | omega) _))⟩

set_option maxRecDepth 100000 in
set_option maxHeartbeats 1000000 in
theorem num_Mul (a b : Nm) (na nb : Bool) (pa pb : Option Addr) (la ca lb cb : Nat) (w : World) (ha : NR w na pa la ca a) (hb : NR w nb pb lb cb b) :
    Calls Try.prog 52 #[.agg #[.bool na, .slice pa la ca], .agg #[.bool nb, .slice pb lb cb]] w (RetNum w (mulP a b)) := by
  by_cases ra : a.right = true
  · by_cases rb : b.right = true
    · exact num_mul_main a b na nb pa pb la ca lb cb w ha hb ra rb
    · have rb : b.right = false := by simpa using rb
      have S := Lib.hid (mulP_right (a := a) rb)
      go_enter Try.func52, Try.ntmps52
      go_wp2_with fail
      refine (num_Right a _ _ _ _ _ (ha.ext (by (repeat (first | exact Below.refl _ _ | assumption | refine Below.drewN ?_ _ | refine Below.drew ?_ | refine Below.setCell ?_ (by first | exact Nat.le_refl _ | (simp; done) | (simp; omega) | omega) _ | refine Below.alloc ?_ (by first | exact Nat.le_refl _ | (simp; done) | (simp; omega) | omega) _))))).mono ?_
      rintro e w1 ⟨rfl, hx⟩
      rw [ra]
      have hx0 : Ext w w1 := Ext.step (by (repeat (first | exact Below.refl _ _ | assumption | refine Below.drewN ?_ _ | refine Below.drew ?_ | refine Below.setCell ?_ (by first | exact Nat.le_refl _ | (simp; done) | (simp; omega) | omega) _ | refine Below.alloc ?_ (by first | exact Nat.le_refl _ | (simp; done) | (simp; omega) | omega) _))) hx
      have hz_w1 : w.heap.size + 3 ≤ w1.heap.size := Nat.le_trans (by first | omega | (simp; done) | (simp; omega)) hx.size
      have hl_w1_0 : w.heap.size < w1.heap.size := Nat.lt_of_lt_of_le (by omega) hz_w1
      have hk_w1_0 : ∀ o, w1.cell? ⟨w.heap.size, o, none⟩ = _ := fun o => hx.cell (p := ⟨w.heap.size, o, none⟩) (show w.heap.size < _ from (by first | omega | (simp; done) | (simp; omega)))
      have hf_w1_0 : ∀ o, w1.frozen? ⟨w.heap.size, o, none⟩ = _ := fun o => hx.frozen (p := ⟨w.heap.size, o, none⟩) (show w.heap.size < _ from (by first | omega | (simp; done) | (simp; omega)))
      have hl_w1_1 : w.heap.size + 1 < w1.heap.size := Nat.lt_of_lt_of_le (by omega) hz_w1
      have hk_w1_1 : ∀ o, w1.cell? ⟨w.heap.size + 1, o, none⟩ = _ := fun o => hx.cell (p := ⟨w.heap.size + 1, o, none⟩) (show w.heap.size + 1 < _ from (by first | omega | (simp; done) | (simp; omega)))
      have hf_w1_1 : ∀ o, w1.frozen? ⟨w.heap.size + 1, o, none⟩ = _ := fun o => hx.frozen (p := ⟨w.heap.size + 1, o, none⟩) (show w.heap.size + 1 < _ from (by first | omega | (simp; done) | (simp; omega)))
      have hl_w1_2 : w.heap.size + 2 < w1.heap.size := Nat.lt_of_lt_of_le (by omega) hz_w1
      have hk_w1_2 : ∀ o, w1.cell? ⟨w.heap.size + 2, o, none⟩ = _ := fun o => hx.cell (p := ⟨w.heap.size + 2, o, none⟩) (show w.heap.size + 2 < _ from (by first | omega | (simp; done) | (simp; omega)))
      have hf_w1_2 : ∀ o, w1.frozen? ⟨w.heap.size + 2, o, none⟩ = _ := fun o => hx.frozen (p := ⟨w.heap.size + 2, o, none⟩) (show w.heap.size + 2 < _ from (by first | omega | (simp; done) | (simp; omega)))
      go_wp2_with fail
      refine (num_Right b _ _ _ _ _ (hb.ext (by (repeat (first | exact Below.refl _ _ | assumption | refine Below.drewN ?_ _ | refine Below.drew ?_ | refine Below.setCell ?_ (by first | exact Nat.le_refl _ | (simp; done) | (simp; omega) | omega) _ | refine Below.alloc ?_ (by first | exact Nat.le_refl _ | (simp; done) | (simp; omega) | omega) _))))).mono ?_
      rintro e w2 ⟨rfl, hx2⟩
      rw [rb]
      have hx1 : Ext w w2 := Ext.step hx0 hx2
      have hz_w2 : w.heap.size + 3 ≤ w2.heap.size := Nat.le_trans (by first | omega | (simp; done) | (simp; omega)) hx2.size
      have hl_w2_0 : w.heap.size < w2.heap.size := Nat.lt_of_lt_of_le (by omega) hz_w2
      have hk_w2_0 : ∀ o, w2.cell? ⟨w.heap.size, o, none⟩ = _ := fun o => hx2.cell (p := ⟨w.heap.size, o, none⟩) (show w.heap.size < _ from (by first | omega | (simp; done) | (simp; omega)))
      have hf_w2_0 : ∀ o, w2.frozen? ⟨w.heap.size, o, none⟩ = _ := fun o => hx2.frozen (p := ⟨w.heap.size, o, none⟩) (show w.heap.size < _ from (by first | omega | (simp; done) | (simp; omega)))
      have hl_w2_1 : w.heap.size + 1 < w2.heap.size := Nat.lt_of_lt_of_le (by omega) hz_w2
      have hk_w2_1 : ∀ o, w2.cell? ⟨w.heap.size + 1, o, none⟩ = _ := fun o => hx2.cell (p := ⟨w.heap.size + 1, o, none⟩) (show w.heap.size + 1 < _ from (by first | omega | (simp; done) | (simp; omega)))
      have hf_w2_1 : ∀ o, w2.frozen? ⟨w.heap.size + 1, o, none⟩ = _ := fun o => hx2.frozen (p := ⟨w.heap.size + 1, o, none⟩) (show w.heap.size + 1 < _ from (by first | omega | (simp; done) | (simp; omega)))
      have hl_w2_2 : w.heap.size + 2 < w2.heap.size := Nat.lt_of_lt_of_le (by omega) hz_w2
      have hk_w2_2 : ∀ o, w2.cell? ⟨w.heap.size + 2, o, none⟩ = _ := fun o => hx2.cell (p := ⟨w.heap.size + 2, o, none⟩) (show w.heap.size + 2 < _ from (by first | omega | (simp; done) | (simp; omega)))
      have hf_w2_2 : ∀ o, w2.frozen? ⟨w.heap.size + 2, o, none⟩ = _ := fun o => hx2.frozen (p := ⟨w.heap.size + 2, o, none⟩) (show w.heap.size + 2 < _ from (by first | omega | (simp; done) | (simp; omega)))
      go_wp2_with fail
      refine bodyPost_ret (v := .tuple #[.agg #[.bool false, .slice none 0 0], .bool false]) (by simp [results, Try.results52, go_sem, *]) rfl ?_
      rw [S.out]
      exact ⟨false, none, 0, 0, rfl, ⟨rfl, rfl, Row.nil _⟩, New.none _, by (repeat (first | exact Below.refl _ _ | assumption | refine Below.drewN ?_ _ | refine Below.drew ?_ | refine Below.setCell ?_ (by first | exact Nat.le_refl _ | (simp; done) | (simp; omega) | omega) _ | refine Below.alloc ?_ (by first | exact Nat.le_refl _ | (simp; done) | (simp; omega) | omega) _))⟩
  · have ra : a.right = false := by simpa using ra
    have S := Lib.hid (mulP_left (b := b) ra)
    go_enter Try.func52, Try.ntmps52
    go_wp2_with fail
    refine (num_Right a _ _ _ _ _ (ha.ext (by (repeat (first | exact Below.refl _ _ | assumption | refine Below.drewN ?_ _ | refine Below.drew ?_ | refine Below.setCell ?_ (by first | exact Nat.le_refl _ | (simp; done) | (simp; omega) | omega) _ | refine Below.alloc ?_ (by first | exact Nat.le_refl _ | (simp; done) | (simp; omega) | omega) _))))).mono ?_
    rintro e w1 ⟨rfl, hx⟩
    rw [ra]
    have hx0 : Ext w w1 := Ext.step (by (repeat (first | exact Below.refl _ _ | assumption | refine Below.drewN ?_ _ | refine Below.drew ?_ | refine Below.setCell ?_ (by first | exact Nat.le_refl _ | (simp; done) | (simp; omega) | omega) _ | refine Below.alloc ?_ (by first | exact Nat.le_refl _ | (simp; done) | (simp; omega) | omega) _))) hx
    have hz_w1 : w.heap.size + 3 ≤ w1.heap.size := Nat.le_trans (by first | omega | (simp; done) | (simp; omega)) hx.size
    have hl_w1_0 : w.heap.size < w1.heap.size := Nat.lt_of_lt_of_le (by omega) hz_w1
    have hk_w1_0 : ∀ o, w1.cell? ⟨w.heap.size, o, none⟩ = _ := fun o => hx.cell (p := ⟨w.heap.size, o, none⟩) (show w.heap.size < _ from (by first | omega | (simp; done) | (simp; omega)))
    have hf_w1_0 : ∀ o, w1.frozen? ⟨w.heap.size, o, none⟩ = _ := fun o => hx.frozen (p := ⟨w.heap.size, o, none⟩) (show w.heap.size < _ from (by first | omega | (simp; done) | (simp; omega)))
    have hl_w1_1 : w.heap.size + 1 < w1.heap.size := Nat.lt_of_lt_of_le (by omega) hz_w1
    have hk_w1_1 : ∀ o, w1.cell? ⟨w.heap.size + 1, o, none⟩ = _ := fun o => hx.cell (p := ⟨w.heap.size + 1, o, none⟩) (show w.heap.size + 1 < _ from (by first | omega | (simp; done) | (simp; omega)))
    have hf_w1_1 : ∀ o, w1.frozen? ⟨w.heap.size + 1, o, none⟩ = _ := fun o => hx.frozen (p := ⟨w.heap.size + 1, o, none⟩) (show w.heap.size + 1 < _ from (by first | omega | (simp; done) | (simp; omega)))
    have hl_w1_2 : w.heap.size + 2 < w1.heap.size := Nat.lt_of_lt_of_le (by omega) hz_w1
    have hk_w1_2 : ∀ o, w1.cell? ⟨w.heap.size + 2, o, none⟩ = _ := fun o => hx.cell (p := ⟨w.heap.size + 2, o, none⟩) (show w.heap.size + 2 < _ from (by first | omega | (simp; done) | (simp; omega)))
    have hf_w1_2 : ∀ o, w1.frozen? ⟨w.heap.size + 2, o, none⟩ = _ := fun o => hx.frozen (p := ⟨w.heap.size + 2, o, none⟩) (show w.heap.size + 2 < _ from (by first | omega | (simp; done) | (simp; omega)))
    go_wp2_with fail
    refine bodyPost_ret (v := .tuple #[.agg #[.bool false, .slice none 0 0], .bool false]) (by simp [results, Try.results52, go_sem, *]) rfl ?_
    rw [S.out]
    exact ⟨false, none, 0, 0, rfl, ⟨rfl, rfl, Row.nil _⟩, New.none _, by (repeat (first | exact Below.refl _ _ | assumption | refine Below.drewN ?_ _ | refine Below.drew ?_ | refine Below.setCell ?_ (by first | exact Nat.le_refl _ | (simp; done) | (simp; omega) | omega) _ | refine Below.alloc ?_ (by first | exact Nat.le_refl _ | (simp; done) | (simp; omega) | omega) _))⟩
end Go.Proofs.Ytmmhiiiaccldmaa

namespace Go.Proofs.Ytmmhiiiaccldmaa
open Go.RowKit


end Go.Proofs.Ytmmhiiiaccldmaa

namespace Go.Proofs.Ytmmhiiiaccldmaa
open Go.RowKit

theorem Row.set' {w : World} {p : Option Addr} {c : Nat} {d : List Nat} (h : Row w p c d) (a : Addr) (hn : ∀ x, p = some x → x.block ≠ a.block) (v : Value) : Row (w.setCell a v) p c d := by
  refine ⟨h.1, h.2.1, h.2.2.1, fun h0 => ?_⟩
  obtain ⟨b, o, hp, hlt, hc⟩ := h.2.2.2 h0
  refine ⟨b, o, hp, by simpa [World.setCell] using hlt, fun i hi => ?_⟩
  have hb := hn _ hp
  rw [← hc i hi]
  exact World.cell?_of_block (Below.heap_setCell _ _ _ _ hb)
theorem NR.set' {w : World} {n : Bool} {p : Option Addr} {l c : Nat} {a : Nm} (h : NR w n p l c a) (x : Addr) (hn : ∀ y, p = some y → y.block ≠ x.block) (v : Value) : NR (w.setCell x v) n p l c a :=
  ⟨h.1, h.2.1, h.2.2.set' x hn v⟩
theorem NR.zero (w : World) : NR w false none 0 0 zero := ⟨rfl, rfl, Row.nil w⟩

theorem zero_z : zero.z = 0 := rfl
theorem zero_right : zero.right = true := rfl
/-- The sign of a number. -/
def sgn (z : Int) : Int := cmpZ z 0
theorem cmpP_zero {a : Nm} (ra : a.right = true) : cmpP a zero = sgn a.z := by
  unfold cmpP
  rw [ra, zero_right, zero_z]
  rfl

set_option maxRecDepth 100000 in
set_option maxHeartbeats 1000000 in
theorem root_sign (a : Nm) (n : Bool) (p : Option Addr) (l c : Nat) (w : World) (h : NR w n p l c a) (ra : a.right = true) :
    Calls Try.prog 77 #[.agg #[.bool n, .slice p l c]] w fun e w' => e = .returned (.int .i64 (sgn a.z)) ∧ Ext w w' := by
  have S := Lib.hid (cmpP_zero ra)
  go_enter Try.func77, Try.ntmps77
  go_wp2_with fail
  refine (num_Cmp a zero _ _ _ _ _ _ _ _ _ (h.ext (by (repeat (first | exact Below.refl _ _ | assumption | refine Below.drewN ?_ _ | refine Below.drew ?_ | refine Below.setCell ?_ (by first | exact Nat.le_refl _ | (simp; done) | (simp; omega) | omega) _ | refine Below.alloc ?_ (by first | exact Nat.le_refl _ | (simp; done) | (simp; omega) | omega) _)))) (NR.zero _)).mono ?_
  rintro e w1 ⟨rfl, hx⟩
  rw [S.out]
  have hx0 : Ext w w1 := Ext.step (by (repeat (first | exact Below.refl _ _ | assumption | refine Below.drewN ?_ _ | refine Below.drew ?_ | refine Below.setCell ?_ (by first | exact Nat.le_refl _ | (simp; done) | (simp; omega) | omega) _ | refine Below.alloc ?_ (by first | exact Nat.le_refl _ | (simp; done) | (simp; omega) | omega) _))) hx
  go_wp2
  go_ret
  exact ⟨rfl, hx0⟩

/-- The product of numbers. -/
def prodZ (l : List Nm) : Int := l.foldl (fun z a => z * a.z) 1
theorem prodZ_snoc (l : List Nm) (a : Nm) : prodZ (l ++ [a]) = prodZ l * a.z := by simp [prodZ]
theorem prodZ_take (l : List Nm) (k : Nat) (a : Nm) (h : l[k]? = some a) : prodZ (l.take (k + 1)) = prodZ (l.take k) * a.z := by
  have hk := (List.getElem?_eq_some_iff.1 h).1
  rw [List.take_succ_eq_append_getElem hk, prodZ_snoc]
  rw [List.getElem?_eq_getElem hk] at h
  cases h
  rfl

/-- Numbers that lie one behind the other in a block. -/
def NRs (w : World) (b : Nat) (l : List Nm) : Prop :=
  b < w.heap.size ∧ ∀ i a, l[i]? = some a → a.right = true ∧ ∃ n p li c, w.cell? ⟨b, i * 2, none⟩ = some (.bool n) ∧ w.cell? ⟨b, i * 2 + 1, none⟩ = some (.slice p li c) ∧ NR w n p li c a
theorem NRs.ext {w w' : World} {b : Nat} {l : List Nm} (h : NRs w b l) (hx : Ext w w') : NRs w' b l := by
  refine ⟨Nat.lt_of_lt_of_le h.1 hx.size, fun i a hi => ?_⟩
  obtain ⟨hr, n, p, li, c, h1, h2, h3⟩ := h.2 i a hi
  exact ⟨hr, n, p, li, c, by rw [hx.cell (p := ⟨b, i * 2, none⟩) h.1]; exact h1, by rw [hx.cell (p := ⟨b, i * 2 + 1, none⟩) h.1]; exact h2, h3.ext hx⟩

theorem mulP_small {a b : Nm} {z : Int} (ra : a.right = true) (rb : b.right = true) (hz : a.z * b.z = z) (hs : small z = true) : mulP a b = (ofZ z, true) := by
  unfold mulP fit
  rw [ra, rb, hz, hs]
  rfl

set_option maxRecDepth 100000 in
set_option maxHeartbeats 2000000 in
theorem root_times (l : List Nm) (b : Nat) (n c : Nat) (w : World) (h : NRs w b l) (hn : n = l.length) (hl : l.length ≤ 1000) (hs : ∀ k, small (prodZ (l.take k)) = true) :
    Calls Try.prog 79 #[.slice (some ⟨b, 0, none⟩) n c] w (RetN w (ofZ (prodZ l))) := by
  subst hn
  have HS := Lib.hid hs
  clear hs
  have HN := Lib.hid h
  have hb := h.1
  clear h
  go_enter Try.func79, Try.ntmps79
  go_wp2_with fail
  refine (num_Of 1 _ (by omega) (by omega)).mono ?_
  rintro e w1 ⟨n1, p1, l1, c1, rfl, hnr, hnew, hx⟩
  have hx0 : Ext w w1 := Ext.step (by (repeat (first | exact Below.refl _ _ | assumption | refine Below.drewN ?_ _ | refine Below.drew ?_ | refine Below.setCell ?_ (by first | exact Nat.le_refl _ | (simp; done) | (simp; omega) | omega) _ | refine Below.alloc ?_ (by first | exact Nat.le_refl _ | (simp; done) | (simp; omega) | omega) _))) hx
  have hz_w1 : w.heap.size + 1 ≤ w1.heap.size := Nat.le_trans (by first | omega | (simp; done) | (simp; omega)) hx.size
  have hl_w1_0 : w.heap.size < w1.heap.size := Nat.lt_of_lt_of_le (by omega) hz_w1
  have hk_w1_0 : ∀ o, w1.cell? ⟨w.heap.size, o, none⟩ = _ := fun o => hx.cell (p := ⟨w.heap.size, o, none⟩) (show w.heap.size < _ from (by first | omega | (simp; done) | (simp; omega)))
  have hf_w1_0 : ∀ o, w1.frozen? ⟨w.heap.size, o, none⟩ = _ := fun o => hx.frozen (p := ⟨w.heap.size, o, none⟩) (show w.heap.size < _ from (by first | omega | (simp; done) | (simp; omega)))
  go_wp2_with fail
  have r0 : w1.cell? ⟨w.heap.size, 0, none⟩ = some (.bool false) := by go_simp
  have r1 : w1.cell? ⟨w.heap.size, 1, none⟩ = some (.slice none 0 0) := by go_simp
  have rf : ∀ o, w1.frozen? ⟨w.heap.size, o, none⟩ = false := by intro o; go_simp
  obtain ⟨g, G⟩ : ∃ g, Hid (w1.heap.size = g) := ⟨_, rfl⟩
  have hg0 : w.heap.size < g := by rw [← G.out]; exact hl_w1_0
  obtain ⟨w2, W2⟩ : ∃ w2, Hid (w1.alloc (.cells #[.bool n1, .slice p1 l1 c1] 84) = w2) := ⟨_, rfl⟩
  rw [W2.out, G.out]
  have hx1 : Ext w w2 := by rw [← W2.out]; (repeat (first | exact Below.refl _ _ | assumption | refine Below.drewN ?_ _ | refine Below.drew ?_ | refine Below.setCell ?_ (by first | exact Nat.le_refl _ | (simp; done) | (simp; omega) | omega) _ | refine Below.alloc ?_ (by first | exact Nat.le_refl _ | (simp; done) | (simp; omega) | omega) _))
  have hg1 : g < w2.heap.size := by rw [← W2.out, ← G.out]; simp
  have g0 : w2.cell? ⟨g, 0, none⟩ = some (.bool n1) := by rw [← W2.out, ← G.out]; go_simp
  have g1 : w2.cell? ⟨g, 1, none⟩ = some (.slice p1 l1 c1) := by rw [← W2.out, ← G.out]; go_simp
  have gf : ∀ o, w2.frozen? ⟨g, o, none⟩ = false := by intro o; rw [← W2.out, ← G.out]; go_simp
  have s0 : w2.cell? ⟨w.heap.size, 0, none⟩ = some (.bool false) := by rw [← W2.out]; go_simp
  have s1 : w2.cell? ⟨w.heap.size, 1, none⟩ = some (.slice none 0 0) := by rw [← W2.out]; go_simp
  have sf : ∀ o, w2.frozen? ⟨w.heap.size, o, none⟩ = false := by intro o; rw [← W2.out]; go_simp
  have hnr2 : NR w2 n1 p1 l1 c1 (ofZ (prodZ (l.take 0))) := by rw [← W2.out]; exact hnr.alloc _
  have hnew2 : ∀ x, p1 = some x → w.heap.size < x.block := fun x hx => by have := hnew x hx; simp at this; omega
  clear hnr hnew hx0 hk_w1_0 hf_w1_0 hl_w1_0 hz_w1 hx r0 r1 rf
  go_loopw [11] (fun i wr => ∃ (k : Nat) (n' : Bool) (p' : Option Addr) (l' c' : Nat), k ≤ l.length ∧ i = .int .i64 (k : Int) ∧ wr.cell? ⟨g, 0, none⟩ = some (.bool n') ∧ wr.cell? ⟨g, 1, none⟩ = some (.slice p' l' c') ∧ (∀ o, wr.frozen? ⟨g, o, none⟩ = false) ∧
      NR wr n' p' l' c' (ofZ (prodZ (l.take k))) ∧ (∀ x, p' = some x → w.heap.size < x.block) ∧ wr.cell? ⟨w.heap.size, 0, none⟩ = some (.bool false) ∧ wr.cell? ⟨w.heap.size, 1, none⟩ = some (.slice none 0 0) ∧ (∀ o, wr.frozen? ⟨w.heap.size, o, none⟩ = false) ∧ g < wr.heap.size ∧ Ext w wr) (fun i _ => l.length - (intOf i).toNat)
  case atStart => exact ⟨0, n1, p1, l1, c1, Nat.zero_le _, rfl, g0, g1, gf, hnr2, hnew2, s0, s1, sf, hg1, hx1⟩
  case round =>
    clear g0 g1 gf hnr2 hnew2 s0 s1 sf hg1 hx1
    obtain ⟨k, n', p', l', c', hk, rfl, g0, g1, gf, hnr, hnew, s0, s1, sf, hg1, hx⟩ := hrel
    by_cases hlt : k < l.length
    · have hb2 : b < wr.heap.size := Nat.lt_of_lt_of_le hb hx.size
      obtain ⟨ra, n2, p2, l2, c2, e0, e1, hna⟩ := (HN.out.ext hx).2 k l[k] (List.getElem?_eq_getElem hlt)
      have PR := Lib.hid (prodZ_take l k l[k] (List.getElem?_eq_getElem hlt))
      have HNW := Lib.hid hnew
      clear hnew
      go_wp2_with fail
      have MP := Lib.hid (mulP_small (ofZ_right (HS.out k)) ra (by rw [ofZ_z]; exact PR.out.symm) (HS.out (k + 1)))
      refine (num_Mul (ofZ (prodZ (l.take k))) l[k] _ _ _ _ _ _ _ _ _ (hnr.alloc _) (hna.alloc _)).mono ?_
      rintro e w3 ⟨n3, p3, l3, c3, rfl, hnr3, hnew3, hx3⟩
      rw [MP.out] at hnr3 ⊢
      have hx4 : Ext wr w3 := Ext.step (by (repeat (first | exact Below.refl _ _ | assumption | refine Below.drewN ?_ _ | refine Below.drew ?_ | refine Below.setCell ?_ (by first | exact Nat.le_refl _ | (simp; done) | (simp; omega) | omega) _ | refine Below.alloc ?_ (by first | exact Nat.le_refl _ | (simp; done) | (simp; omega) | omega) _))) hx3
      have hx5 : Ext w w3 := Ext.step hx hx4
      have g0' : w3.cell? ⟨g, 0, none⟩ = some (.bool n') := (hx4.cell (p := ⟨g, 0, none⟩) hg1).trans g0
      have g1' : w3.cell? ⟨g, 1, none⟩ = some (.slice p' l' c') := (hx4.cell (p := ⟨g, 1, none⟩) hg1).trans g1
      have gf' : ∀ o, w3.frozen? ⟨g, o, none⟩ = false := fun o => (hx4.frozen (p := ⟨g, o, none⟩) hg1).trans (gf o)
      have hw0 : w.heap.size < wr.heap.size := by omega
      have s0' : w3.cell? ⟨w.heap.size, 0, none⟩ = some (.bool false) := (hx4.cell (p := ⟨w.heap.size, 0, none⟩) hw0).trans s0
      have s1' : w3.cell? ⟨w.heap.size, 1, none⟩ = some (.slice none 0 0) := (hx4.cell (p := ⟨w.heap.size, 1, none⟩) hw0).trans s1
      have sf' : ∀ o, w3.frozen? ⟨w.heap.size, o, none⟩ = false := fun o => (hx4.frozen (p := ⟨w.heap.size, o, none⟩) hw0).trans (sf o)
      have hg2 : g < w3.heap.size := Nat.lt_of_lt_of_le hg1 hx4.size
      have hw2 : w.heap.size < w3.heap.size := by omega
      have hnew4 : ∀ x, p3 = some x → wr.heap.size < x.block := fun x hx => by have := hnew3 x hx; simp at this; omega
      have NEW := Lib.hid hnew4
      clear hnew3 hnew4 g0 g1 gf s0 s1 sf hnr hna hx3 e0 e1
      go_wp2_with fail
      refine ⟨⟨k + 1, n3, p3, l3, c3, by omega, rfl, by go_simp, by go_simp, fun o => by go_simp, ?_, fun x hx => by have := NEW.out x hx; omega, by go_simp, by go_simp, fun o => by go_simp, by simp; omega, by (repeat (first | exact Below.refl _ _ | assumption | refine Below.drewN ?_ _ | refine Below.drew ?_ | refine Below.setCell ?_ (by first | exact Nat.le_refl _ | (simp; done) | (simp; omega) | omega) _ | refine Below.alloc ?_ (by first | exact Nat.le_refl _ | (simp; done) | (simp; omega) | omega) _))⟩, by simp [intOf]; omega⟩
      refine (NR.set' (NR.set' hnr3 _ ?_ _) _ ?_ _).alloc _
      · intro y hy; have := NEW.out y hy; simp; omega
      · intro y hy; have := NEW.out y hy; simp; omega
    · obtain rfl : k = l.length := by omega
      rw [List.take_of_length_le (Nat.le_refl _)] at hnr
      have HNW := Lib.hid hnew
      have hw0 : w.heap.size < wr.heap.size := by omega
      clear hnew
      go_wp2_with fail
      refine bodyPost_ret (v := .agg #[.bool n', .slice p' l' c']) (by simp [results, Try.results79, go_sem, *]) rfl ?_
      refine ⟨n', p', l', c', rfl, ?_, fun x hx => Nat.le_of_lt (HNW.out x hx), by (repeat (first | exact Below.refl _ _ | assumption | refine Below.drewN ?_ _ | refine Below.drew ?_ | refine Below.setCell ?_ (by first | exact Nat.le_refl _ | (simp; done) | (simp; omega) | omega) _ | refine Below.alloc ?_ (by first | exact Nat.le_refl _ | (simp; done) | (simp; omega) | omega) _))⟩
      refine NR.set' (NR.set' hnr _ ?_ _) _ ?_ _
      · intro y hy; have := HNW.out y hy; simp; omega
      · intro y hy; have := HNW.out y hy; simp; omega
end Go.Proofs.Ytmmhiiiaccldmaa
