/- Contracts: etchantref01.Sub, Cmp. | Plain mathematics of the product of digits. | Contract: num.Mul. -/
import Derived.Test.YtighahcllmoajaaGreatJ16
import Derived.Test.YtighahcllmoajaaGreatJ01
set_option linter.unusedVariables false
set_option linter.unusedSimpArgs false

namespace Go.Proofs.YtighahcllmoajaaGreat
open Go.RowKit

theorem oppP_right (a : Nm) : (oppP a).right = a.right := by
  unfold oppP
  split
  · rfl
  · rename_i h
    have h1 : a.d.length ≠ 0 := by simpa using h
    simp [Nm.right, h1]
theorem oppP_z (a : Nm) : (oppP a).z = -a.z := by
  unfold oppP
  split
  · rename_i h
    simp [Nm.z, h, val]
  · unfold Nm.z
    cases a.neg <;> simp
theorem oppP_sub (a b : Nm) : addP a (oppP b) = subP a b := by
  unfold addP subP
  rw [oppP_right, oppP_z]
  rfl

set_option maxRecDepth 100000 in
set_option maxHeartbeats 1000000 in
theorem r01_Sub (a b : Nm) (na nb : Bool) (pa pb : Option Addr) (la ca lb cb : Nat) (w : World) (ha : NR w na pa la ca a) (hb : NR w nb pb lb cb b) :
    Calls Tryz.prog 137 #[.agg #[.bool na, .slice pa la ca], .agg #[.bool nb, .slice pb lb cb]] w (RetNum w (subP a b)) := by
  have S := Lib.hid (oppP_sub a b)
  go_enter Tryz.func137, Tryz.ntmps137
  go_wp2_with fail
  go_region_held3 (fun w' => w'.cell? ⟨w.heap.size, 0, none⟩ = some (.bool na) ∧ w'.cell? ⟨w.heap.size, 1, none⟩ = some (.slice pa la ca) ∧ w'.cell? ⟨w.heap.size + 1, 0, none⟩ = some (.bool nb) ∧ w'.cell? ⟨w.heap.size + 1, 1, none⟩ = some (.slice pb lb cb)) (refine ⟨?_, ?_, ?_, ?_⟩ <;> go_simp) (first | (go_at_call 175; refine (r01_opposite b _ _ _ _ _ (hb.ext bxx)).mono ?_; rintro e w1 ⟨nb', rfl, hnb, hx⟩; (have hx0 : Ext w w1 := Ext.step bxx hx); have hz_w1 : w.heap.size + 3 ≤ w1.heap.size := Nat.le_trans omm hx.size; obtain ⟨hl_w1_0, hk_w1_0, hf_w1_0⟩ := extK hx (w.heap.size); obtain ⟨hl_w1_1, hk_w1_1, hf_w1_1⟩ := extK hx (w.heap.size + 1); obtain ⟨hl_w1_2, hk_w1_2, hf_w1_2⟩ := extK hx (w.heap.size + 2)) | (go_at_call 138; refine (r01_Add a (oppP b) _ _ _ _ _ _ _ _ _ (ha.ext bxx) (hnb.ext bxx)).mono ?_; rintro e w2 ⟨n', p', l', c', rfl, hnr, hnew', hx2⟩; (have hx3 : Ext w w2 := Ext.step bxx hx2); have hz_w2 : w.heap.size + 3 ≤ w2.heap.size := Nat.le_trans omm hx2.size; obtain ⟨hl_w2_0, hk_w2_0, hf_w2_0⟩ := extK hx2 (w.heap.size); obtain ⟨hl_w2_1, hk_w2_1, hf_w2_1⟩ := extK hx2 (w.heap.size + 1); obtain ⟨hl_w2_2, hk_w2_2, hf_w2_2⟩ := extK hx2 (w.heap.size + 2)))
  all_goals
    have HNR : NR w2 n' p' l' c' (subP a b).1 := by rw [← S.out]; exact hnr
    rw [S.out]
    clear hnr
    go_wp2_with fail
    refine bodyPost_ret (v := .tuple #[.agg #[.bool n', .slice p' l' c'], .bool (subP a b).2]) (by simp [results, Tryz.results137, go_sem, *]) rfl ?_
    exact ⟨n', p', l', c', rfl, (by repeat (first | assumption | refine NR.set ?_ (by assumption) _ (by first | (simp; done) | (simp; omega) | omega) _ | refine NR.alloc ?_ _)), hnew'.mono (by first | omega | (simp; omega)), bxx⟩

set_option maxRecDepth 100000 in
set_option maxHeartbeats 1000000 in
theorem r01_Cmp (a b : Nm) (na nb : Bool) (pa pb : Option Addr) (la ca lb cb : Nat) (w : World) (ha : NR w na pa la ca a) (hb : NR w nb pb lb cb b) :
    Calls Tryz.prog 120 #[.agg #[.bool na, .slice pa la ca], .agg #[.bool nb, .slice pb lb cb]] w fun e w' => e = .returned (.int .i64 (cmpP a b)) ∧ Ext w w' := by
  by_cases ra : a.right = true
  · by_cases rb : b.right = true
    · have n1 := ha.1
      have n2 := hb.1
      have da := ha.2.2.dig
      have db := hb.2.2.dig
      cases h1 : a.neg <;> cases h2 : b.neg <;> rw [h1] at n1 <;> rw [h2] at n2 <;> subst n1 n2
      · have S := Lib.hid (cmpP_pos ra rb da db h1 h2)
        clear h1 h2
        go_enter Tryz.func120, Tryz.ntmps120
        go_wp2_with fail
        refine (r01_Right a _ _ _ _ _ (ha.ext bxx)).mono ?_
        rintro e w1 ⟨rfl, hx⟩
        rw [ra]
        have hx0 : Ext w w1 := Ext.step bxx hx
        have hz_w1 : w.heap.size + 2 ≤ w1.heap.size := Nat.le_trans omm hx.size
        obtain ⟨hl_w1_0, hk_w1_0, hf_w1_0⟩ := extK hx (w.heap.size)
        obtain ⟨hl_w1_1, hk_w1_1, hf_w1_1⟩ := extK hx (w.heap.size + 1)
        go_wp2_with fail
        refine (r01_Right b _ _ _ _ _ (hb.ext bxx)).mono ?_
        rintro e w2 ⟨rfl, hx2⟩
        rw [rb]
        have hx1 : Ext w w2 := Ext.step hx0 hx2
        have hz_w2 : w.heap.size + 2 ≤ w2.heap.size := Nat.le_trans omm hx2.size
        obtain ⟨hl_w2_0, hk_w2_0, hf_w2_0⟩ := extK hx2 (w.heap.size)
        obtain ⟨hl_w2_1, hk_w2_1, hf_w2_1⟩ := extK hx2 (w.heap.size + 1)
        go_wp2_with fail
        refine (r01_compare a.d b.d _ _ _ _ _ _ _ (ha.2.2.ext bxx) (hb.2.2.ext bxx) ha.2.1 hb.2.1).mono ?_
        rintro e w3 ⟨rfl, hx3⟩
        have hx4 : Ext w w3 := Ext.step hx1 hx3
        go_wp2
        go_ret
        exact ⟨by rw [S.out]; rfl, hx4⟩
      · have S := Lib.hid (cmpP_more ra rb db h1 h2)
        clear h1 h2
        go_enter Tryz.func120, Tryz.ntmps120
        go_wp2_with fail
        refine (r01_Right a _ _ _ _ _ (ha.ext bxx)).mono ?_
        rintro e w1 ⟨rfl, hx⟩
        rw [ra]
        have hx0 : Ext w w1 := Ext.step bxx hx
        have hz_w1 : w.heap.size + 2 ≤ w1.heap.size := Nat.le_trans omm hx.size
        obtain ⟨hl_w1_0, hk_w1_0, hf_w1_0⟩ := extK hx (w.heap.size)
        obtain ⟨hl_w1_1, hk_w1_1, hf_w1_1⟩ := extK hx (w.heap.size + 1)
        go_wp2_with fail
        refine (r01_Right b _ _ _ _ _ (hb.ext bxx)).mono ?_
        rintro e w2 ⟨rfl, hx2⟩
        rw [rb]
        have hx1 : Ext w w2 := Ext.step hx0 hx2
        have hz_w2 : w.heap.size + 2 ≤ w2.heap.size := Nat.le_trans omm hx2.size
        obtain ⟨hl_w2_0, hk_w2_0, hf_w2_0⟩ := extK hx2 (w.heap.size)
        obtain ⟨hl_w2_1, hk_w2_1, hf_w2_1⟩ := extK hx2 (w.heap.size + 1)
        go_wp2
        go_ret
        exact ⟨by rw [S.out]; rfl, hx1⟩
      · have S := Lib.hid (cmpP_less ra rb da h1 h2)
        clear h1 h2
        go_enter Tryz.func120, Tryz.ntmps120
        go_wp2_with fail
        refine (r01_Right a _ _ _ _ _ (ha.ext bxx)).mono ?_
        rintro e w1 ⟨rfl, hx⟩
        rw [ra]
        have hx0 : Ext w w1 := Ext.step bxx hx
        have hz_w1 : w.heap.size + 2 ≤ w1.heap.size := Nat.le_trans omm hx.size
        obtain ⟨hl_w1_0, hk_w1_0, hf_w1_0⟩ := extK hx (w.heap.size)
        obtain ⟨hl_w1_1, hk_w1_1, hf_w1_1⟩ := extK hx (w.heap.size + 1)
        go_wp2_with fail
        refine (r01_Right b _ _ _ _ _ (hb.ext bxx)).mono ?_
        rintro e w2 ⟨rfl, hx2⟩
        rw [rb]
        have hx1 : Ext w w2 := Ext.step hx0 hx2
        have hz_w2 : w.heap.size + 2 ≤ w2.heap.size := Nat.le_trans omm hx2.size
        obtain ⟨hl_w2_0, hk_w2_0, hf_w2_0⟩ := extK hx2 (w.heap.size)
        obtain ⟨hl_w2_1, hk_w2_1, hf_w2_1⟩ := extK hx2 (w.heap.size + 1)
        go_wp2
        go_ret
        exact ⟨by rw [S.out]; rfl, hx1⟩
      · have S := Lib.hid (cmpP_negs ra rb da db h1 h2)
        clear h1 h2
        go_enter Tryz.func120, Tryz.ntmps120
        go_wp2_with fail
        refine (r01_Right a _ _ _ _ _ (ha.ext bxx)).mono ?_
        rintro e w1 ⟨rfl, hx⟩
        rw [ra]
        have hx0 : Ext w w1 := Ext.step bxx hx
        have hz_w1 : w.heap.size + 2 ≤ w1.heap.size := Nat.le_trans omm hx.size
        obtain ⟨hl_w1_0, hk_w1_0, hf_w1_0⟩ := extK hx (w.heap.size)
        obtain ⟨hl_w1_1, hk_w1_1, hf_w1_1⟩ := extK hx (w.heap.size + 1)
        go_wp2_with fail
        refine (r01_Right b _ _ _ _ _ (hb.ext bxx)).mono ?_
        rintro e w2 ⟨rfl, hx2⟩
        rw [rb]
        have hx1 : Ext w w2 := Ext.step hx0 hx2
        have hz_w2 : w.heap.size + 2 ≤ w2.heap.size := Nat.le_trans omm hx2.size
        obtain ⟨hl_w2_0, hk_w2_0, hf_w2_0⟩ := extK hx2 (w.heap.size)
        obtain ⟨hl_w2_1, hk_w2_1, hf_w2_1⟩ := extK hx2 (w.heap.size + 1)
        go_wp2_with fail
        refine (r01_compare b.d a.d _ _ _ _ _ _ _ (hb.2.2.ext bxx) (ha.2.2.ext bxx) hb.2.1 ha.2.1).mono ?_
        rintro e w3 ⟨rfl, hx3⟩
        have hx4 : Ext w w3 := Ext.step hx1 hx3
        go_wp2
        go_ret
        exact ⟨by rw [S.out]; rfl, hx4⟩
    · have rb : b.right = false := by simpa using rb
      have S := Lib.hid (cmpP_none (a := a) (.inr rb))
      go_enter Tryz.func120, Tryz.ntmps120
      go_wp2_with fail
      refine (r01_Right a _ _ _ _ _ (ha.ext bxx)).mono ?_
      rintro e w1 ⟨rfl, hx⟩
      rw [ra]
      have hx0 : Ext w w1 := Ext.step bxx hx
      have hz_w1 : w.heap.size + 2 ≤ w1.heap.size := Nat.le_trans omm hx.size
      obtain ⟨hl_w1_0, hk_w1_0, hf_w1_0⟩ := extK hx (w.heap.size)
      obtain ⟨hl_w1_1, hk_w1_1, hf_w1_1⟩ := extK hx (w.heap.size + 1)
      go_wp2_with fail
      refine (r01_Right b _ _ _ _ _ (hb.ext bxx)).mono ?_
      rintro e w2 ⟨rfl, hx2⟩
      rw [rb]
      have hx1 : Ext w w2 := Ext.step hx0 hx2
      have hz_w2 : w.heap.size + 2 ≤ w2.heap.size := Nat.le_trans omm hx2.size
      obtain ⟨hl_w2_0, hk_w2_0, hf_w2_0⟩ := extK hx2 (w.heap.size)
      obtain ⟨hl_w2_1, hk_w2_1, hf_w2_1⟩ := extK hx2 (w.heap.size + 1)
      go_wp2
      go_ret
      exact ⟨by rw [S.out]; rfl, hx1⟩
  · have ra : a.right = false := by simpa using ra
    have S := Lib.hid (cmpP_none (b := b) (.inl ra))
    go_enter Tryz.func120, Tryz.ntmps120
    go_wp2_with fail
    refine (r01_Right a _ _ _ _ _ (ha.ext bxx)).mono ?_
    rintro e w1 ⟨rfl, hx⟩
    rw [ra]
    have hx0 : Ext w w1 := Ext.step bxx hx
    have hz_w1 : w.heap.size + 2 ≤ w1.heap.size := Nat.le_trans omm hx.size
    obtain ⟨hl_w1_0, hk_w1_0, hf_w1_0⟩ := extK hx (w.heap.size)
    obtain ⟨hl_w1_1, hk_w1_1, hf_w1_1⟩ := extK hx (w.heap.size + 1)
    go_wp2
    go_ret
    exact ⟨by rw [S.out]; rfl, hx0⟩
end Go.Proofs.YtighahcllmoajaaGreat

namespace Go.Proofs.YtighahcllmoajaaGreat

theorem val_set (o : List Nat) (j d q : Nat) (hj : j < o.length) (hq : o[j]?.getD 0 = q) : val (o.set j d) + 4294967296 ^ j * q = val o + 4294967296 ^ j * d := by
  induction o generalizing j with
  | nil => simp at hj
  | cons x o ih =>
    cases j with
    | zero =>
      simp only [List.getElem?_cons_zero, Option.getD_some] at hq
      subst hq
      simp only [List.set_cons_zero, val_cons, Nat.pow_zero, Nat.one_mul]
      omega
    | succ j =>
      simp only [List.getElem?_cons_succ] at hq
      have h := ih j (by simpa using hj) hq
      simp only [List.set_cons_succ, val_cons, Nat.pow_succ]
      generalize 4294967296 ^ j = p at *
      have e1 : p * 4294967296 * q = 4294967296 * (p * q) := by rw [Nat.mul_comm p, Nat.mul_assoc]
      have e2 : p * 4294967296 * d = 4294967296 * (p * d) := by rw [Nat.mul_comm p, Nat.mul_assoc]
      rw [e1, e2]
      generalize p * q = u at *
      generalize p * d = v at *
      omega
theorem Dig.set {o : List Nat} (h : Dig o) (j d : Nat) (hd : d < 4294967296) : Dig (o.set j d) := by
  intro x hx
  rcases List.mem_or_eq_of_mem_set hx with hx | rfl
  · exact h x hx
  · exact hd
theorem getD_set_ne {o : List Nat} {i j d : Nat} (h : i ≠ j) : (o.set i d)[j]?.getD 0 = o[j]?.getD 0 := by rw [List.getElem?_set_ne h]

/-- From place m on all digits are 0. -/
def Zeros (o : List Nat) (m : Nat) : Prop := ∀ j, m ≤ j → o[j]?.getD 0 = 0
theorem Zeros.replicate (n m : Nat) : Zeros (List.replicate n 0) m := by
  intro j _
  rw [List.getElem?_replicate]
  split <;> rfl
theorem Zeros.set {o : List Nat} {m j d : Nat} (h : Zeros o m) (hj : j < m) : Zeros (o.set j d) m := by
  intro i hi
  rw [getD_set_ne (by omega)]
  exact h i hi
theorem Zeros.mono {o : List Nat} {m n : Nat} (h : Zeros o m) (hm : m ≤ n) : Zeros o n := fun j hj => h j (by omega)

theorem val_take_next (d : List Nat) (k x : Nat) (hx : d[k]?.getD 0 = x) : val (d.take (k + 1)) = val (d.take k) + 4294967296 ^ k * x := by
  subst hx
  by_cases h : k < d.length
  · rw [List.take_succ_eq_append_getElem h, val_append]
    have : d[k]?.getD 0 = d[k] := by rw [List.getElem?_eq_getElem h]; rfl
    rw [this]
    simp only [List.length_take, Nat.min_eq_left (Nat.le_of_lt h), val_cons, val_nil]
    simp
  · rw [List.take_of_length_le (by omega), List.take_of_length_le (by omega), List.getElem?_eq_none (by omega)]
    simp

/-- The invariant of a product: i digits of a are done, and of the next one, x, k digits of b; c is carried. -/
def MulInv (a b o : List Nat) (i k x c : Nat) : Prop :=
  Dig o ∧ c < 4294967296 ∧ val o + 4294967296 ^ (i + k) * c = val (a.take i) * val b + x * (4294967296 ^ i * val (b.take k))

theorem MulInv.step {a b o : List Nat} {i k x c y q m : Nat} (h : MulInv a b o i k x c) (hj : i + k < o.length) (hx : x < 4294967296) (hy : b[k]?.getD 0 = y) (hyd : y < 4294967296) (hq : o[i + k]?.getD 0 = q) (hqd : q < 4294967296) (hm : x * y = m) :
    MulInv a b (o.set (i + k) ((c + (q + m)) % 4294967296)) i (k + 1) x ((c + (q + m)) / 4294967296) := by
  obtain ⟨h1, h2, h3⟩ := h
  have hb : m ≤ 4294967295 * 4294967295 := by rw [← hm]; exact Nat.mul_le_mul (by omega) (by omega)
  refine ⟨h1.set _ _ (Nat.mod_lt _ (by decide)), by omega, ?_⟩
  have hv := val_set o (i + k) ((c + (q + m)) % 4294967296) q hj hq
  have hd := Nat.mod_add_div (c + (q + m)) 4294967296
  rw [val_take_next b k y hy]
  generalize (c + (q + m)) % 4294967296 = d at *
  generalize (c + (q + m)) / 4294967296 = e at *
  have hp : (4294967296 : Nat) ^ (i + (k + 1)) = 4294967296 ^ (i + k) * 4294967296 := by rw [← Nat.add_assoc, Nat.pow_succ]
  have hp2 : x * (4294967296 ^ i * (val (b.take k) + 4294967296 ^ k * y)) = x * (4294967296 ^ i * val (b.take k)) + 4294967296 ^ (i + k) * m := by
    rw [Nat.mul_add, Nat.mul_add, ← hm, Nat.pow_add]
    congr 1
    generalize 4294967296 ^ i = u
    generalize 4294967296 ^ k = v
    rw [Nat.mul_left_comm x u, Nat.mul_assoc u v, Nat.mul_left_comm x v]
  rw [hp, hp2]
  generalize val (o.set (i + k) d) = v' at *
  generalize 4294967296 ^ (i + k) = p at *
  generalize x * (4294967296 ^ i * val (b.take k)) = r at *
  generalize val (a.take i) * val b = s at *
  have h4 : p * d + p * 4294967296 * e = p * c + (p * q + p * m) := by
    rw [Nat.mul_assoc, ← Nat.mul_add, hd, Nat.mul_add, Nat.mul_add]
  generalize p * 4294967296 * e = w1 at *
  generalize p * d = w2 at *
  generalize p * c = w3 at *
  generalize p * q = w4 at *
  generalize p * m = w5 at *
  omega
theorem MulInv.start {a b o : List Nat} {i x : Nat} (hd : Dig o) (h : val o = val (a.take i) * val b) : MulInv a b o i 0 x 0 :=
  ⟨hd, by decide, by simp [val, h]⟩
/-- The row of one digit is at its end: what is carried goes into a new place. -/
theorem MulInv.finish {a b o : List Nat} {i k x c : Nat} (h : MulInv a b o i k x c) (hk : b.length ≤ k) (hx : a[i]?.getD 0 = x) (hz : o[i + k]?.getD 0 = 0) (hj : i + k < o.length) :
    Dig (o.set (i + k) c) ∧ val (o.set (i + k) c) = val (a.take (i + 1)) * val b := by
  obtain ⟨h1, h2, h3⟩ := h
  refine ⟨h1.set _ _ h2, ?_⟩
  have hv := val_set o (i + k) c 0 hj hz
  rw [List.take_of_length_le hk] at h3
  rw [val_take_next a i x hx, Nat.add_mul, Nat.mul_comm (4294967296 ^ i) x, Nat.mul_assoc]
  omega
theorem MulInv.done {a b o : List Nat} {i k x : Nat} (h : MulInv a b o i k x 0) (hk : b.length ≤ k) (hx : a[i]?.getD 0 = x) : val o = val (a.take (i + 1)) * val b := by
  obtain ⟨h1, h2, h3⟩ := h
  rw [List.take_of_length_le hk] at h3
  rw [val_take_next a i x hx, Nat.add_mul, Nat.mul_comm (4294967296 ^ i) x, Nat.mul_assoc]
  omega
end Go.Proofs.YtighahcllmoajaaGreat

namespace Go.Proofs.YtighahcllmoajaaGreat
open Go.RowKit

theorem own_len {w : World} {B e : Nat} {v : Value} {n : Nat} {o : List Nat} (h : w.ownsRow B e 1 v n (enc o)) : o.length = n := by
  have := h.1
  rwa [enc_length, Nat.mul_one] at this
theorem own_cell {w : World} {B e g n c : Nat} {o : List Nat} (h : w.ownsRow B e 1 (.slice (some ⟨g, 0, none⟩) n c) n (enc o)) (j q : Nat) (hj : j < n) (hq : o[j]?.getD 0 = q) : w.cell? ⟨g, j, none⟩ = some (.int .u32 (q : Int)) := by
  rw [h.cellAt j (by omega), enc_get o j (by rw [own_len h]; exact hj), hq]
theorem own_set {w : World} {B e g n c : Nat} {o : List Nat} (h : w.ownsRow B e 1 (.slice (some ⟨g, 0, none⟩) n c) n (enc o)) (j d : Nat) :
    (w.setCell ⟨g, j, none⟩ (.int .u32 (d : Int))).ownsRow B e 1 (.slice (some ⟨g, 0, none⟩) n c) n (enc (o.set j d)) ∧ w.grownBy (w.setCell ⟨g, j, none⟩ (.int .u32 (d : Int))) (some g) := by
  have := h.stored j (.int .u32 (d : Int))
  have e : (enc o).set j (.int .u32 (d : Int)) = enc (o.set j d) := by simp [enc, List.map_set]
  rw [e] at this
  exact this

theorem mulP_left {a b : Nm} (ha : a.right = false) : mulP a b = (zero, false) := by simp [mulP, ha]
theorem mulP_right {a b : Nm} (hb : b.right = false) : mulP a b = (zero, false) := by simp [mulP, hb]
theorem mulP_made {a b : Nm} {o : List Nat} (ra : a.right = true) (rb : b.right = true) (hv : val o = val a.d * val b.d) : madeP (a.neg != b.neg) o = mulP a b := by
  rw [madeP_fit, mulP, ra, rb, hv, Nm.z, Nm.z]
  have e : (((val a.d * val b.d : Nat)) : Int) = (val a.d : Int) * (val b.d : Int) := by simp
  rw [e]
  cases a.neg <;> cases b.neg <;> simp [Int.neg_mul, Int.mul_neg]

set_option maxRecDepth 100000 in
set_option maxHeartbeats 4000000 in
theorem num_mul_main (a b : Nm) (na nb : Bool) (pa pb : Option Addr) (la ca lb cb : Nat) (w : World) (ha : NR w na pa la ca a) (hb : NR w nb pb lb cb b) (ra : a.right = true) (rb : b.right = true) :
    Calls Tryz.prog 108 #[.agg #[.bool na, .slice pa la ca], .agg #[.bool nb, .slice pb lb cb]] w (RetNum w (mulP a b)) := by
  have la64 := ha.len ra
  have lb64 := hb.len rb
  have hla := ha.2.1
  have hlb := hb.2.1
  have rowa := ha.2.2
  have rowb := hb.2.2
  have hnn : (na != nb) = (a.neg != b.neg) := by rw [ha.1, hb.1]
  have HNN := Lib.hid hnn
  have la64' : la ≤ 64 := by omega
  have lb64' : lb ≤ 64 := by omega
  have HLA := Lib.hid hla
  have HLB := Lib.hid hlb
  clear hla hlb hnn
  obtain ⟨i, hi, hz0, hz1, hz2⟩ := info_parts info32
  go_enter Tryz.func108, Tryz.ntmps108
  go_wp2_with fail
  refine (num_Right a _ _ _ _ _ (ha.ext bxx)).mono ?_
  rintro e w1 ⟨rfl, hx⟩
  rw [ra]
  have hx0 : Ext w w1 := Ext.step bxx hx
  have hz_w1 : w.heap.size + 3 ≤ w1.heap.size := Nat.le_trans omm hx.size
  obtain ⟨hl_w1_0, hk_w1_0, hf_w1_0⟩ := extK hx (w.heap.size)
  obtain ⟨hl_w1_1, hk_w1_1, hf_w1_1⟩ := extK hx (w.heap.size + 1)
  obtain ⟨hl_w1_2, hk_w1_2, hf_w1_2⟩ := extK hx (w.heap.size + 2)
  go_wp2_with fail
  refine (num_Right b _ _ _ _ _ (hb.ext bxx)).mono ?_
  rintro e w2 ⟨rfl, hx2⟩
  rw [rb]
  have hx1 : Ext w w2 := Ext.step hx0 hx2
  have hz_w2 : w.heap.size + 3 ≤ w2.heap.size := Nat.le_trans omm hx2.size
  obtain ⟨hl_w2_0, hk_w2_0, hf_w2_0⟩ := extK hx2 (w.heap.size)
  obtain ⟨hl_w2_1, hk_w2_1, hf_w2_1⟩ := extK hx2 (w.heap.size + 1)
  obtain ⟨hl_w2_2, hk_w2_2, hf_w2_2⟩ := extK hx2 (w.heap.size + 2)
  obtain ⟨N, hN⟩ : ∃ N, N = la + lb := ⟨_, rfl⟩
  have hN1 : N ≤ la + lb := Nat.le_of_eq hN
  have hN2 : la + lb ≤ N := Nat.le_of_eq hN.symm
  clear hN
  go_wp2_with (at_make; refine wpList_make_full _ rfl _ _ 34 rfl w2.heap.size 118 i (.int .u32 0) 1 Tryz.underlying34 hi hz0 hz1 _ _ _ _ N rfl rfl (by omega) (by omega) (by rw [hz2]; omega) (by unfold maxLen; omega) (Nat.le_refl _) ?_)
  intro w3 hown hgr
  rw [show (madeCells #[Value.int IntKind.u32 0] N).toList = enc (List.replicate N 0) from by rw [enc, List.map_replicate]; exact toList_madeCells_one _ _] at hown
  obtain ⟨g, G⟩ : ∃ g, Hid (w2.heap.size = g) := ⟨_, rfl⟩
  have hx3 : Ext w2 w3 := ⟨hgr.os, hgr.tape, hgr.output, hgr.size, fun k hk => hgr.block k hk (by simp)⟩
  have hx4 : Ext w w3 := Ext.step hx1 hx3
  have hz_w3 : w.heap.size + 3 ≤ w3.heap.size := Nat.le_trans omm hx3.size
  obtain ⟨hl_w3_0, hk_w3_0, hf_w3_0⟩ := extK hx3 (w.heap.size)
  obtain ⟨hl_w3_1, hk_w3_1, hf_w3_1⟩ := extK hx3 (w.heap.size + 1)
  obtain ⟨hl_w3_2, hk_w3_2, hf_w3_2⟩ := extK hx3 (w.heap.size + 2)
  rw [G.out] at hown ⊢
  have hg0 : w.heap.size + 3 ≤ g := by rw [← G.out]; exact hz_w2
  have hg1 : g < w3.heap.size := by
    obtain ⟨_, h⟩ := hown
    rcases h with ⟨h, _⟩ | ⟨g', _, _, h, _, hh, _⟩
    · cases h
    · cases h
      exact (Array.getElem?_eq_some_iff.1 hh).1
  clear hgr hx hx2 hx3 hx0
  go_wp2_with fail
  have c0 : w3.cell? ⟨w.heap.size, 0, none⟩ = some (.bool na) := by go_simp
  have c1 : w3.cell? ⟨w.heap.size, 1, none⟩ = some (.slice pa la ca) := by go_simp
  have c2 : w3.cell? ⟨w.heap.size + 1, 0, none⟩ = some (.bool nb) := by go_simp
  have c3 : w3.cell? ⟨w.heap.size + 1, 1, none⟩ = some (.slice pb lb cb) := by go_simp
  have c4 : w3.cell? ⟨w.heap.size + 2, 0, none⟩ = some (.bool false) := by go_simp
  have c5 : w3.cell? ⟨w.heap.size + 2, 1, none⟩ = some (.slice none 0 0) := by go_simp
  have f4 : ∀ o, w3.frozen? ⟨w.heap.size + 2, o, none⟩ = false := by intro o; go_simp
  have rowa3 := rowa.ext hx4
  have rowb3 := rowb.ext hx4
  have bla : 0 < a.d.length → ∀ x, pa = some x → x.block ≠ g := by
    intro h0 x hx
    obtain ⟨b', o, hp, hlt, _⟩ := rowa.at h0
    rw [hp] at hx
    cases hx
    exact Nat.ne_of_lt (show b' < g by omega)
  have blb : 0 < b.d.length → ∀ x, pb = some x → x.block ≠ g := by
    intro h0 x hx
    obtain ⟨b', o, hp, hlt, _⟩ := rowb.at h0
    rw [hp] at hx
    cases hx
    exact Nat.ne_of_lt (show b' < g by omega)
  have BLA := Lib.hid bla
  have BLB := Lib.hid blb
  have C0 := Lib.hid c0
  have C2 := Lib.hid c2
  have C4 := Lib.hid c4
  have C5 := Lib.hid c5
  have C1 := Lib.hid c1
  have C3 := Lib.hid c3
  have F4 := Lib.hid f4
  have RA := Lib.hid rowa3
  have RB := Lib.hid rowb3
  clear hk_w1_0 hk_w1_1 hk_w1_2 hf_w1_0 hf_w1_1 hf_w1_2 hk_w2_0 hk_w2_1 hk_w2_2 hf_w2_0 hf_w2_1 hf_w2_2 hk_w3_0 hk_w3_1 hk_w3_2 hf_w3_0 hf_w3_1 hf_w3_2 c0 c1 c2 c3 c4 c5 f4 rowa3 rowb3 bla blb rowa rowb ha hb
  go_loopw [32] (fun i wr => ∃ (n : Nat) (o : List Nat), n ≤ la ∧ i = .int .i64 (n : Int) ∧ Dig o ∧ val o = val (a.d.take n) * val b.d ∧ Zeros o (n + lb) ∧ wr.ownsRow g 118 1 (.slice (some ⟨g, 0, none⟩) N N) N (enc o) ∧ w3.grownBy wr (some g)) (fun i _ => la - (intOf i).toNat)
  case atStart => exact ⟨0, _, Nat.zero_le _, rfl, fun x hx => by rw [List.eq_of_mem_replicate hx]; decide, by rw [val_replicate]; simp [val], Zeros.replicate _ _, hown, ⟨rfl, rfl, rfl, Nat.le_refl _, fun _ _ _ => rfl⟩⟩
  case round =>
    clear hown
    obtain ⟨n, o, hn, rfl, hd, hv, hz, hown, hg⟩ := hrel
    by_cases hlt : n < la
    · have RAw := RA.out.grown BLA.out hg
      obtain ⟨ba, oa, rfl, hba, hca⟩ := RAw.at (by rw [← HLA.out]; omega)
      have hca1 := hca n (by rw [← HLA.out]; omega)
      obtain ⟨x, X⟩ : ∃ x, Hid (a.d[n]?.getD 0 = x) := ⟨_, rfl⟩
      rw [X.out] at hca1
      have hxd : x < 4294967296 := by have := RA.out.dig.getD n; rw [List.getD_eq_getElem?_getD, X.out] at this; exact this
      have c3 : wr.cell? ⟨w.heap.size + 1, 1, none⟩ = some (.slice pb lb cb) := (World.cell?_of_block (hg.block _ (show w.heap.size + 1 < w3.heap.size by omega) (by simp; omega))).trans C3.out
      have M0 := Lib.hid (MulInv.start (a := a.d) (b := b.d) (i := n) (x := x) hd hv)
      clear hca hd hv
      have V := Lib.hid hz
      clear hz
      go_wp2_with fail
      go_loopw [9, 40] (fun cr kk wi => ∃ (k c : Nat) (q : List Nat), k ≤ lb ∧ kk = .int .i64 (k : Int) ∧ cr = .int .u64 (c : Int) ∧ MulInv a.d b.d q n k x c ∧ Zeros q (n + lb) ∧ wi.ownsRow g 118 1 (.slice (some ⟨g, 0, none⟩) N N) N (enc q) ∧ w3.grownBy wi (some g)) (fun _ kk _ => lb - (intOf kk).toNat)
      case atStart => exact ⟨0, 0, o, Nat.zero_le _, rfl, rfl, M0.out, V.out, hown, hg⟩
      case round =>
        clear hown hg c3 hca1
        obtain ⟨k, c, q, hk, rfl, rfl, hm, hz, hown, hg⟩ := hrel
        by_cases hkl : k < lb
        · have RBw := RB.out.grown BLB.out hg
          obtain ⟨bb, ob, rfl, hbb, hcb⟩ := RBw.at (by rw [← HLB.out]; omega)
          have hcb1 := hcb k (by rw [← HLB.out]; omega)
          obtain ⟨y, Y⟩ : ∃ y, Hid (b.d[k]?.getD 0 = y) := ⟨_, rfl⟩
          rw [Y.out] at hcb1
          have hyd : y < 4294967296 := by have := RB.out.dig.getD k; rw [List.getD_eq_getElem?_getD, Y.out] at this; exact this
          obtain ⟨u, U⟩ : ∃ u, Hid (q[n + k]?.getD 0 = u) := ⟨_, rfl⟩
          have hud : u < 4294967296 := by have := hm.1.getD (n + k); rw [List.getD_eq_getElem?_getD, U.out] at this; exact this
          have hql := own_len hown
          have hcu := own_cell hown (n + k) u (by omega) U.out
          have hfu := hown.frozenAt (n + k)
          obtain ⟨m, MM⟩ : ∃ m, Hid (x * y = m) := ⟨_, rfl⟩
          have hme : (x : Int) * (y : Int) = (m : Int) := by rw [← MM.out]; simp
          have hmb : m ≤ 18446744065119617025 := by rw [← MM.out]; exact Nat.mul_le_mul (show x ≤ 4294967295 by omega) (show y ≤ 4294967295 by omega)
          have hcd := hm.2.1
          have M1 := Lib.hid (hm.step (by omega) hxd Y.out hyd U.out hud MM.out)
          have hst := own_set hown (n + k) ((c + (u + m)) % 4294967296)
          have ST := Lib.hid hst.1
          have SG := Lib.hid (grownBy_trans hg hst.2)
          have Tryz1 := Lib.hid (hz.set (j := n + k) (d := (c + (u + m)) % 4294967296) (by omega))
          clear hcb hm hst hz hql hown hg
          go_wp2
          have e : (((c + (u + m)) % 4294967296 : Nat) : Int) = ((c : Int) + ((u : Int) + (m : Int))) % 4294967296 := by omega
          have s1 := ST.out
          have s2 := SG.out
          rw [e] at s1 s2
          exact ⟨⟨k + 1, (c + (u + m)) / 4294967296, _, by omega, rfl, ret_u64 (by omega), M1.out, Tryz1.out, s1, s2⟩, by simp [intOf]; omega⟩
        · have hk2 : lb ≤ k := by omega
          have hql := own_len hown
          have hcu := own_cell hown (n + lb) 0 (by omega) (hz _ (Nat.le_refl _))
          have hfu := hown.frozenAt (n + lb)
          obtain rfl : k = lb := by omega
          have c3 : wr.cell? ⟨w.heap.size + 1, 1, none⟩ = some (.slice pb k cb) := (World.cell?_of_block (hg.block _ (show w.heap.size + 1 < w3.heap.size by omega) (by simp; omega))).trans C3.out
          have hst := own_set hown (n + k) c
          have ST := Lib.hid hst.1
          have SG := Lib.hid (grownBy_trans hg hst.2)
          have FIN := Lib.hid (hm.finish (by rw [← HLB.out]; exact Nat.le_refl _) X.out (hz _ (Nat.le_refl _)) (by omega))
          have hcd := hm.2.1
          have Tryz1 := Lib.hid ((hz.mono (show n + k ≤ n + 1 + k by omega)).set (j := n + k) (d := c) (by omega))
          clear hst hm hz hql hown hg
          go_wp2
          exact ⟨⟨n + 1, _, by omega, rfl, FIN.out.1, FIN.out.2, Tryz1.out, ST.out, SG.out⟩, by simp [intOf]; omega⟩
    · obtain rfl : n = la := by omega
      have hql := own_len hown
      obtain ⟨p', c', hv', hrow, _⟩ := row_of_owns hown hd
      obtain ⟨rfl, rfl⟩ : some (⟨g, 0, none⟩ : Addr) = p' ∧ N = c' := by
        simp only [Value.slice.injEq] at hv'
        exact ⟨hv'.1, hv'.2.2⟩
      have MP : Hid (madeP (na != nb) o = mulP a b) := by
        have := mulP_made ra rb (o := o) (by rw [hv, HLA.out, List.take_of_length_le (Nat.le_refl _)])
        rw [HNN.out]; exact this
      have ROW := Lib.hid hrow
      have HQ := Lib.hid hql
      have hx5 : Ext w wr := ⟨hg.os.trans hx4.os, hg.tape.trans hx4.tape, hg.output.trans hx4.output, Nat.le_trans hx4.size hg.size, fun k hk => (hg.block k (by omega) (by simp; omega)).trans (hx4.block k hk)⟩
      have kp : ∀ j o, j < 3 → wr.cell? ⟨w.heap.size + j, o, none⟩ = w3.cell? ⟨w.heap.size + j, o, none⟩ := fun j o hj => World.cell?_of_block (hg.block _ (show w.heap.size + j < w3.heap.size by omega) (by simp; omega))
      have kf : ∀ j o, j < 3 → wr.frozen? ⟨w.heap.size + j, o, none⟩ = w3.frozen? ⟨w.heap.size + j, o, none⟩ := fun j o hj => World.frozen?_of_block (hg.block _ (show w.heap.size + j < w3.heap.size by omega) (by simp; omega))
      have c0 : wr.cell? ⟨w.heap.size, 0, none⟩ = some (.bool na) := (kp 0 0 (by omega)).trans C0.out
      have c2 : wr.cell? ⟨w.heap.size + 1, 0, none⟩ = some (.bool nb) := (kp 1 0 (by omega)).trans C2.out
      have c4 : wr.cell? ⟨w.heap.size + 2, 0, none⟩ = some (.bool false) := (kp 2 0 (by omega)).trans C4.out
      have c5 : wr.cell? ⟨w.heap.size + 2, 1, none⟩ = some (.slice none 0 0) := (kp 2 1 (by omega)).trans C5.out
      have f4 : ∀ o, wr.frozen? ⟨w.heap.size + 2, o, none⟩ = false := fun o => (kf 2 o (by omega)).trans (F4.out o)
      have hzr : w.heap.size + 3 ≤ wr.heap.size := by have := hg.size; omega
      clear kp kf hrow hql hv' hown hd hv hz hg
      go_wp2_with fail
      refine (num_made (na != nb) o _ _ _ _ ROW.out HQ.out.symm).mono ?_
      rintro e w4 ⟨n', p', l', c', rfl, hnr, hnew, hx6⟩
      rw [MP.out] at hnr ⊢
      have hx7 : Ext w w4 := Ext.step hx5 hx6
      have hz_w4 : w.heap.size + 3 ≤ w4.heap.size := Nat.le_trans omm hx6.size
      obtain ⟨hl_w4_0, hk_w4_0, hf_w4_0⟩ := extK hx6 (w.heap.size)
      obtain ⟨hl_w4_1, hk_w4_1, hf_w4_1⟩ := extK hx6 (w.heap.size + 1)
      obtain ⟨hl_w4_2, hk_w4_2, hf_w4_2⟩ := extK hx6 (w.heap.size + 2)
      go_wp2_with fail
      refine bodyPost_ret (v := .tuple #[.agg #[.bool n', .slice p' l' c'], .bool (mulP a b).2]) (by simp [results, Tryz.results108, go_sem, *]) rfl ?_
      exact ⟨n', p', l', c', rfl, (by repeat (first | assumption | refine NR.set ?_ (by assumption) _ (by first | (simp; done) | (simp; omega) | omega) _ | refine NR.alloc ?_ _)), hnew.mono (by omega), bxx⟩

set_option maxRecDepth 100000 in
set_option maxHeartbeats 1000000 in
theorem num_Mul (a b : Nm) (na nb : Bool) (pa pb : Option Addr) (la ca lb cb : Nat) (w : World) (ha : NR w na pa la ca a) (hb : NR w nb pb lb cb b) :
    Calls Tryz.prog 108 #[.agg #[.bool na, .slice pa la ca], .agg #[.bool nb, .slice pb lb cb]] w (RetNum w (mulP a b)) := by
  by_cases ra : a.right = true
  · by_cases rb : b.right = true
    · exact num_mul_main a b na nb pa pb la ca lb cb w ha hb ra rb
    · have rb : b.right = false := by simpa using rb
      have S := Lib.hid (mulP_right (a := a) rb)
      go_enter Tryz.func108, Tryz.ntmps108
      go_wp2_with fail
      refine (num_Right a _ _ _ _ _ (ha.ext bxx)).mono ?_
      rintro e w1 ⟨rfl, hx⟩
      rw [ra]
      have hx0 : Ext w w1 := Ext.step bxx hx
      have hz_w1 : w.heap.size + 3 ≤ w1.heap.size := Nat.le_trans omm hx.size
      obtain ⟨hl_w1_0, hk_w1_0, hf_w1_0⟩ := extK hx (w.heap.size)
      obtain ⟨hl_w1_1, hk_w1_1, hf_w1_1⟩ := extK hx (w.heap.size + 1)
      obtain ⟨hl_w1_2, hk_w1_2, hf_w1_2⟩ := extK hx (w.heap.size + 2)
      go_wp2_with fail
      refine (num_Right b _ _ _ _ _ (hb.ext bxx)).mono ?_
      rintro e w2 ⟨rfl, hx2⟩
      rw [rb]
      have hx1 : Ext w w2 := Ext.step hx0 hx2
      have hz_w2 : w.heap.size + 3 ≤ w2.heap.size := Nat.le_trans omm hx2.size
      obtain ⟨hl_w2_0, hk_w2_0, hf_w2_0⟩ := extK hx2 (w.heap.size)
      obtain ⟨hl_w2_1, hk_w2_1, hf_w2_1⟩ := extK hx2 (w.heap.size + 1)
      obtain ⟨hl_w2_2, hk_w2_2, hf_w2_2⟩ := extK hx2 (w.heap.size + 2)
      go_wp2_with fail
      refine bodyPost_ret (v := .tuple #[.agg #[.bool false, .slice none 0 0], .bool false]) (by simp [results, Tryz.results108, go_sem, *]) rfl ?_
      rw [S.out]
      exact ⟨false, none, 0, 0, rfl, ⟨rfl, rfl, Row.nil _⟩, New.none _, bxx⟩
  · have ra : a.right = false := by simpa using ra
    have S := Lib.hid (mulP_left (b := b) ra)
    go_enter Tryz.func108, Tryz.ntmps108
    go_wp2_with fail
    refine (num_Right a _ _ _ _ _ (ha.ext bxx)).mono ?_
    rintro e w1 ⟨rfl, hx⟩
    rw [ra]
    have hx0 : Ext w w1 := Ext.step bxx hx
    have hz_w1 : w.heap.size + 3 ≤ w1.heap.size := Nat.le_trans omm hx.size
    obtain ⟨hl_w1_0, hk_w1_0, hf_w1_0⟩ := extK hx (w.heap.size)
    obtain ⟨hl_w1_1, hk_w1_1, hf_w1_1⟩ := extK hx (w.heap.size + 1)
    obtain ⟨hl_w1_2, hk_w1_2, hf_w1_2⟩ := extK hx (w.heap.size + 2)
    go_wp2_with fail
    refine bodyPost_ret (v := .tuple #[.agg #[.bool false, .slice none 0 0], .bool false]) (by simp [results, Tryz.results108, go_sem, *]) rfl ?_
    rw [S.out]
    exact ⟨false, none, 0, 0, rfl, ⟨rfl, rfl, Row.nil _⟩, New.none _, bxx⟩
end Go.Proofs.YtighahcllmoajaaGreat
