/- Contracts: etchantref01.times, etchantref01.Mul. | Contracts: root.sign, root.times (products that are small enough). | Contracts: root.side. | Contracts: root.guarded, root.Sign. -/
import Derived.Test.YtghgggaimijcaaaDoorJ07
set_option linter.unusedVariables false
set_option linter.unusedSimpArgs false

namespace Go.Proofs.YtghgggaimijcaaaDoor
open Go.RowKit


end Go.Proofs.YtghgggaimijcaaaDoor

namespace Go.Proofs.YtghgggaimijcaaaDoor
open Go.RowKit

theorem Row.set' {w : World} {p : Option Addr} {c : Nat} {d : List Nat} (h : Row w p c d) (a : Addr) (hn : ∀ x, p = some x → x.block ≠ a.block) (v : Value) : Row (w.setCell a v) p c d := by
  refine ⟨h.1, h.2.1, h.2.2.1, fun h0 => ?_⟩
  obtain ⟨b, o, hp, hlt, hc⟩ := h.2.2.2 h0
  refine ⟨b, o, hp, by simpa [World.setCell] using hlt, fun i hi => ?_⟩
  have hb := hn _ hp
  rw [← hc i hi]
  exact World.cell?_of_block (Below.heap_setCell _ _ _ _ hb)
theorem NR.set' {w : World} {n : Bool} {p : Option Addr} {l c : Nat} {a : Nm} (h : NR w n p l c a) (x : Addr) (hn : ∀ y, p = some y → y.block ≠ x.block) (v : Value) : NR (w.setCell x v) n p l c a :=
  ⟨h.1, h.2.1, h.2.2.set' x hn v⟩
theorem NR.zero (w : World) : NR w false none 0 0 zero := ⟨rfl, rfl, Row.nil w⟩

theorem zero_z : zero.z = 0 := rfl
theorem zero_right : zero.right = true := rfl
/-- The sign of a number. -/
def sgn (z : Int) : Int := cmpZ z 0
theorem cmpP_zero {a : Nm} (ra : a.right = true) : cmpP a zero = sgn a.z := by
  unfold cmpP
  rw [ra, zero_right, zero_z]
  rfl

set_option maxRecDepth 100000 in
set_option maxHeartbeats 1000000 in
theorem root_sign (a : Nm) (n : Bool) (p : Option Addr) (l c : Nat) (w : World) (h : NR w n p l c a) (ra : a.right = true) :
    Calls Tryd.prog 19 #[.agg #[.bool n, .slice p l c]] w fun e w' => e = .returned (.int .i64 (sgn a.z)) ∧ Ext w w' := by
  have S := Lib.hid (cmpP_zero ra)
  go_enter Tryd.func19, Tryd.ntmps19
  go_wp2_with fail
  refine (num_Cmp a zero _ _ _ _ _ _ _ _ _ (h.ext bxx) (NR.zero _)).mono ?_
  rintro e w1 ⟨rfl, hx⟩
  rw [S.out]
  have hx0 : Ext w w1 := Ext.step bxx hx
  go_wp2
  go_ret
  exact ⟨rfl, hx0⟩

/-- The product of numbers. -/
def prodZ (l : List Nm) : Int := l.foldl (fun z a => z * a.z) 1
theorem prodZ_snoc (l : List Nm) (a : Nm) : prodZ (l ++ [a]) = prodZ l * a.z := by simp [prodZ]
theorem prodZ_take (l : List Nm) (k : Nat) (a : Nm) (h : l[k]? = some a) : prodZ (l.take (k + 1)) = prodZ (l.take k) * a.z := by
  have hk := (List.getElem?_eq_some_iff.1 h).1
  rw [List.take_succ_eq_append_getElem hk, prodZ_snoc]
  rw [List.getElem?_eq_getElem hk] at h
  cases h
  rfl

/-- Numbers that lie one behind the other in a block. -/
def NRs (w : World) (b : Nat) (l : List Nm) : Prop :=
  b < w.heap.size ∧ ∀ i a, l[i]? = some a → a.right = true ∧ ∃ n p li c, w.cell? ⟨b, i * 2, none⟩ = some (.bool n) ∧ w.cell? ⟨b, i * 2 + 1, none⟩ = some (.slice p li c) ∧ NR w n p li c a
theorem NRs.ext {w w' : World} {b : Nat} {l : List Nm} (h : NRs w b l) (hx : Ext w w') : NRs w' b l := by
  refine ⟨Nat.lt_of_lt_of_le h.1 hx.size, fun i a hi => ?_⟩
  obtain ⟨hr, n, p, li, c, h1, h2, h3⟩ := h.2 i a hi
  exact ⟨hr, n, p, li, c, by rw [hx.cell (p := ⟨b, i * 2, none⟩) h.1]; exact h1, by rw [hx.cell (p := ⟨b, i * 2 + 1, none⟩) h.1]; exact h2, h3.ext hx⟩

theorem mulP_small {a b : Nm} {z : Int} (ra : a.right = true) (rb : b.right = true) (hz : a.z * b.z = z) (hs : small z = true) : mulP a b = (ofZ z, true) := by
  unfold mulP fit
  rw [ra, rb, hz, hs]
  rfl

set_option maxRecDepth 100000 in
set_option maxHeartbeats 2000000 in
theorem root_times (l : List Nm) (b : Nat) (n c : Nat) (w : World) (h : NRs w b l) (hn : n = l.length) (hl : l.length ≤ 1000) (hs : ∀ k, small (prodZ (l.take k)) = true) :
    Calls Tryd.prog 29 #[.slice (some ⟨b, 0, none⟩) n c] w (RetN w (ofZ (prodZ l))) := by
  subst hn
  have HS := Lib.hid hs
  clear hs
  have HN := Lib.hid h
  have hb := h.1
  clear h
  go_enter Tryd.func29, Tryd.ntmps29
  go_wp2_with fail
  refine (num_Of 1 _ (by omega) (by omega)).mono ?_
  rintro e w1 ⟨n1, p1, l1, c1, rfl, hnr, hnew, hx⟩
  have hx0 : Ext w w1 := Ext.step bxx hx
  have hz_w1 : w.heap.size + 1 ≤ w1.heap.size := Nat.le_trans omm hx.size
  obtain ⟨hl_w1_0, hk_w1_0, hf_w1_0⟩ := extK hx (w.heap.size)
  go_wp2_with fail
  have r0 : w1.cell? ⟨w.heap.size, 0, none⟩ = some (.bool false) := by go_simp
  have r1 : w1.cell? ⟨w.heap.size, 1, none⟩ = some (.slice none 0 0) := by go_simp
  have rf : ∀ o, w1.frozen? ⟨w.heap.size, o, none⟩ = false := by intro o; go_simp
  obtain ⟨g, G⟩ : ∃ g, Hid (w1.heap.size = g) := ⟨_, rfl⟩
  have hg0 : w.heap.size < g := by rw [← G.out]; exact hl_w1_0
  obtain ⟨w2, W2⟩ : ∃ w2, Hid (w1.alloc (.cells #[.bool n1, .slice p1 l1 c1] 25) = w2) := ⟨_, rfl⟩
  rw [W2.out, G.out]
  have hx1 : Ext w w2 := by rw [← W2.out]; exact bxx
  have hg1 : g < w2.heap.size := by rw [← W2.out, ← G.out]; simp
  have g0 : w2.cell? ⟨g, 0, none⟩ = some (.bool n1) := by rw [← W2.out, ← G.out]; go_simp
  have g1 : w2.cell? ⟨g, 1, none⟩ = some (.slice p1 l1 c1) := by rw [← W2.out, ← G.out]; go_simp
  have gf : ∀ o, w2.frozen? ⟨g, o, none⟩ = false := by intro o; rw [← W2.out, ← G.out]; go_simp
  have s0 : w2.cell? ⟨w.heap.size, 0, none⟩ = some (.bool false) := by rw [← W2.out]; go_simp
  have s1 : w2.cell? ⟨w.heap.size, 1, none⟩ = some (.slice none 0 0) := by rw [← W2.out]; go_simp
  have sf : ∀ o, w2.frozen? ⟨w.heap.size, o, none⟩ = false := by intro o; rw [← W2.out]; go_simp
  have hnr2 : NR w2 n1 p1 l1 c1 (ofZ (prodZ (l.take 0))) := by rw [← W2.out]; exact hnr.alloc _
  have hnew2 : ∀ x, p1 = some x → w.heap.size < x.block := fun x hx => by have := hnew x hx; simp at this; omega
  clear hnr hnew hx0 hk_w1_0 hf_w1_0 hl_w1_0 hz_w1 hx r0 r1 rf
  go_loopw [11] (fun i wr => ∃ (k : Nat) (n' : Bool) (p' : Option Addr) (l' c' : Nat), k ≤ l.length ∧ i = .int .i64 (k : Int) ∧ wr.cell? ⟨g, 0, none⟩ = some (.bool n') ∧ wr.cell? ⟨g, 1, none⟩ = some (.slice p' l' c') ∧ (∀ o, wr.frozen? ⟨g, o, none⟩ = false) ∧
      NR wr n' p' l' c' (ofZ (prodZ (l.take k))) ∧ (∀ x, p' = some x → w.heap.size < x.block) ∧ wr.cell? ⟨w.heap.size, 0, none⟩ = some (.bool false) ∧ wr.cell? ⟨w.heap.size, 1, none⟩ = some (.slice none 0 0) ∧ (∀ o, wr.frozen? ⟨w.heap.size, o, none⟩ = false) ∧ g < wr.heap.size ∧ Ext w wr) (fun i _ => l.length - (intOf i).toNat)
  case atStart => exact ⟨0, n1, p1, l1, c1, Nat.zero_le _, rfl, g0, g1, gf, hnr2, hnew2, s0, s1, sf, hg1, hx1⟩
  case round =>
    clear g0 g1 gf hnr2 hnew2 s0 s1 sf hg1 hx1
    obtain ⟨k, n', p', l', c', hk, rfl, g0, g1, gf, hnr, hnew, s0, s1, sf, hg1, hx⟩ := hrel
    by_cases hlt : k < l.length
    · have hb2 : b < wr.heap.size := Nat.lt_of_lt_of_le hb hx.size
      obtain ⟨ra, n2, p2, l2, c2, e0, e1, hna⟩ := (HN.out.ext hx).2 k l[k] (List.getElem?_eq_getElem hlt)
      have PR := Lib.hid (prodZ_take l k l[k] (List.getElem?_eq_getElem hlt))
      have HNW := Lib.hid hnew
      clear hnew
      go_wp2_with fail
      have MP := Lib.hid (mulP_small (ofZ_right (HS.out k)) ra (by rw [ofZ_z]; exact PR.out.symm) (HS.out (k + 1)))
      refine (num_Mul (ofZ (prodZ (l.take k))) l[k] _ _ _ _ _ _ _ _ _ (hnr.alloc _) (hna.alloc _)).mono ?_
      rintro e w3 ⟨n3, p3, l3, c3, rfl, hnr3, hnew3, hx3⟩
      rw [MP.out] at hnr3 ⊢
      have hx4 : Ext wr w3 := Ext.step bxx hx3
      have hx5 : Ext w w3 := Ext.step hx hx4
      have g0' : w3.cell? ⟨g, 0, none⟩ = some (.bool n') := (hx4.cell (p := ⟨g, 0, none⟩) hg1).trans g0
      have g1' : w3.cell? ⟨g, 1, none⟩ = some (.slice p' l' c') := (hx4.cell (p := ⟨g, 1, none⟩) hg1).trans g1
      have gf' : ∀ o, w3.frozen? ⟨g, o, none⟩ = false := fun o => (hx4.frozen (p := ⟨g, o, none⟩) hg1).trans (gf o)
      have hw0 : w.heap.size < wr.heap.size := by omega
      have s0' : w3.cell? ⟨w.heap.size, 0, none⟩ = some (.bool false) := (hx4.cell (p := ⟨w.heap.size, 0, none⟩) hw0).trans s0
      have s1' : w3.cell? ⟨w.heap.size, 1, none⟩ = some (.slice none 0 0) := (hx4.cell (p := ⟨w.heap.size, 1, none⟩) hw0).trans s1
      have sf' : ∀ o, w3.frozen? ⟨w.heap.size, o, none⟩ = false := fun o => (hx4.frozen (p := ⟨w.heap.size, o, none⟩) hw0).trans (sf o)
      have hg2 : g < w3.heap.size := Nat.lt_of_lt_of_le hg1 hx4.size
      have hw2 : w.heap.size < w3.heap.size := by omega
      have hnew4 : ∀ x, p3 = some x → wr.heap.size < x.block := fun x hx => by have := hnew3 x hx; simp at this; omega
      have NEW := Lib.hid hnew4
      clear hnew3 hnew4 g0 g1 gf s0 s1 sf hnr hna hx3 e0 e1
      go_wp2_with fail
      refine ⟨⟨k + 1, n3, p3, l3, c3, by omega, rfl, by go_simp, by go_simp, fun o => by go_simp, ?_, fun x hx => by have := NEW.out x hx; omega, by go_simp, by go_simp, fun o => by go_simp, by simp; omega, bxx⟩, by simp [intOf]; omega⟩
      refine (NR.set' (NR.set' hnr3 _ ?_ _) _ ?_ _).alloc _
      · intro y hy; have := NEW.out y hy; simp; omega
      · intro y hy; have := NEW.out y hy; simp; omega
    · obtain rfl : k = l.length := by omega
      rw [List.take_of_length_le (Nat.le_refl _)] at hnr
      have HNW := Lib.hid hnew
      have hw0 : w.heap.size < wr.heap.size := by omega
      clear hnew
      go_wp2_with fail
      refine bodyPost_ret (v := .agg #[.bool n', .slice p' l' c']) (by simp [results, Tryd.results29, go_sem, *]) rfl ?_
      refine ⟨n', p', l', c', rfl, ?_, fun x hx => Nat.le_of_lt (HNW.out x hx), bxx⟩
      refine NR.set' (NR.set' hnr _ ?_ _) _ ?_ _
      · intro y hy; have := HNW.out y hy; simp; omega
      · intro y hy; have := HNW.out y hy; simp; omega
end Go.Proofs.YtghgggaimijcaaaDoor

namespace Go.Proofs.YtghgggaimijcaaaDoor
open Go.RowKit

/-- The sign of a + b √c, as root.side finds it. -/
def sideZ (a b c : Int) : Int := if 0 ≤ sgn a * (sgn b * sgn c) then max (min (sgn a + sgn b * sgn c) 1) (-1) else sgn a * cmpZ (a * a) (b * b * c)

theorem cmpZ_cases (a b : Int) : cmpZ a b = -1 ∨ cmpZ a b = 0 ∨ cmpZ a b = 1 := by
  unfold cmpZ
  split
  · exact .inl rfl
  · split
    · exact .inr (.inl rfl)
    · exact .inr (.inr rfl)
theorem sgn_bd (a : Int) : -1 ≤ sgn a ∧ sgn a ≤ 1 := by
  rcases cmpZ_cases a 0 with h | h | h <;> rw [sgn, h] <;> omega
theorem cmpZ_bd (a b : Int) : -1 ≤ cmpZ a b ∧ cmpZ a b ≤ 1 := by
  rcases cmpZ_cases a b with h | h | h <;> rw [h] <;> omega
theorem unit_mul {a b : Int} (ha : -1 ≤ a ∧ a ≤ 1) (hb : -1 ≤ b ∧ b ≤ 1) : -1 ≤ a * b ∧ a * b ≤ 1 := by
  obtain rfl | rfl | rfl : a = -1 ∨ a = 0 ∨ a = 1 := by omega
  all_goals omega
theorem cmpP_side {x y : Int} (hx : small x = true) (hy : small y = true) : cmpP (ofZ x) (ofZ y) = cmpZ x y := by
  unfold cmpP
  rw [ofZ_right hx, ofZ_right hy, ofZ_z, ofZ_z]
  rfl
theorem NRs.drew {w : World} {b : Nat} {l : List Nm} (h : NRs w b l) : NRs w.drew b l := h.ext (Below.refl _ _).drew
theorem NRs.more {w : World} {b : Nat} {l : List Nm} (h : NRs w b l) (o : Obj) : NRs (w.alloc o) b l := h.ext ((Below.refl _ _).alloc (Nat.le_refl _) _)
theorem NRs_two {W : World} {n1 n2 : Bool} {p1 p2 : Option Addr} {l1 c1 l2 c2 B : Nat} {a b : Nm} (T : TypeId) (h1 : NR W n1 p1 l1 c1 a) (h2 : NR W n2 p2 l2 c2 b) (ra : a.right = true) (rb : b.right = true) (hB : B = W.heap.size) :
    NRs (W.alloc (.cells #[.bool n1, .slice p1 l1 c1, .bool n2, .slice p2 l2 c2] T)) B [a, b] := by
  subst hB
  have hh := heap_alloc_new W (.cells #[.bool n1, .slice p1 l1 c1, .bool n2, .slice p2 l2 c2] T)
  refine ⟨by simp, fun i x hi => ?_⟩
  match i, hi with
  | 0, hi =>
    simp only [List.getElem?_cons_zero, Option.some.injEq] at hi
    subst hi
    exact ⟨ra, n1, p1, l1, c1, by rw [cell_of_row _ _ _ _ _ _ hh]; rfl, by rw [cell_of_row _ _ _ _ _ _ hh]; rfl, h1.alloc _⟩
  | 1, hi =>
    simp only [List.getElem?_cons_succ, List.getElem?_cons_zero, Option.some.injEq] at hi
    subst hi
    exact ⟨rb, n2, p2, l2, c2, by rw [cell_of_row _ _ _ _ _ _ hh]; rfl, by rw [cell_of_row _ _ _ _ _ _ hh]; rfl, h2.alloc _⟩
  | i + 2, hi => simp at hi
theorem NRs_three {W : World} {n1 n2 n3 : Bool} {p1 p2 p3 : Option Addr} {l1 c1 l2 c2 l3 c3 B : Nat} {a b c : Nm} (T : TypeId) (h1 : NR W n1 p1 l1 c1 a) (h2 : NR W n2 p2 l2 c2 b) (h3 : NR W n3 p3 l3 c3 c) (ra : a.right = true) (rb : b.right = true) (rc : c.right = true) (hB : B = W.heap.size) :
    NRs (W.alloc (.cells #[.bool n1, .slice p1 l1 c1, .bool n2, .slice p2 l2 c2, .bool n3, .slice p3 l3 c3] T)) B [a, b, c] := by
  subst hB
  have hh := heap_alloc_new W (.cells #[.bool n1, .slice p1 l1 c1, .bool n2, .slice p2 l2 c2, .bool n3, .slice p3 l3 c3] T)
  refine ⟨by simp, fun i x hi => ?_⟩
  match i, hi with
  | 0, hi =>
    simp only [List.getElem?_cons_zero, Option.some.injEq] at hi
    subst hi
    exact ⟨ra, n1, p1, l1, c1, by rw [cell_of_row _ _ _ _ _ _ hh]; rfl, by rw [cell_of_row _ _ _ _ _ _ hh]; rfl, h1.alloc _⟩
  | 1, hi =>
    simp only [List.getElem?_cons_succ, List.getElem?_cons_zero, Option.some.injEq] at hi
    subst hi
    exact ⟨rb, n2, p2, l2, c2, by rw [cell_of_row _ _ _ _ _ _ hh]; rfl, by rw [cell_of_row _ _ _ _ _ _ hh]; rfl, h2.alloc _⟩
  | 2, hi =>
    simp only [List.getElem?_cons_succ, List.getElem?_cons_zero, Option.some.injEq] at hi
    subst hi
    exact ⟨rc, n3, p3, l3, c3, by rw [cell_of_row _ _ _ _ _ _ hh]; rfl, by rw [cell_of_row _ _ _ _ _ _ hh]; rfl, h3.alloc _⟩
  | i + 3, hi => simp at hi

theorem root_times2 (a b : Nm) (B c : Nat) (w : World) (h : NRs w B [a, b]) (hs : ∀ k, small (prodZ ([a, b].take k)) = true) :
    Calls Tryd.prog 29 #[.slice (some ⟨B, 0, none⟩) 2 c] w (RetN w (ofZ (prodZ [a, b]))) := root_times [a, b] B 2 c w h rfl (by simp) hs
theorem root_times3 (a b d : Nm) (B c : Nat) (w : World) (h : NRs w B [a, b, d]) (hs : ∀ k, small (prodZ ([a, b, d].take k)) = true) :
    Calls Tryd.prog 29 #[.slice (some ⟨B, 0, none⟩) 3 c] w (RetN w (ofZ (prodZ [a, b, d]))) := root_times [a, b, d] B 3 c w h rfl (by simp) hs

set_option maxRecDepth 100000 in
set_option maxHeartbeats 4000000 in
theorem root_side (a b c : Nm) (na nb nc : Bool) (pa pb pc : Option Addr) (la ca lb cb lc cc : Nat) (w : World) (ha : NR w na pa la ca a) (hb : NR w nb pb lb cb b) (hc : NR w nc pc lc cc c) (ra : a.right = true) (rb : b.right = true) (rc : c.right = true)
    (s1 : ∀ k, small (prodZ ([a, a].take k)) = true) (s2 : ∀ k, small (prodZ ([b, b, c].take k)) = true) :
    Calls Tryd.prog 30 #[.agg #[.bool na, .slice pa la ca], .agg #[.bool nb, .slice pb lb cb], .agg #[.bool nc, .slice pc lc cc]] w fun e w' => e = .returned (.int .i64 (sideZ a.z b.z c.z)) ∧ Ext w w' := by
  have S1 := Lib.hid s1
  have S2 := Lib.hid s2
  clear s1 s2
  have ba := sgn_bd a.z
  have bb := sgn_bd b.z
  have bc := sgn_bd c.z
  obtain ⟨x, X⟩ : ∃ x, Hid (sgn a.z = x) := ⟨_, rfl⟩
  obtain ⟨sb, SB⟩ : ∃ x, Hid (sgn b.z = x) := ⟨_, rfl⟩
  obtain ⟨sc, SC⟩ : ∃ x, Hid (sgn c.z = x) := ⟨_, rfl⟩
  rw [X.out] at ba
  rw [SB.out] at bb
  rw [SC.out] at bc
  obtain ⟨y, Y⟩ : ∃ y, Hid (sb * sc = y) := ⟨_, rfl⟩
  have by' := unit_mul bb bc
  rw [Y.out] at by'
  obtain ⟨q, Q⟩ : ∃ q, Hid (x * y = q) := ⟨_, rfl⟩
  have bq := unit_mul ba by'
  rw [Q.out] at bq
  have hy := Y.out
  have hq := Q.out
  obtain ⟨r, R⟩ : ∃ r, Hid (cmpZ (a.z * a.z) (b.z * b.z * c.z) = r) := ⟨_, rfl⟩
  have br := cmpZ_bd (a.z * a.z) (b.z * b.z * c.z)
  rw [R.out] at br
  obtain ⟨z, Z⟩ : ∃ z, Hid (x * r = z) := ⟨_, rfl⟩
  have bz := unit_mul ba br
  rw [Z.out] at bz
  have hz := Z.out
  have RES : Hid (sideZ a.z b.z c.z = if 0 ≤ q then max (min (x + y) 1) (-1) else z) := by
    show sideZ a.z b.z c.z = _
    unfold sideZ
    rw [X.out, SB.out, SC.out, Y.out, Q.out, R.out, Z.out]
  go_enter Tryd.func30, Tryd.ntmps30
  go_wp2_with fail
  go_region_held3 (fun w' => w'.cell? ⟨w.heap.size, 0, none⟩ = some (.bool na) ∧ w'.cell? ⟨w.heap.size, 1, none⟩ = some (.slice pa la ca) ∧ w'.cell? ⟨w.heap.size + 1, 0, none⟩ = some (.bool nb) ∧ w'.cell? ⟨w.heap.size + 1, 1, none⟩ = some (.slice pb lb cb) ∧ w'.cell? ⟨w.heap.size + 2, 0, none⟩ = some (.bool nc) ∧ w'.cell? ⟨w.heap.size + 2, 1, none⟩ = some (.slice pc lc cc)) (refine ⟨?_, ?_, ?_, ?_, ?_, ?_⟩ <;> go_simp) (first | (go_at_call 19; (with_reducible refine (root_sign a na pa la ca _ (ha.ext bxx) ra).mono ?_); rintro e w1 ⟨rfl, hx⟩; rw [X.out]; (have hx0 : Ext w w1 := Ext.step bxx hx); have hz_w1 : w.heap.size + 3 ≤ w1.heap.size := Nat.le_trans omm hx.size; obtain ⟨hl_w1_0, hk_w1_0, hf_w1_0⟩ := extK hx (w.heap.size); obtain ⟨hl_w1_1, hk_w1_1, hf_w1_1⟩ := extK hx (w.heap.size + 1); obtain ⟨hl_w1_2, hk_w1_2, hf_w1_2⟩ := extK hx (w.heap.size + 2)) | (go_at_call 19; (with_reducible refine (root_sign b nb pb lb cb _ (hb.ext bxx) rb).mono ?_); rintro e w2 ⟨rfl, hx⟩; rw [SB.out]; (have hx1 : Ext w w2 := Ext.step bxx hx); have hz_w2 : w.heap.size + 3 ≤ w2.heap.size := Nat.le_trans omm hx.size; obtain ⟨hl_w2_0, hk_w2_0, hf_w2_0⟩ := extK hx (w.heap.size); obtain ⟨hl_w2_1, hk_w2_1, hf_w2_1⟩ := extK hx (w.heap.size + 1); obtain ⟨hl_w2_2, hk_w2_2, hf_w2_2⟩ := extK hx (w.heap.size + 2)) | (go_at_call 19; (with_reducible refine (root_sign c nc pc lc cc _ (hc.ext bxx) rc).mono ?_); rintro e w3 ⟨rfl, hx⟩; rw [SC.out]; (have hx2 : Ext w w3 := Ext.step bxx hx); have hz_w3 : w.heap.size + 3 ≤ w3.heap.size := Nat.le_trans omm hx.size; obtain ⟨hl_w3_0, hk_w3_0, hf_w3_0⟩ := extK hx (w.heap.size); obtain ⟨hl_w3_1, hk_w3_1, hf_w3_1⟩ := extK hx (w.heap.size + 1); obtain ⟨hl_w3_2, hk_w3_2, hf_w3_2⟩ := extK hx (w.heap.size + 2)))
  by_cases h0 : 0 ≤ q
  · go_wp2
    all_goals
      go_ret
      refine ⟨?_, bxx⟩
      rw [RES.out, if_pos h0]
      refine congrArg (fun n => Ending.returned (.int .i64 n)) ?_
      show _ = _
      omega
  · have CM : Hid (cmpP (ofZ (prodZ [a, a])) (ofZ (prodZ [b, b, c])) = r) := by
      have e1 : prodZ [a, a] = a.z * a.z := by simp [prodZ]
      have e2 : prodZ [b, b, c] = b.z * b.z * c.z := by simp [prodZ]
      have f1 : small (prodZ [a, a]) = true := S1.out 2
      have f2 : small (prodZ [b, b, c]) = true := S2.out 3
      show cmpP (ofZ (prodZ [a, a])) (ofZ (prodZ [b, b, c])) = r
      rw [cmpP_side f1 f2, e1, e2, R.out]
    go_wp2_with fail
    go_region_held3 (fun w' => w'.cell? ⟨w.heap.size, 0, none⟩ = some (.bool na) ∧ w'.cell? ⟨w.heap.size, 1, none⟩ = some (.slice pa la ca) ∧ w'.cell? ⟨w.heap.size + 1, 0, none⟩ = some (.bool nb) ∧ w'.cell? ⟨w.heap.size + 1, 1, none⟩ = some (.slice pb lb cb) ∧ w'.cell? ⟨w.heap.size + 2, 0, none⟩ = some (.bool nc) ∧ w'.cell? ⟨w.heap.size + 2, 1, none⟩ = some (.slice pc lc cc)) (refine ⟨?_, ?_, ?_, ?_, ?_, ?_⟩ <;> go_simp) (first | (go_at_call 29; (with_reducible refine (root_times2 a a _ 2 _ (by repeat (first | exact NRs_two _ (ha.ext bxx) (ha.ext bxx) ra ra (by first | rfl | simp) | refine NRs.drew ?_ | refine NRs.more ?_ _)) S1.out).mono ?_); rintro e w4 ⟨n4, p4, l4, c4, rfl, hnr4, hnew4, hx4⟩; (have hx5 : Ext w w4 := Ext.step bxx hx4); have hz_w4 : w.heap.size + 3 ≤ w4.heap.size := Nat.le_trans omm hx4.size; obtain ⟨hl_w4_0, hk_w4_0, hf_w4_0⟩ := extK hx4 (w.heap.size); obtain ⟨hl_w4_1, hk_w4_1, hf_w4_1⟩ := extK hx4 (w.heap.size + 1); obtain ⟨hl_w4_2, hk_w4_2, hf_w4_2⟩ := extK hx4 (w.heap.size + 2)) | (go_at_call 29; (with_reducible refine (root_times3 b b c _ 3 _ (by repeat (first | exact NRs_three _ (hb.ext bxx) (hb.ext bxx) (hc.ext bxx) rb rb rc (by first | rfl | simp) | refine NRs.drew ?_ | refine NRs.more ?_ _ | refine NRs.ext ?_ hx4)) S2.out).mono ?_); rintro e w5 ⟨n5, p5, l5, c5, rfl, hnr5, hnew5, hx6⟩; (have hx7 : Ext w4 w5 := Ext.step bxx hx6); (have hx8 : Ext w w5 := Ext.step hx5 hx7); have hz_w5 : w.heap.size + 3 ≤ w5.heap.size := Nat.le_trans omm hx6.size; obtain ⟨hl_w5_0, hk_w5_0, hf_w5_0⟩ := extK hx6 (w.heap.size); obtain ⟨hl_w5_1, hk_w5_1, hf_w5_1⟩ := extK hx6 (w.heap.size + 1); obtain ⟨hl_w5_2, hk_w5_2, hf_w5_2⟩ := extK hx6 (w.heap.size + 2)) | (go_at_call 35; refine (num_Cmp _ _ _ _ _ _ _ _ _ _ _ (hnr4.ext bxx) (hnr5.ext bxx)).mono ?_; rintro e w6 ⟨rfl, hx9⟩; rw [CM.out]; (have hx10 : Ext w w6 := Ext.step bxx hx9); have hz_w6 : w.heap.size + 3 ≤ w6.heap.size := Nat.le_trans omm hx9.size; obtain ⟨hl_w6_0, hk_w6_0, hf_w6_0⟩ := extK hx9 (w.heap.size); obtain ⟨hl_w6_1, hk_w6_1, hf_w6_1⟩ := extK hx9 (w.heap.size + 1); obtain ⟨hl_w6_2, hk_w6_2, hf_w6_2⟩ := extK hx9 (w.heap.size + 2)))
    go_wp2
    all_goals
      go_ret
      refine ⟨?_, bxx⟩
      rw [RES.out, if_neg (by omega)]
      refine congrArg (fun n => Ending.returned (.int .i64 n)) ?_
      show _ = _
      first | rfl | exact IntWalk.i64_in _ (by omega)
end Go.Proofs.YtghgggaimijcaaaDoor

namespace Go.Proofs.YtghgggaimijcaaaDoor
open Go.RowKit

theorem catch_idle (p : Addr) (w : World) :
    CallsD Tryd.prog 44 #[.pointer (some p)] .returning w fun e u' w' => e = .returned (.tuple #[]) ∧ u' = .returning ∧ w' = w := by
  refine callsD_of_wpS Tryd.func44 rfl fun c₀ cs hu => ?_
  apply wpS_seq
  apply wpS_region
  simp [wpOpsS, go_sem, recoverD, hu, Tryd.ntmps44, Exit.thenS]
  apply wpS_seq
  apply wpS_region
  have hne : ∀ w, (binOp .neq 20 .nilIface .nilIface).run Tryd.prog w = .ok (.bool false) w := fun _ => by kernel_rfl
  simp [wpOpsS, go_sem, Exit.thenS, hne]
  refine wpS_cond (t := false) (by simp [Act.eval, Array.replicate]) ?_
  simp only [Bool.false_eq_true, if_false]
  refine wpS_of_wp (wp_skip ?_)
  cases c₀
  simp_all [bodyPostS, results, Tryd.results44]

set_option maxRecDepth 100000 in
set_option maxHeartbeats 1000000 in
theorem root_Sign1 (a b c : Nm) (na nb nc : Bool) (pa pb pc : Option Addr) (la ca lb cb lc cc A B C : Nat) (w : World) (ha : NR w na pa la ca a) (hb : NR w nb pb lb cb b) (hc : NR w nc pc lc cc c) (ra : a.right = true) (rb : b.right = true) (rc : c.right = true)
    (s1 : ∀ k, small (prodZ ([a, a].take k)) = true) (s2 : ∀ k, small (prodZ ([b, b, c].take k)) = true)
    (a0 : w.cell? ⟨A, 0, none⟩ = some (.bool na)) (a1 : w.cell? ⟨A, 1, none⟩ = some (.slice pa la ca)) (b0 : w.cell? ⟨B, 0, none⟩ = some (.bool nb)) (b1 : w.cell? ⟨B, 1, none⟩ = some (.slice pb lb cb)) (c0 : w.cell? ⟨C, 0, none⟩ = some (.bool nc)) (c1 : w.cell? ⟨C, 1, none⟩ = some (.slice pc lc cc)) :
    Calls Tryd.prog 36 #[.pointer (some ⟨A, 0, none⟩), .pointer (some ⟨B, 0, none⟩), .pointer (some ⟨C, 0, none⟩)] w fun e w' => e = .returned (.int .i64 (sideZ a.z b.z c.z)) ∧ Ext w w' := by
  have S1 := Lib.hid s1
  have S2 := Lib.hid s2
  clear s1 s2
  go_enter Tryd.func36, Tryd.ntmps36
  go_wp2_with fail
  refine (root_side a b c _ _ _ _ _ _ _ _ _ _ _ _ _ ha hb hc ra rb rc S1.out S2.out).mono ?_
  rintro e w1 ⟨rfl, hx⟩
  go_wp2
  go_ret
  exact ⟨rfl, hx⟩

set_option maxRecDepth 100000 in
set_option maxHeartbeats 1000000 in
theorem root_guarded_sign (a b c : Nm) (na nb nc : Bool) (pa pb pc : Option Addr) (la ca lb cb lc cc A B C : Nat) (w : World) (ha : NR w na pa la ca a) (hb : NR w nb pb lb cb b) (hc : NR w nc pc lc cc c) (ra : a.right = true) (rb : b.right = true) (rc : c.right = true)
    (s1 : ∀ k, small (prodZ ([a, a].take k)) = true) (s2 : ∀ k, small (prodZ ([b, b, c].take k)) = true)
    (a0 : w.cell? ⟨A, 0, none⟩ = some (.bool na)) (a1 : w.cell? ⟨A, 1, none⟩ = some (.slice pa la ca)) (b0 : w.cell? ⟨B, 0, none⟩ = some (.bool nb)) (b1 : w.cell? ⟨B, 1, none⟩ = some (.slice pb lb cb)) (c0 : w.cell? ⟨C, 0, none⟩ = some (.bool nc)) (c1 : w.cell? ⟨C, 1, none⟩ = some (.slice pc lc cc)) :
    Calls Tryd.prog 25 #[.func (.func 36) #[] #[.pointer (some ⟨A, 0, none⟩), .pointer (some ⟨B, 0, none⟩), .pointer (some ⟨C, 0, none⟩)]] w fun e w' => e = .returned (.int .i64 (sideZ a.z b.z c.z)) ∧ Ext w w' := by
  have S1 := Lib.hid s1
  have S2 := Lib.hid s2
  clear s1 s2
  have hmf : ∀ (fn : Fn) (first cap : Array Value) (w : World), (Instr.makeFunc fn first cap).run Tryd.prog w = .ok (.func fn first cap) w := fun _ _ _ _ => rfl
  have hA := World.block_lt_of_cell? w _ a0
  have hB := World.block_lt_of_cell? w _ b0
  have hC := World.block_lt_of_cell? w _ c0
  have hx0 : Ext w (w.alloc (.cells #[.int .i64 0] 3)) := bxx
  go_enter_defers Tryd.func25, Tryd.ntmps25
  go_wp2_with fail
  refine (root_Sign1 a b c _ _ _ _ _ _ _ _ _ _ _ _ A B C _ (ha.ext hx0) (hb.ext hx0) (hc.ext hx0) ra rb rc S1.out S2.out ((hx0.cell (p := ⟨A, 0, none⟩) hA).trans a0) ((hx0.cell (p := ⟨A, 1, none⟩) hA).trans a1) ((hx0.cell (p := ⟨B, 0, none⟩) hB).trans b0) ((hx0.cell (p := ⟨B, 1, none⟩) hB).trans b1) ((hx0.cell (p := ⟨C, 0, none⟩) hC).trans c0) ((hx0.cell (p := ⟨C, 1, none⟩) hC).trans c1)).mono ?_
  rintro e w1 ⟨rfl, hx⟩
  have hx1 : Ext w w1 := Ext.step hx0 hx
  have hz_w1 : w.heap.size + 1 ≤ w1.heap.size := Nat.le_trans omm hx.size
  obtain ⟨hl_w1_0, hk_w1_0, hf_w1_0⟩ := extK hx (w.heap.size)
  go_wp2_with fail
  refine leaves_cons (f := 44) (args := #[.pointer (some ⟨w.heap.size, 0, none⟩)]) (by simp) (by simp [go_sem]) ?_
  refine (catch_idle ⟨w.heap.size, 0, none⟩ _).mono ?_
  rintro e u' w'' ⟨rfl, rfl, rfl⟩
  simp [Leaves, settle, results, Tryd.results25, go_sem, hk_w1_0]
  exact bxx
end Go.Proofs.YtghgggaimijcaaaDoor
