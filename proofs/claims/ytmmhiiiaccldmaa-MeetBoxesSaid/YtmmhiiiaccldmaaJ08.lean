/- Contracts: root.side. | Contracts: root.guarded, root.Sign. -/
import Derived.Test.YtmmhiiiaccldmaaJ07
set_option linter.unusedVariables false
set_option linter.unusedSimpArgs false

namespace Go.Proofs.Ytmmhiiiaccldmaa
open Go.RowKit

/-- The sign of a + b √c, as root.side finds it. -/
def sideZ (a b c : Int) : Int := if 0 ≤ sgn a * (sgn b * sgn c) then max (min (sgn a + sgn b * sgn c) 1) (-1) else sgn a * cmpZ (a * a) (b * b * c)

theorem cmpZ_cases (a b : Int) : cmpZ a b = -1 ∨ cmpZ a b = 0 ∨ cmpZ a b = 1 := by
  unfold cmpZ
  split
  · exact .inl rfl
  · split
    · exact .inr (.inl rfl)
    · exact .inr (.inr rfl)
theorem sgn_bd (a : Int) : -1 ≤ sgn a ∧ sgn a ≤ 1 := by
  rcases cmpZ_cases a 0 with h | h | h <;> rw [sgn, h] <;> omega
theorem cmpZ_bd (a b : Int) : -1 ≤ cmpZ a b ∧ cmpZ a b ≤ 1 := by
  rcases cmpZ_cases a b with h | h | h <;> rw [h] <;> omega
theorem unit_mul {a b : Int} (ha : -1 ≤ a ∧ a ≤ 1) (hb : -1 ≤ b ∧ b ≤ 1) : -1 ≤ a * b ∧ a * b ≤ 1 := by
  obtain rfl | rfl | rfl : a = -1 ∨ a = 0 ∨ a = 1 := by omega
  all_goals omega
theorem cmpP_ofZ {x y : Int} (hx : small x = true) (hy : small y = true) : cmpP (ofZ x) (ofZ y) = cmpZ x y := by
  unfold cmpP
  rw [ofZ_right hx, ofZ_right hy, ofZ_z, ofZ_z]
  rfl
theorem NRs.drew {w : World} {b : Nat} {l : List Nm} (h : NRs w b l) : NRs w.drew b l := h.ext (Below.refl _ _).drew
theorem NRs.more {w : World} {b : Nat} {l : List Nm} (h : NRs w b l) (o : Obj) : NRs (w.alloc o) b l := h.ext ((Below.refl _ _).alloc (Nat.le_refl _) _)
theorem NRs_two {W : World} {n1 n2 : Bool} {p1 p2 : Option Addr} {l1 c1 l2 c2 B : Nat} {a b : Nm} (T : TypeId) (h1 : NR W n1 p1 l1 c1 a) (h2 : NR W n2 p2 l2 c2 b) (ra : a.right = true) (rb : b.right = true) (hB : B = W.heap.size) :
    NRs (W.alloc (.cells #[.bool n1, .slice p1 l1 c1, .bool n2, .slice p2 l2 c2] T)) B [a, b] := by
  subst hB
  have hh := heap_alloc_new W (.cells #[.bool n1, .slice p1 l1 c1, .bool n2, .slice p2 l2 c2] T)
  refine ⟨by simp, fun i x hi => ?_⟩
  match i, hi with
  | 0, hi =>
    simp only [List.getElem?_cons_zero, Option.some.injEq] at hi
    subst hi
    exact ⟨ra, n1, p1, l1, c1, by rw [cell_of_row _ _ _ _ _ _ hh]; rfl, by rw [cell_of_row _ _ _ _ _ _ hh]; rfl, h1.alloc _⟩
  | 1, hi =>
    simp only [List.getElem?_cons_succ, List.getElem?_cons_zero, Option.some.injEq] at hi
    subst hi
    exact ⟨rb, n2, p2, l2, c2, by rw [cell_of_row _ _ _ _ _ _ hh]; rfl, by rw [cell_of_row _ _ _ _ _ _ hh]; rfl, h2.alloc _⟩
  | i + 2, hi => simp at hi
theorem NRs_three {W : World} {n1 n2 n3 : Bool} {p1 p2 p3 : Option Addr} {l1 c1 l2 c2 l3 c3 B : Nat} {a b c : Nm} (T : TypeId) (h1 : NR W n1 p1 l1 c1 a) (h2 : NR W n2 p2 l2 c2 b) (h3 : NR W n3 p3 l3 c3 c) (ra : a.right = true) (rb : b.right = true) (rc : c.right = true) (hB : B = W.heap.size) :
    NRs (W.alloc (.cells #[.bool n1, .slice p1 l1 c1, .bool n2, .slice p2 l2 c2, .bool n3, .slice p3 l3 c3] T)) B [a, b, c] := by
  subst hB
  have hh := heap_alloc_new W (.cells #[.bool n1, .slice p1 l1 c1, .bool n2, .slice p2 l2 c2, .bool n3, .slice p3 l3 c3] T)
  refine ⟨by simp, fun i x hi => ?_⟩
  match i, hi with
  | 0, hi =>
    simp only [List.getElem?_cons_zero, Option.some.injEq] at hi
    subst hi
    exact ⟨ra, n1, p1, l1, c1, by rw [cell_of_row _ _ _ _ _ _ hh]; rfl, by rw [cell_of_row _ _ _ _ _ _ hh]; rfl, h1.alloc _⟩
  | 1, hi =>
    simp only [List.getElem?_cons_succ, List.getElem?_cons_zero, Option.some.injEq] at hi
    subst hi
    exact ⟨rb, n2, p2, l2, c2, by rw [cell_of_row _ _ _ _ _ _ hh]; rfl, by rw [cell_of_row _ _ _ _ _ _ hh]; rfl, h2.alloc _⟩
  | 2, hi =>
    simp only [List.getElem?_cons_succ, List.getElem?_cons_zero, Option.some.injEq] at hi
    subst hi
    exact ⟨rc, n3, p3, l3, c3, by rw [cell_of_row _ _ _ _ _ _ hh]; rfl, by rw [cell_of_row _ _ _ _ _ _ hh]; rfl, h3.alloc _⟩
  | i + 3, hi => simp at hi

theorem root_times2 (a b : Nm) (B c : Nat) (w : World) (h : NRs w B [a, b]) (hs : ∀ k, small (prodZ ([a, b].take k)) = true) :
    Calls Try.prog 79 #[.slice (some ⟨B, 0, none⟩) 2 c] w (RetN w (ofZ (prodZ [a, b]))) := root_times [a, b] B 2 c w h rfl (by simp) hs
theorem root_times3 (a b d : Nm) (B c : Nat) (w : World) (h : NRs w B [a, b, d]) (hs : ∀ k, small (prodZ ([a, b, d].take k)) = true) :
    Calls Try.prog 79 #[.slice (some ⟨B, 0, none⟩) 3 c] w (RetN w (ofZ (prodZ [a, b, d]))) := root_times [a, b, d] B 3 c w h rfl (by simp) hs

set_option maxRecDepth 100000 in
set_option maxHeartbeats 4000000 in
theorem root_side (a b c : Nm) (na nb nc : Bool) (pa pb pc : Option Addr) (la ca lb cb lc cc : Nat) (w : World) (ha : NR w na pa la ca a) (hb : NR w nb pb lb cb b) (hc : NR w nc pc lc cc c) (ra : a.right = true) (rb : b.right = true) (rc : c.right = true)
    (s1 : ∀ k, small (prodZ ([a, a].take k)) = true) (s2 : ∀ k, small (prodZ ([b, b, c].take k)) = true) :
    Calls Try.prog 68 #[.agg #[.bool na, .slice pa la ca], .agg #[.bool nb, .slice pb lb cb], .agg #[.bool nc, .slice pc lc cc]] w fun e w' => e = .returned (.int .i64 (sideZ a.z b.z c.z)) ∧ Ext w w' := by
  have S1 := Lib.hid s1
  have S2 := Lib.hid s2
  clear s1 s2
  have ba := sgn_bd a.z
  have bb := sgn_bd b.z
  have bc := sgn_bd c.z
  obtain ⟨x, X⟩ : ∃ x, Hid (sgn a.z = x) := ⟨_, rfl⟩
  obtain ⟨sb, SB⟩ : ∃ x, Hid (sgn b.z = x) := ⟨_, rfl⟩
  obtain ⟨sc, SC⟩ : ∃ x, Hid (sgn c.z = x) := ⟨_, rfl⟩
  rw [X.out] at ba
  rw [SB.out] at bb
  rw [SC.out] at bc
  obtain ⟨y, Y⟩ : ∃ y, Hid (sb * sc = y) := ⟨_, rfl⟩
  have by' := unit_mul bb bc
  rw [Y.out] at by'
  obtain ⟨q, Q⟩ : ∃ q, Hid (x * y = q) := ⟨_, rfl⟩
  have bq := unit_mul ba by'
  rw [Q.out] at bq
  have hy := Y.out
  have hq := Q.out
  obtain ⟨r, R⟩ : ∃ r, Hid (cmpZ (a.z * a.z) (b.z * b.z * c.z) = r) := ⟨_, rfl⟩
  have br := cmpZ_bd (a.z * a.z) (b.z * b.z * c.z)
  rw [R.out] at br
  obtain ⟨z, Z⟩ : ∃ z, Hid (x * r = z) := ⟨_, rfl⟩
  have bz := unit_mul ba br
  rw [Z.out] at bz
  have hz := Z.out
  have RES : Hid (sideZ a.z b.z c.z = if 0 ≤ q then max (min (x + y) 1) (-1) else z) := by
    show sideZ a.z b.z c.z = _
    unfold sideZ
    rw [X.out, SB.out, SC.out, Y.out, Q.out, R.out, Z.out]
  go_enter Try.func68, Try.ntmps68
  go_wp2_with fail
  go_region_held3 (fun w' => w'.cell? ⟨w.heap.size, 0, none⟩ = some (.bool na) ∧ w'.cell? ⟨w.heap.size, 1, none⟩ = some (.slice pa la ca) ∧ w'.cell? ⟨w.heap.size + 1, 0, none⟩ = some (.bool nb) ∧ w'.cell? ⟨w.heap.size + 1, 1, none⟩ = some (.slice pb lb cb) ∧ w'.cell? ⟨w.heap.size + 2, 0, none⟩ = some (.bool nc) ∧ w'.cell? ⟨w.heap.size + 2, 1, none⟩ = some (.slice pc lc cc)) (refine ⟨?_, ?_, ?_, ?_, ?_, ?_⟩ <;> go_simp) (first | (go_at_call 77; (with_reducible refine (root_sign a na pa la ca _ (ha.ext (by (repeat (first | exact Below.refl _ _ | assumption | refine Below.drewN ?_ _ | refine Below.drew ?_ | refine Below.setCell ?_ (by first | exact Nat.le_refl _ | (simp; done) | (simp; omega) | omega) _ | refine Below.alloc ?_ (by first | exact Nat.le_refl _ | (simp; done) | (simp; omega) | omega) _)))) ra).mono ?_); rintro e w1 ⟨rfl, hx⟩; rw [X.out]; (have hx0 : Ext w w1 := Ext.step (by (repeat (first | exact Below.refl _ _ | assumption | refine Below.drewN ?_ _ | refine Below.drew ?_ | refine Below.setCell ?_ (by first | exact Nat.le_refl _ | (simp; done) | (simp; omega) | omega) _ | refine Below.alloc ?_ (by first | exact Nat.le_refl _ | (simp; done) | (simp; omega) | omega) _))) hx); have hz_w1 : w.heap.size + 3 ≤ w1.heap.size := Nat.le_trans (by first | omega | (simp; done) | (simp; omega)) hx.size; have hl_w1_0 : w.heap.size < w1.heap.size := Nat.lt_of_lt_of_le (by omega) hz_w1; have hk_w1_0 : ∀ o, w1.cell? ⟨w.heap.size, o, none⟩ = _ := fun o => hx.cell (p := ⟨w.heap.size, o, none⟩) (show w.heap.size < _ from (by first | omega | (simp; done) | (simp; omega))); have hf_w1_0 : ∀ o, w1.frozen? ⟨w.heap.size, o, none⟩ = _ := fun o => hx.frozen (p := ⟨w.heap.size, o, none⟩) (show w.heap.size < _ from (by first | omega | (simp; done) | (simp; omega))); have hl_w1_1 : w.heap.size + 1 < w1.heap.size := Nat.lt_of_lt_of_le (by omega) hz_w1; have hk_w1_1 : ∀ o, w1.cell? ⟨w.heap.size + 1, o, none⟩ = _ := fun o => hx.cell (p := ⟨w.heap.size + 1, o, none⟩) (show w.heap.size + 1 < _ from (by first | omega | (simp; done) | (simp; omega))); have hf_w1_1 : ∀ o, w1.frozen? ⟨w.heap.size + 1, o, none⟩ = _ := fun o => hx.frozen (p := ⟨w.heap.size + 1, o, none⟩) (show w.heap.size + 1 < _ from (by first | omega | (simp; done) | (simp; omega))); have hl_w1_2 : w.heap.size + 2 < w1.heap.size := Nat.lt_of_lt_of_le (by omega) hz_w1; have hk_w1_2 : ∀ o, w1.cell? ⟨w.heap.size + 2, o, none⟩ = _ := fun o => hx.cell (p := ⟨w.heap.size + 2, o, none⟩) (show w.heap.size + 2 < _ from (by first | omega | (simp; done) | (simp; omega))); have hf_w1_2 : ∀ o, w1.frozen? ⟨w.heap.size + 2, o, none⟩ = _ := fun o => hx.frozen (p := ⟨w.heap.size + 2, o, none⟩) (show w.heap.size + 2 < _ from (by first | omega | (simp; done) | (simp; omega)))) | (go_at_call 77; (with_reducible refine (root_sign b nb pb lb cb _ (hb.ext (by (repeat (first | exact Below.refl _ _ | assumption | refine Below.drewN ?_ _ | refine Below.drew ?_ | refine Below.setCell ?_ (by first | exact Nat.le_refl _ | (simp; done) | (simp; omega) | omega) _ | refine Below.alloc ?_ (by first | exact Nat.le_refl _ | (simp; done) | (simp; omega) | omega) _)))) rb).mono ?_); rintro e w2 ⟨rfl, hx⟩; rw [SB.out]; (have hx1 : Ext w w2 := Ext.step (by (repeat (first | exact Below.refl _ _ | assumption | refine Below.drewN ?_ _ | refine Below.drew ?_ | refine Below.setCell ?_ (by first | exact Nat.le_refl _ | (simp; done) | (simp; omega) | omega) _ | refine Below.alloc ?_ (by first | exact Nat.le_refl _ | (simp; done) | (simp; omega) | omega) _))) hx); have hz_w2 : w.heap.size + 3 ≤ w2.heap.size := Nat.le_trans (by first | omega | (simp; done) | (simp; omega)) hx.size; have hl_w2_0 : w.heap.size < w2.heap.size := Nat.lt_of_lt_of_le (by omega) hz_w2; have hk_w2_0 : ∀ o, w2.cell? ⟨w.heap.size, o, none⟩ = _ := fun o => hx.cell (p := ⟨w.heap.size, o, none⟩) (show w.heap.size < _ from (by first | omega | (simp; done) | (simp; omega))); have hf_w2_0 : ∀ o, w2.frozen? ⟨w.heap.size, o, none⟩ = _ := fun o => hx.frozen (p := ⟨w.heap.size, o, none⟩) (show w.heap.size < _ from (by first | omega | (simp; done) | (simp; omega))); have hl_w2_1 : w.heap.size + 1 < w2.heap.size := Nat.lt_of_lt_of_le (by omega) hz_w2; have hk_w2_1 : ∀ o, w2.cell? ⟨w.heap.size + 1, o, none⟩ = _ := fun o => hx.cell (p := ⟨w.heap.size + 1, o, none⟩) (show w.heap.size + 1 < _ from (by first | omega | (simp; done) | (simp; omega))); have hf_w2_1 : ∀ o, w2.frozen? ⟨w.heap.size + 1, o, none⟩ = _ := fun o => hx.frozen (p := ⟨w.heap.size + 1, o, none⟩) (show w.heap.size + 1 < _ from (by first | omega | (simp; done) | (simp; omega))); have hl_w2_2 : w.heap.size + 2 < w2.heap.size := Nat.lt_of_lt_of_le (by omega) hz_w2; have hk_w2_2 : ∀ o, w2.cell? ⟨w.heap.size + 2, o, none⟩ = _ := fun o => hx.cell (p := ⟨w.heap.size + 2, o, none⟩) (show w.heap.size + 2 < _ from (by first | omega | (simp; done) | (simp; omega))); have hf_w2_2 : ∀ o, w2.frozen? ⟨w.heap.size + 2, o, none⟩ = _ := fun o => hx.frozen (p := ⟨w.heap.size + 2, o, none⟩) (show w.heap.size + 2 < _ from (by first | omega | (simp; done) | (simp; omega)))) | (go_at_call 77; (with_reducible refine (root_sign c nc pc lc cc _ (hc.ext (by (repeat (first | exact Below.refl _ _ | assumption | refine Below.drewN ?_ _ | refine Below.drew ?_ | refine Below.setCell ?_ (by first | exact Nat.le_refl _ | (simp; done) | (simp; omega) | omega) _ | refine Below.alloc ?_ (by first | exact Nat.le_refl _ | (simp; done) | (simp; omega) | omega) _)))) rc).mono ?_); rintro e w3 ⟨rfl, hx⟩; rw [SC.out]; (have hx2 : Ext w w3 := Ext.step (by (repeat (first | exact Below.refl _ _ | assumption | refine Below.drewN ?_ _ | refine Below.drew ?_ | refine Below.setCell ?_ (by first | exact Nat.le_refl _ | (simp; done) | (simp; omega) | omega) _ | refine Below.alloc ?_ (by first | exact Nat.le_refl _ | (simp; done) | (simp; omega) | omega) _))) hx); have hz_w3 : w.heap.size + 3 ≤ w3.heap.size := Nat.le_trans (by first | omega | (simp; done) | (simp; omega)) hx.size; have hl_w3_0 : w.heap.size < w3.heap.size := Nat.lt_of_lt_of_le (by omega) hz_w3; have hk_w3_0 : ∀ o, w3.cell? ⟨w.heap.size, o, none⟩ = _ := fun o => hx.cell (p := ⟨w.heap.size, o, none⟩) (show w.heap.size < _ from (by first | omega | (simp; done) | (simp; omega))); have hf_w3_0 : ∀ o, w3.frozen? ⟨w.heap.size, o, none⟩ = _ := fun o => hx.frozen (p := ⟨w.heap.size, o, none⟩) (show w.heap.size < _ from (by first | omega | (simp; done) | (simp; omega))); have hl_w3_1 : w.heap.size + 1 < w3.heap.size := Nat.lt_of_lt_of_le (by omega) hz_w3; have hk_w3_1 : ∀ o, w3.cell? ⟨w.heap.size + 1, o, none⟩ = _ := fun o => hx.cell (p := ⟨w.heap.size + 1, o, none⟩) (show w.heap.size + 1 < _ from (by first | omega | (simp; done) | (simp; omega))); have hf_w3_1 : ∀ o, w3.frozen? ⟨w.heap.size + 1, o, none⟩ = _ := fun o => hx.frozen (p := ⟨w.heap.size + 1, o, none⟩) (show w.heap.size + 1 < _ from (by first | omega | (simp; done) | (simp; omega))); have hl_w3_2 : w.heap.size + 2 < w3.heap.size := Nat.lt_of_lt_of_le (by omega) hz_w3; have hk_w3_2 : ∀ o, w3.cell? ⟨w.heap.size + 2, o, none⟩ = _ := fun o => hx.cell (p := ⟨w.heap.size + 2, o, none⟩) (show w.heap.size + 2 < _ from (by first | omega | (simp; done) | (simp; omega))); have hf_w3_2 : ∀ o, w3.frozen? ⟨w.heap.size + 2, o, none⟩ = _ := fun o => hx.frozen (p := ⟨w.heap.size + 2, o, none⟩) (show w.heap.size + 2 < _ from (by first | omega | (simp; done) | (simp; omega)))))
  by_cases h0 : 0 ≤ q
  · go_wp2
    all_goals
      go_ret
      refine ⟨?_, by (repeat (first | exact Below.refl _ _ | assumption | refine Below.drewN ?_ _ | refine Below.drew ?_ | refine Below.setCell ?_ (by first | exact Nat.le_refl _ | (simp; done) | (simp; omega) | omega) _ | refine Below.alloc ?_ (by first | exact Nat.le_refl _ | (simp; done) | (simp; omega) | omega) _))⟩
      rw [RES.out, if_pos h0]
      refine congrArg (fun n => Ending.returned (.int .i64 n)) ?_
      show _ = _
      omega
  · have CM : Hid (cmpP (ofZ (prodZ [a, a])) (ofZ (prodZ [b, b, c])) = r) := by
      have e1 : prodZ [a, a] = a.z * a.z := by simp [prodZ]
      have e2 : prodZ [b, b, c] = b.z * b.z * c.z := by simp [prodZ]
      have f1 : small (prodZ [a, a]) = true := S1.out 2
      have f2 : small (prodZ [b, b, c]) = true := S2.out 3
      show cmpP (ofZ (prodZ [a, a])) (ofZ (prodZ [b, b, c])) = r
      rw [cmpP_ofZ f1 f2, e1, e2, R.out]
    go_wp2_with fail
    go_region_held3 (fun w' => w'.cell? ⟨w.heap.size, 0, none⟩ = some (.bool na) ∧ w'.cell? ⟨w.heap.size, 1, none⟩ = some (.slice pa la ca) ∧ w'.cell? ⟨w.heap.size + 1, 0, none⟩ = some (.bool nb) ∧ w'.cell? ⟨w.heap.size + 1, 1, none⟩ = some (.slice pb lb cb) ∧ w'.cell? ⟨w.heap.size + 2, 0, none⟩ = some (.bool nc) ∧ w'.cell? ⟨w.heap.size + 2, 1, none⟩ = some (.slice pc lc cc)) (refine ⟨?_, ?_, ?_, ?_, ?_, ?_⟩ <;> go_simp) (first | (go_at_call 79; (with_reducible refine (root_times2 a a _ 2 _ (by repeat (first | exact NRs_two _ (ha.ext (by (repeat (first | exact Below.refl _ _ | assumption | refine Below.drewN ?_ _ | refine Below.drew ?_ | refine Below.setCell ?_ (by first | exact Nat.le_refl _ | (simp; done) | (simp; omega) | omega) _ | refine Below.alloc ?_ (by first | exact Nat.le_refl _ | (simp; done) | (simp; omega) | omega) _)))) (ha.ext (by (repeat (first | exact Below.refl _ _ | assumption | refine Below.drewN ?_ _ | refine Below.drew ?_ | refine Below.setCell ?_ (by first | exact Nat.le_refl _ | (simp; done) | (simp; omega) | omega) _ | refine Below.alloc ?_ (by first | exact Nat.le_refl _ | (simp; done) | (simp; omega) | omega) _)))) ra ra (by first | rfl | simp) | refine NRs.drew ?_ | refine NRs.more ?_ _)) S1.out).mono ?_); rintro e w4 ⟨n4, p4, l4, c4, rfl, hnr4, hnew4, hx4⟩; (have hx5 : Ext w w4 := Ext.step (by (repeat (first | exact Below.refl _ _ | assumption | refine Below.drewN ?_ _ | refine Below.drew ?_ | refine Below.setCell ?_ (by first | exact Nat.le_refl _ | (simp; done) | (simp; omega) | omega) _ | refine Below.alloc ?_ (by first | exact Nat.le_refl _ | (simp; done) | (simp; omega) | omega) _))) hx4); have hz_w4 : w.heap.size + 3 ≤ w4.heap.size := Nat.le_trans (by first | omega | (simp; done) | (simp; omega)) hx4.size; have hl_w4_0 : w.heap.size < w4.heap.size := Nat.lt_of_lt_of_le (by omega) hz_w4; have hk_w4_0 : ∀ o, w4.cell? ⟨w.heap.size, o, none⟩ = _ := fun o => hx4.cell (p := ⟨w.heap.size, o, none⟩) (show w.heap.size < _ from (by first | omega | (simp; done) | (simp; omega))); have hf_w4_0 : ∀ o, w4.frozen? ⟨w.heap.size, o, none⟩ = _ := fun o => hx4.frozen (p := ⟨w.heap.size, o, none⟩) (show w.heap.size < _ from (by first | omega | (simp; done) | (simp; omega))); have hl_w4_1 : w.heap.size + 1 < w4.heap.size := Nat.lt_of_lt_of_le (by omega) hz_w4; have hk_w4_1 : ∀ o, w4.cell? ⟨w.heap.size + 1, o, none⟩ = _ := fun o => hx4.cell (p := ⟨w.heap.size + 1, o, none⟩) (show w.heap.size + 1 < _ from (by first | omega | (simp; done) | (simp; omega))); have hf_w4_1 : ∀ o, w4.frozen? ⟨w.heap.size + 1, o, none⟩ = _ := fun o => hx4.frozen (p := ⟨w.heap.size + 1, o, none⟩) (show w.heap.size + 1 < _ from (by first | omega | (simp; done) | (simp; omega))); have hl_w4_2 : w.heap.size + 2 < w4.heap.size := Nat.lt_of_lt_of_le (by omega) hz_w4; have hk_w4_2 : ∀ o, w4.cell? ⟨w.heap.size + 2, o, none⟩ = _ := fun o => hx4.cell (p := ⟨w.heap.size + 2, o, none⟩) (show w.heap.size + 2 < _ from (by first | omega | (simp; done) | (simp; omega))); have hf_w4_2 : ∀ o, w4.frozen? ⟨w.heap.size + 2, o, none⟩ = _ := fun o => hx4.frozen (p := ⟨w.heap.size + 2, o, none⟩) (show w.heap.size + 2 < _ from (by first | omega | (simp; done) | (simp; omega)))) | (go_at_call 79; (with_reducible refine (root_times3 b b c _ 3 _ (by repeat (first | exact NRs_three _ (hb.ext (by (repeat (first | exact Below.refl _ _ | assumption | refine Below.drewN ?_ _ | refine Below.drew ?_ | refine Below.setCell ?_ (by first | exact Nat.le_refl _ | (simp; done) | (simp; omega) | omega) _ | refine Below.alloc ?_ (by first | exact Nat.le_refl _ | (simp; done) | (simp; omega) | omega) _)))) (hb.ext (by (repeat (first | exact Below.refl _ _ | assumption | refine Below.drewN ?_ _ | refine Below.drew ?_ | refine Below.setCell ?_ (by first | exact Nat.le_refl _ | (simp; done) | (simp; omega) | omega) _ | refine Below.alloc ?_ (by first | exact Nat.le_refl _ | (simp; done) | (simp; omega) | omega) _)))) (hc.ext (by (repeat (first | exact Below.refl _ _ | assumption | refine Below.drewN ?_ _ | refine Below.drew ?_ | refine Below.setCell ?_ (by first | exact Nat.le_refl _ | (simp; done) | (simp; omega) | omega) _ | refine Below.alloc ?_ (by first | exact Nat.le_refl _ | (simp; done) | (simp; omega) | omega) _)))) rb rb rc (by first | rfl | simp) | refine NRs.drew ?_ | refine NRs.more ?_ _ | refine NRs.ext ?_ hx4)) S2.out).mono ?_); rintro e w5 ⟨n5, p5, l5, c5, rfl, hnr5, hnew5, hx6⟩; (have hx7 : Ext w4 w5 := Ext.step (by (repeat (first | exact Below.refl _ _ | assumption | refine Below.drewN ?_ _ | refine Below.drew ?_ | refine Below.setCell ?_ (by first | exact Nat.le_refl _ | (simp; done) | (simp; omega) | omega) _ | refine Below.alloc ?_ (by first | exact Nat.le_refl _ | (simp; done) | (simp; omega) | omega) _))) hx6); (have hx8 : Ext w w5 := Ext.step hx5 hx7); have hz_w5 : w.heap.size + 3 ≤ w5.heap.size := Nat.le_trans (by first | omega | (simp; done) | (simp; omega)) hx6.size; have hl_w5_0 : w.heap.size < w5.heap.size := Nat.lt_of_lt_of_le (by omega) hz_w5; have hk_w5_0 : ∀ o, w5.cell? ⟨w.heap.size, o, none⟩ = _ := fun o => hx6.cell (p := ⟨w.heap.size, o, none⟩) (show w.heap.size < _ from (by first | omega | (simp; done) | (simp; omega))); have hf_w5_0 : ∀ o, w5.frozen? ⟨w.heap.size, o, none⟩ = _ := fun o => hx6.frozen (p := ⟨w.heap.size, o, none⟩) (show w.heap.size < _ from (by first | omega | (simp; done) | (simp; omega))); have hl_w5_1 : w.heap.size + 1 < w5.heap.size := Nat.lt_of_lt_of_le (by omega) hz_w5; have hk_w5_1 : ∀ o, w5.cell? ⟨w.heap.size + 1, o, none⟩ = _ := fun o => hx6.cell (p := ⟨w.heap.size + 1, o, none⟩) (show w.heap.size + 1 < _ from (by first | omega | (simp; done) | (simp; omega))); have hf_w5_1 : ∀ o, w5.frozen? ⟨w.heap.size + 1, o, none⟩ = _ := fun o => hx6.frozen (p := ⟨w.heap.size + 1, o, none⟩) (show w.heap.size + 1 < _ from (by first | omega | (simp; done) | (simp; omega))); have hl_w5_2 : w.heap.size + 2 < w5.heap.size := Nat.lt_of_lt_of_le (by omega) hz_w5; have hk_w5_2 : ∀ o, w5.cell? ⟨w.heap.size + 2, o, none⟩ = _ := fun o => hx6.cell (p := ⟨w.heap.size + 2, o, none⟩) (show w.heap.size + 2 < _ from (by first | omega | (simp; done) | (simp; omega))); have hf_w5_2 : ∀ o, w5.frozen? ⟨w.heap.size + 2, o, none⟩ = _ := fun o => hx6.frozen (p := ⟨w.heap.size + 2, o, none⟩) (show w.heap.size + 2 < _ from (by first | omega | (simp; done) | (simp; omega)))) | (go_at_call 78; refine (num_Cmp _ _ _ _ _ _ _ _ _ _ _ (hnr4.ext (by (repeat (first | exact Below.refl _ _ | assumption | refine Below.drewN ?_ _ | refine Below.drew ?_ | refine Below.setCell ?_ (by first | exact Nat.le_refl _ | (simp; done) | (simp; omega) | omega) _ | refine Below.alloc ?_ (by first | exact Nat.le_refl _ | (simp; done) | (simp; omega) | omega) _)))) (hnr5.ext (by (repeat (first | exact Below.refl _ _ | assumption | refine Below.drewN ?_ _ | refine Below.drew ?_ | refine Below.setCell ?_ (by first | exact Nat.le_refl _ | (simp; done) | (simp; omega) | omega) _ | refine Below.alloc ?_ (by first | exact Nat.le_refl _ | (simp; done) | (simp; omega) | omega) _))))).mono ?_; rintro e w6 ⟨rfl, hx9⟩; rw [CM.out]; (have hx10 : Ext w w6 := Ext.step (by (repeat (first | exact Below.refl _ _ | assumption | refine Below.drewN ?_ _ | refine Below.drew ?_ | refine Below.setCell ?_ (by first | exact Nat.le_refl _ | (simp; done) | (simp; omega) | omega) _ | refine Below.alloc ?_ (by first | exact Nat.le_refl _ | (simp; done) | (simp; omega) | omega) _))) hx9); have hz_w6 : w.heap.size + 3 ≤ w6.heap.size := Nat.le_trans (by first | omega | (simp; done) | (simp; omega)) hx9.size; have hl_w6_0 : w.heap.size < w6.heap.size := Nat.lt_of_lt_of_le (by omega) hz_w6; have hk_w6_0 : ∀ o, w6.cell? ⟨w.heap.size, o, none⟩ = _ := fun o => hx9.cell (p := ⟨w.heap.size, o, none⟩) (show w.heap.size < _ from (by first | omega | (simp; done) | (simp; omega))); have hf_w6_0 : ∀ o, w6.frozen? ⟨w.heap.size, o, none⟩ = _ := fun o => hx9.frozen (p := ⟨w.heap.size, o, none⟩) (show w.heap.size < _ from (by first | omega | (simp; done) | (simp; omega))); have hl_w6_1 : w.heap.size + 1 < w6.heap.size := Nat.lt_of_lt_of_le (by omega) hz_w6; have hk_w6_1 : ∀ o, w6.cell? ⟨w.heap.size + 1, o, none⟩ = _ := fun o => hx9.cell (p := ⟨w.heap.size + 1, o, none⟩) (show w.heap.size + 1 < _ from (by first | omega | (simp; done) | (simp; omega))); have hf_w6_1 : ∀ o, w6.frozen? ⟨w.heap.size + 1, o, none⟩ = _ := fun o => hx9.frozen (p := ⟨w.heap.size + 1, o, none⟩) (show w.heap.size + 1 < _ from (by first | omega | (simp; done) | (simp; omega))); have hl_w6_2 : w.heap.size + 2 < w6.heap.size := Nat.lt_of_lt_of_le (by omega) hz_w6; have hk_w6_2 : ∀ o, w6.cell? ⟨w.heap.size + 2, o, none⟩ = _ := fun o => hx9.cell (p := ⟨w.heap.size + 2, o, none⟩) (show w.heap.size + 2 < _ from (by first | omega | (simp; done) | (simp; omega))); have hf_w6_2 : ∀ o, w6.frozen? ⟨w.heap.size + 2, o, none⟩ = _ := fun o => hx9.frozen (p := ⟨w.heap.size + 2, o, none⟩) (show w.heap.size + 2 < _ from (by first | omega | (simp; done) | (simp; omega)))))
    go_wp2
    all_goals
      go_ret
      refine ⟨?_, by (repeat (first | exact Below.refl _ _ | assumption | refine Below.drewN ?_ _ | refine Below.drew ?_ | refine Below.setCell ?_ (by first | exact Nat.le_refl _ | (simp; done) | (simp; omega) | omega) _ | refine Below.alloc ?_ (by first | exact Nat.le_refl _ | (simp; done) | (simp; omega) | omega) _))⟩
      rw [RES.out, if_neg (by omega)]
      refine congrArg (fun n => Ending.returned (.int .i64 n)) ?_
      show _ = _
      first | rfl | exact IntWalk.i64_in _ (by omega)
end Go.Proofs.Ytmmhiiiaccldmaa

namespace Go.Proofs.Ytmmhiiiaccldmaa
open Go.RowKit

theorem catch_idle (p : Addr) (w : World) :
    CallsD Try.prog 76 #[.pointer (some p)] .returning w fun e u' w' => e = .returned (.tuple #[]) ∧ u' = .returning ∧ w' = w := by
  refine callsD_of_wpS Try.func76 rfl fun c₀ cs hu => ?_
  apply wpS_seq
  apply wpS_region
  simp [wpOpsS, go_sem, recoverD, hu, Try.ntmps76, Exit.thenS]
  apply wpS_seq
  apply wpS_region
  have hne : ∀ w, (binOp .neq 20 .nilIface .nilIface).run Try.prog w = .ok (.bool false) w := fun _ => by kernel_rfl
  simp [wpOpsS, go_sem, Exit.thenS, hne]
  refine wpS_cond (t := false) (by simp [Act.eval, Array.replicate]) ?_
  simp only [Bool.false_eq_true, if_false]
  refine wpS_of_wp (wp_skip ?_)
  cases c₀
  simp_all [bodyPostS, results, Try.results76]

set_option maxRecDepth 100000 in
set_option maxHeartbeats 1000000 in
theorem root_Sign1 (a b c : Nm) (na nb nc : Bool) (pa pb pc : Option Addr) (la ca lb cb lc cc A B C : Nat) (w : World) (ha : NR w na pa la ca a) (hb : NR w nb pb lb cb b) (hc : NR w nc pc lc cc c) (ra : a.right = true) (rb : b.right = true) (rc : c.right = true)
    (s1 : ∀ k, small (prodZ ([a, a].take k)) = true) (s2 : ∀ k, small (prodZ ([b, b, c].take k)) = true)
    (a0 : w.cell? ⟨A, 0, none⟩ = some (.bool na)) (a1 : w.cell? ⟨A, 1, none⟩ = some (.slice pa la ca)) (b0 : w.cell? ⟨B, 0, none⟩ = some (.bool nb)) (b1 : w.cell? ⟨B, 1, none⟩ = some (.slice pb lb cb)) (c0 : w.cell? ⟨C, 0, none⟩ = some (.bool nc)) (c1 : w.cell? ⟨C, 1, none⟩ = some (.slice pc lc cc)) :
    Calls Try.prog 67 #[.pointer (some ⟨A, 0, none⟩), .pointer (some ⟨B, 0, none⟩), .pointer (some ⟨C, 0, none⟩)] w fun e w' => e = .returned (.int .i64 (sideZ a.z b.z c.z)) ∧ Ext w w' := by
  have S1 := Lib.hid s1
  have S2 := Lib.hid s2
  clear s1 s2
  go_enter Try.func67, Try.ntmps67
  go_wp2_with fail
  refine (root_side a b c _ _ _ _ _ _ _ _ _ _ _ _ _ ha hb hc ra rb rc S1.out S2.out).mono ?_
  rintro e w1 ⟨rfl, hx⟩
  go_wp2
  go_ret
  exact ⟨rfl, hx⟩

set_option maxRecDepth 100000 in
set_option maxHeartbeats 1000000 in
theorem root_guarded_sign (a b c : Nm) (na nb nc : Bool) (pa pb pc : Option Addr) (la ca lb cb lc cc A B C : Nat) (w : World) (ha : NR w na pa la ca a) (hb : NR w nb pb lb cb b) (hc : NR w nc pc lc cc c) (ra : a.right = true) (rb : b.right = true) (rc : c.right = true)
    (s1 : ∀ k, small (prodZ ([a, a].take k)) = true) (s2 : ∀ k, small (prodZ ([b, b, c].take k)) = true)
    (a0 : w.cell? ⟨A, 0, none⟩ = some (.bool na)) (a1 : w.cell? ⟨A, 1, none⟩ = some (.slice pa la ca)) (b0 : w.cell? ⟨B, 0, none⟩ = some (.bool nb)) (b1 : w.cell? ⟨B, 1, none⟩ = some (.slice pb lb cb)) (c0 : w.cell? ⟨C, 0, none⟩ = some (.bool nc)) (c1 : w.cell? ⟨C, 1, none⟩ = some (.slice pc lc cc)) :
    Calls Try.prog 66 #[.func (.func 67) #[] #[.pointer (some ⟨A, 0, none⟩), .pointer (some ⟨B, 0, none⟩), .pointer (some ⟨C, 0, none⟩)]] w fun e w' => e = .returned (.int .i64 (sideZ a.z b.z c.z)) ∧ Ext w w' := by
  have S1 := Lib.hid s1
  have S2 := Lib.hid s2
  clear s1 s2
  have hmf : ∀ (fn : Fn) (first cap : Array Value) (w : World), (Instr.makeFunc fn first cap).run Try.prog w = .ok (.func fn first cap) w := fun _ _ _ _ => rfl
  have hA := World.block_lt_of_cell? w _ a0
  have hB := World.block_lt_of_cell? w _ b0
  have hC := World.block_lt_of_cell? w _ c0
  have hx0 : Ext w (w.alloc (.cells #[.int .i64 0] 3)) := by (repeat (first | exact Below.refl _ _ | assumption | refine Below.drewN ?_ _ | refine Below.drew ?_ | refine Below.setCell ?_ (by first | exact Nat.le_refl _ | (simp; done) | (simp; omega) | omega) _ | refine Below.alloc ?_ (by first | exact Nat.le_refl _ | (simp; done) | (simp; omega) | omega) _))
  go_enter_defers Try.func66, Try.ntmps66
  go_wp2_with fail
  refine (root_Sign1 a b c _ _ _ _ _ _ _ _ _ _ _ _ A B C _ (ha.ext hx0) (hb.ext hx0) (hc.ext hx0) ra rb rc S1.out S2.out ((hx0.cell (p := ⟨A, 0, none⟩) hA).trans a0) ((hx0.cell (p := ⟨A, 1, none⟩) hA).trans a1) ((hx0.cell (p := ⟨B, 0, none⟩) hB).trans b0) ((hx0.cell (p := ⟨B, 1, none⟩) hB).trans b1) ((hx0.cell (p := ⟨C, 0, none⟩) hC).trans c0) ((hx0.cell (p := ⟨C, 1, none⟩) hC).trans c1)).mono ?_
  rintro e w1 ⟨rfl, hx⟩
  have hx1 : Ext w w1 := Ext.step hx0 hx
  have hz_w1 : w.heap.size + 1 ≤ w1.heap.size := Nat.le_trans (by first | omega | (simp; done) | (simp; omega)) hx.size
  have hl_w1_0 : w.heap.size < w1.heap.size := Nat.lt_of_lt_of_le (by omega) hz_w1
  have hk_w1_0 : ∀ o, w1.cell? ⟨w.heap.size, o, none⟩ = _ := fun o => hx.cell (p := ⟨w.heap.size, o, none⟩) (show w.heap.size < _ from (by first | omega | (simp; done) | (simp; omega)))
  have hf_w1_0 : ∀ o, w1.frozen? ⟨w.heap.size, o, none⟩ = _ := fun o => hx.frozen (p := ⟨w.heap.size, o, none⟩) (show w.heap.size < _ from (by first | omega | (simp; done) | (simp; omega)))
  go_wp2_with fail
  refine leaves_cons (f := 76) (args := #[.pointer (some ⟨w.heap.size, 0, none⟩)]) (by simp) (by simp [go_sem]) ?_
  refine (catch_idle ⟨w.heap.size, 0, none⟩ _).mono ?_
  rintro e u' w'' ⟨rfl, rfl, rfl⟩
  simp [Leaves, settle, results, Try.results66, go_sem, hk_w1_0]
  (repeat (first | exact Below.refl _ _ | assumption | refine Below.drewN ?_ _ | refine Below.drew ?_ | refine Below.setCell ?_ (by first | exact Nat.le_refl _ | (simp; done) | (simp; omega) | omega) _ | refine Below.alloc ?_ (by first | exact Nat.le_refl _ | (simp; done) | (simp; omega) | omega) _))
end Go.Proofs.Ytmmhiiiaccldmaa
