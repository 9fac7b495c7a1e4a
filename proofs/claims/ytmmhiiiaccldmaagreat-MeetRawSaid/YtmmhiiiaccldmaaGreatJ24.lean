/- Steps: slice literals of numbers. | Contracts: etchantref02: zero, times, plus, minus, side, Sign. | Contract: etchantref02.Sign. -/
import Derived.Test.YtmmhiiiaccldmaaGreatJ09
import Derived.Test.YtmmhiiiaccldmaaGreatJ23
import Derived.Great.BuildSlice
import Derived.Deep.DeepCutAuto
set_option linter.unusedVariables false
set_option linter.unusedSimpArgs false

namespace Go.Proofs.YtmmhiiiaccldmaaGreat
open Go.RowKit

theorem wp_know {P : Program} {c : Code} {Q : Exit → Act → World → Prop} {a : Act} {w' : World} (R : World → Prop) (h : R w') (k : ∀ W, R W → Code.wp P c Q a W) : Code.wp P c Q a w' := k _ h
theorem infoNum : (Tryz.prog.info? 83).map (fun i => (i.zero, i.size, i.bytes)) = some (some (.agg #[.bool false, .slice none 0 0]), 2, 32) := by kernel_rfl
theorem info_partsN {P : Program} {t : TypeId} {z : Value} {s b : Nat} (h : (P.info? t).map (fun i => (i.zero, i.size, i.bytes)) = some (some z, s, b)) : ∃ i, P.info? t = some i ∧ i.zero = some z ∧ i.size = s ∧ i.bytes = b := by
  cases hi : P.info? t with
  | none => rw [hi] at h; cases h
  | some i =>
    rw [hi] at h
    simp only [Option.map_some, Option.some.injEq, Prod.mk.injEq] at h
    exact ⟨i, rfl, h.1, h.2.1, h.2.2⟩
theorem fillN2 (n1 n2 : Bool) (p1 p2 : Option Addr) (l1 c1 l2 c2 : Nat) : Instr.fill (fun i => some (i * 2, 2)) ((Array.range (2 * 2)).map ((.agg #[.bool false, .slice none 0 0] : Value).cells[· % (.agg #[.bool false, .slice none 0 0] : Value).cells.size]!)) [(0, .agg #[.bool n1, .slice p1 l1 c1]), (1, .agg #[.bool n2, .slice p2 l2 c2])] = some #[.bool n1, .slice p1 l1 c1, .bool n2, .slice p2 l2 c2] := by kernel_rfl
theorem NRs_2 {W : World} {n1 n2 : Bool} {p1 p2 : Option Addr} {l1 c1 l2 c2 g : Nat} {a1 a2 : Nm} {T : TypeId} (h : W.heap[g]? = some (.cells #[.bool n1, .slice p1 l1 c1, .bool n2, .slice p2 l2 c2] T)) (h1 : NR W n1 p1 l1 c1 a1) (h2 : NR W n2 p2 l2 c2 a2) (r1 : a1.right = true) (r2 : a2.right = true) : NRs W g [a1, a2] := by
  have hc : ∀ j v, (#[.bool n1, .slice p1 l1 c1, .bool n2, .slice p2 l2 c2] : Array Value)[j]? = some v → W.cell? ⟨g, j, none⟩ = some v := by
    intro j v hv
    simp [World.cell?, h, hv]
  refine ⟨(Array.getElem?_eq_some_iff.1 h).1, fun i x hi => ?_⟩
  match i, hi with
  | 0, hi => cases hi; exact ⟨r1, n1, p1, l1, c1, hc 0 _ rfl, hc 1 _ rfl, h1⟩
  | 1, hi => cases hi; exact ⟨r2, n2, p2, l2, c2, hc 2 _ rfl, hc 3 _ rfl, h2⟩
  | i + 2, hi => simp at hi
/-- A slice literal of 2 numbers. -/
theorem F_ns2 {ops : Array Oper} {S : World → Prop} {Q : Act → World → Prop} {o : Oper} {l : List Oper} {a : Act} {own : List Nat} {F : World → Prop} (a1 a2 : Nm) (x1 x2 : Operand) (ho : o.op = .buildSlice 109 2 #[(0, x1), (1, x2)]) (hk : fkind o = 1) (hw : Region.wanted o (yielded ops a.tmps) = true)
    {n1 n2 : Bool} {p1 p2 : Option Addr} {l1 c1 l2 c2 : Nat} (e1 : a.eval x1 = .agg #[.bool n1, .slice p1 l1 c1]) (e2 : a.eval x2 = .agg #[.bool n2, .slice p2 l2 c2]) (hF : ∀ w, F w → NR w n1 p1 l1 c1 a1 ∧ NR w n2 p2 l2 c2 a2) (r1 : a1.right = true) (r2 : a2.right = true)
    (h : ∀ g, WpF Tryz.prog ops S Q l (a.put o.dst (.slice (some ⟨g, 0, none⟩) 2 2)) own (fun w => F w ∧ NRs w g [a1, a2])) : WpF Tryz.prog ops S Q (o :: l) a own F := by
  obtain ⟨i, hi, hz0, hz1, hz2⟩ := info_partsN infoNum
  refine F_block 2 (.cells #[.bool n1, .slice p1 l1 c1, .bool n2, .slice p2 l2 c2] 83) (fun g w => NRs w g [a1, a2]) hk hw (fun g => by simp [shp, ho]) (fun w _ => ?_) (fun g w hf hb => ?_) h
  · unfold execOp
    simp only [ho, Sem.run_bind]
    rw [run_buildSlice w 109 83 2 _ i _ (by kernel_rfl) hi hz0 (by rw [hz1]; omega) (by rw [hz1]; omega) (cells := #[.bool n1, .slice p1 l1 c1, .bool n2, .slice p2 l2 c2]) (by rw [hz1]; simp only [List.map_toArray, List.map_cons, List.map_nil, e1, e2]; exact fillN2 _ _ _ _ _ _ _ _)]
    rfl
  · obtain ⟨g1, g2⟩ := hF w hf
    exact NRs_2 hb g1 g2 r1 r2
theorem fillN3 (n1 n2 n3 : Bool) (p1 p2 p3 : Option Addr) (l1 c1 l2 c2 l3 c3 : Nat) : Instr.fill (fun i => some (i * 2, 2)) ((Array.range (3 * 2)).map ((.agg #[.bool false, .slice none 0 0] : Value).cells[· % (.agg #[.bool false, .slice none 0 0] : Value).cells.size]!)) [(0, .agg #[.bool n1, .slice p1 l1 c1]), (1, .agg #[.bool n2, .slice p2 l2 c2]), (2, .agg #[.bool n3, .slice p3 l3 c3])] = some #[.bool n1, .slice p1 l1 c1, .bool n2, .slice p2 l2 c2, .bool n3, .slice p3 l3 c3] := by kernel_rfl
theorem NRs_3 {W : World} {n1 n2 n3 : Bool} {p1 p2 p3 : Option Addr} {l1 c1 l2 c2 l3 c3 g : Nat} {a1 a2 a3 : Nm} {T : TypeId} (h : W.heap[g]? = some (.cells #[.bool n1, .slice p1 l1 c1, .bool n2, .slice p2 l2 c2, .bool n3, .slice p3 l3 c3] T)) (h1 : NR W n1 p1 l1 c1 a1) (h2 : NR W n2 p2 l2 c2 a2) (h3 : NR W n3 p3 l3 c3 a3) (r1 : a1.right = true) (r2 : a2.right = true) (r3 : a3.right = true) : NRs W g [a1, a2, a3] := by
  have hc : ∀ j v, (#[.bool n1, .slice p1 l1 c1, .bool n2, .slice p2 l2 c2, .bool n3, .slice p3 l3 c3] : Array Value)[j]? = some v → W.cell? ⟨g, j, none⟩ = some v := by
    intro j v hv
    simp [World.cell?, h, hv]
  refine ⟨(Array.getElem?_eq_some_iff.1 h).1, fun i x hi => ?_⟩
  match i, hi with
  | 0, hi => cases hi; exact ⟨r1, n1, p1, l1, c1, hc 0 _ rfl, hc 1 _ rfl, h1⟩
  | 1, hi => cases hi; exact ⟨r2, n2, p2, l2, c2, hc 2 _ rfl, hc 3 _ rfl, h2⟩
  | 2, hi => cases hi; exact ⟨r3, n3, p3, l3, c3, hc 4 _ rfl, hc 5 _ rfl, h3⟩
  | i + 3, hi => simp at hi
/-- A slice literal of 3 numbers. -/
theorem F_ns3 {ops : Array Oper} {S : World → Prop} {Q : Act → World → Prop} {o : Oper} {l : List Oper} {a : Act} {own : List Nat} {F : World → Prop} (a1 a2 a3 : Nm) (x1 x2 x3 : Operand) (ho : o.op = .buildSlice 109 3 #[(0, x1), (1, x2), (2, x3)]) (hk : fkind o = 1) (hw : Region.wanted o (yielded ops a.tmps) = true)
    {n1 n2 n3 : Bool} {p1 p2 p3 : Option Addr} {l1 c1 l2 c2 l3 c3 : Nat} (e1 : a.eval x1 = .agg #[.bool n1, .slice p1 l1 c1]) (e2 : a.eval x2 = .agg #[.bool n2, .slice p2 l2 c2]) (e3 : a.eval x3 = .agg #[.bool n3, .slice p3 l3 c3]) (hF : ∀ w, F w → NR w n1 p1 l1 c1 a1 ∧ NR w n2 p2 l2 c2 a2 ∧ NR w n3 p3 l3 c3 a3) (r1 : a1.right = true) (r2 : a2.right = true) (r3 : a3.right = true)
    (h : ∀ g, WpF Tryz.prog ops S Q l (a.put o.dst (.slice (some ⟨g, 0, none⟩) 3 3)) own (fun w => F w ∧ NRs w g [a1, a2, a3])) : WpF Tryz.prog ops S Q (o :: l) a own F := by
  obtain ⟨i, hi, hz0, hz1, hz2⟩ := info_partsN infoNum
  refine F_block 3 (.cells #[.bool n1, .slice p1 l1 c1, .bool n2, .slice p2 l2 c2, .bool n3, .slice p3 l3 c3] 83) (fun g w => NRs w g [a1, a2, a3]) hk hw (fun g => by simp [shp, ho]) (fun w _ => ?_) (fun g w hf hb => ?_) h
  · unfold execOp
    simp only [ho, Sem.run_bind]
    rw [run_buildSlice w 109 83 3 _ i _ (by kernel_rfl) hi hz0 (by rw [hz1]; omega) (by rw [hz1]; omega) (cells := #[.bool n1, .slice p1 l1 c1, .bool n2, .slice p2 l2 c2, .bool n3, .slice p3 l3 c3]) (by rw [hz1]; simp only [List.map_toArray, List.map_cons, List.map_nil, e1, e2, e3]; exact fillN3 _ _ _ _ _ _ _ _ _ _ _ _)]
    rfl
  · obtain ⟨g1, g2, g3⟩ := hF w hf
    exact NRs_3 hb g1 g2 g3 r1 r2 r3
theorem fillN4 (n1 n2 n3 n4 : Bool) (p1 p2 p3 p4 : Option Addr) (l1 c1 l2 c2 l3 c3 l4 c4 : Nat) : Instr.fill (fun i => some (i * 2, 2)) ((Array.range (4 * 2)).map ((.agg #[.bool false, .slice none 0 0] : Value).cells[· % (.agg #[.bool false, .slice none 0 0] : Value).cells.size]!)) [(0, .agg #[.bool n1, .slice p1 l1 c1]), (1, .agg #[.bool n2, .slice p2 l2 c2]), (2, .agg #[.bool n3, .slice p3 l3 c3]), (3, .agg #[.bool n4, .slice p4 l4 c4])] = some #[.bool n1, .slice p1 l1 c1, .bool n2, .slice p2 l2 c2, .bool n3, .slice p3 l3 c3, .bool n4, .slice p4 l4 c4] := by kernel_rfl
theorem NRs_4 {W : World} {n1 n2 n3 n4 : Bool} {p1 p2 p3 p4 : Option Addr} {l1 c1 l2 c2 l3 c3 l4 c4 g : Nat} {a1 a2 a3 a4 : Nm} {T : TypeId} (h : W.heap[g]? = some (.cells #[.bool n1, .slice p1 l1 c1, .bool n2, .slice p2 l2 c2, .bool n3, .slice p3 l3 c3, .bool n4, .slice p4 l4 c4] T)) (h1 : NR W n1 p1 l1 c1 a1) (h2 : NR W n2 p2 l2 c2 a2) (h3 : NR W n3 p3 l3 c3 a3) (h4 : NR W n4 p4 l4 c4 a4) (r1 : a1.right = true) (r2 : a2.right = true) (r3 : a3.right = true) (r4 : a4.right = true) : NRs W g [a1, a2, a3, a4] := by
  have hc : ∀ j v, (#[.bool n1, .slice p1 l1 c1, .bool n2, .slice p2 l2 c2, .bool n3, .slice p3 l3 c3, .bool n4, .slice p4 l4 c4] : Array Value)[j]? = some v → W.cell? ⟨g, j, none⟩ = some v := by
    intro j v hv
    simp [World.cell?, h, hv]
  refine ⟨(Array.getElem?_eq_some_iff.1 h).1, fun i x hi => ?_⟩
  match i, hi with
  | 0, hi => cases hi; exact ⟨r1, n1, p1, l1, c1, hc 0 _ rfl, hc 1 _ rfl, h1⟩
  | 1, hi => cases hi; exact ⟨r2, n2, p2, l2, c2, hc 2 _ rfl, hc 3 _ rfl, h2⟩
  | 2, hi => cases hi; exact ⟨r3, n3, p3, l3, c3, hc 4 _ rfl, hc 5 _ rfl, h3⟩
  | 3, hi => cases hi; exact ⟨r4, n4, p4, l4, c4, hc 6 _ rfl, hc 7 _ rfl, h4⟩
  | i + 4, hi => simp at hi
/-- A slice literal of 4 numbers. -/
theorem F_ns4 {ops : Array Oper} {S : World → Prop} {Q : Act → World → Prop} {o : Oper} {l : List Oper} {a : Act} {own : List Nat} {F : World → Prop} (a1 a2 a3 a4 : Nm) (x1 x2 x3 x4 : Operand) (ho : o.op = .buildSlice 109 4 #[(0, x1), (1, x2), (2, x3), (3, x4)]) (hk : fkind o = 1) (hw : Region.wanted o (yielded ops a.tmps) = true)
    {n1 n2 n3 n4 : Bool} {p1 p2 p3 p4 : Option Addr} {l1 c1 l2 c2 l3 c3 l4 c4 : Nat} (e1 : a.eval x1 = .agg #[.bool n1, .slice p1 l1 c1]) (e2 : a.eval x2 = .agg #[.bool n2, .slice p2 l2 c2]) (e3 : a.eval x3 = .agg #[.bool n3, .slice p3 l3 c3]) (e4 : a.eval x4 = .agg #[.bool n4, .slice p4 l4 c4]) (hF : ∀ w, F w → NR w n1 p1 l1 c1 a1 ∧ NR w n2 p2 l2 c2 a2 ∧ NR w n3 p3 l3 c3 a3 ∧ NR w n4 p4 l4 c4 a4) (r1 : a1.right = true) (r2 : a2.right = true) (r3 : a3.right = true) (r4 : a4.right = true)
    (h : ∀ g, WpF Tryz.prog ops S Q l (a.put o.dst (.slice (some ⟨g, 0, none⟩) 4 4)) own (fun w => F w ∧ NRs w g [a1, a2, a3, a4])) : WpF Tryz.prog ops S Q (o :: l) a own F := by
  obtain ⟨i, hi, hz0, hz1, hz2⟩ := info_partsN infoNum
  refine F_block 4 (.cells #[.bool n1, .slice p1 l1 c1, .bool n2, .slice p2 l2 c2, .bool n3, .slice p3 l3 c3, .bool n4, .slice p4 l4 c4] 83) (fun g w => NRs w g [a1, a2, a3, a4]) hk hw (fun g => by simp [shp, ho]) (fun w _ => ?_) (fun g w hf hb => ?_) h
  · unfold execOp
    simp only [ho, Sem.run_bind]
    rw [run_buildSlice w 109 83 4 _ i _ (by kernel_rfl) hi hz0 (by rw [hz1]; omega) (by rw [hz1]; omega) (cells := #[.bool n1, .slice p1 l1 c1, .bool n2, .slice p2 l2 c2, .bool n3, .slice p3 l3 c3, .bool n4, .slice p4 l4 c4]) (by rw [hz1]; simp only [List.map_toArray, List.map_cons, List.map_nil, e1, e2, e3, e4]; exact fillN4 _ _ _ _ _ _ _ _ _ _ _ _ _ _ _ _)]
    rfl
  · obtain ⟨g1, g2, g3, g4⟩ := hF w hf
    exact NRs_4 hb g1 g2 g3 g4 r1 r2 r3 r4
end Go.Proofs.YtmmhiiiaccldmaaGreat

namespace Go.Proofs.YtmmhiiiaccldmaaGreat
open Go.RowKit
attribute [local go_sem] Gives givesU

/-- The sign of a + b √c, as the reference finds it. -/
def sideR (a b c : Int) : Int := if sgn c = 0 ∨ sgn b = 0 then sgn a else if sgn a = 0 ∨ sgn a = sgn b then sgn b else sgn a * cmpZ (a * a) (b * b * c)
theorem sgn_nonneg {c : Int} (h : 0 ≤ c) : sgn c = 0 ∨ sgn c = 1 := by
  unfold sgn cmpZ
  rw [if_neg (by omega)]
  split
  · exact .inl rfl
  · exact .inr rfl
theorem side_eq (a b c : Int) (h : 0 ≤ c) : sideR a b c = sideZ a b c := by
  unfold sideR sideZ
  have ha := sgn_bd a
  have hb := sgn_bd b
  have hc := sgn_nonneg h
  generalize sgn a * cmpZ (a * a) (b * b * c) = r
  generalize sgn a = x at *
  generalize sgn b = y at *
  generalize sgn c = z at *
  obtain rfl | rfl | rfl : x = -1 ∨ x = 0 ∨ x = 1 := by omega
  all_goals obtain rfl | rfl | rfl : y = -1 ∨ y = 0 ∨ y = 1 := by omega
  all_goals rcases hc with rfl | rfl
  all_goals (simp <;> omega)
set_option maxRecDepth 100000 in
set_option maxHeartbeats 1000000 in
theorem r02_zero (w : World) : Calls Tryz.prog 108 #[] w (RetN w zero) := by
  have e0 : Hid (ofZ 0 = zero) := by show ofZ 0 = zero; unfold ofZ zero; simp [digs_zero]
  go_enter Tryz.func108, Tryz.ntmps108
  go_wp2_with fail
  refine (r01_Of 0 _ (by omega) (by omega)).mono ?_
  rintro e w1 ⟨n1, p1, l1, c1, rfl, hnr, hnew, hx⟩
  rw [e0.out] at hnr
  have hx0 : Ext w w1 := Ext.step bxx hx
  have hz_w1 : w.heap.size + 1 ≤ w1.heap.size := Nat.le_trans omm hx.size
  obtain ⟨hl_w1_0, hk_w1_0, hf_w1_0⟩ := extK hx (w.heap.size)
  go_wp2_with fail
  refine bodyPost_ret (v := .agg #[.bool n1, .slice p1 l1 c1]) (by simp [results, Tryz.results108, go_sem, *]) rfl ?_
  exact ⟨n1, p1, l1, c1, rfl, (by repeat (first | assumption | refine NR.set ?_ (by assumption) _ (by first | (simp; done) | (simp; omega) | omega) _ | refine NR.alloc ?_ _)), hnew.mono (by simp), bxx⟩
set_option maxRecDepth 100000 in
set_option maxHeartbeats 1000000 in
theorem r02_times (a b : Nm) (na nb : Bool) (pa pb : Option Addr) (la ca lb cb : Nat) (w : World) (ha : NR w na pa la ca a) (hb : NR w nb pb lb cb b) :
    Calls Tryz.prog 109 #[.agg #[.bool na, .slice pa la ca], .agg #[.bool nb, .slice pb lb cb]] w (RetN w (mulP a b).1) := by
  go_enter Tryz.func109, Tryz.ntmps109
  go_wp2_with fail
  refine (r01_Mul a b _ _ _ _ _ _ _ _ _ (ha.ext bxx) (hb.ext bxx)).mono ?_
  rintro e w1 ⟨n1, p1, l1, c1, rfl, hnr, hnew, hx⟩
  have hx0 : Ext w w1 := Ext.step bxx hx
  have hz_w1 : w.heap.size + 3 ≤ w1.heap.size := Nat.le_trans omm hx.size
  obtain ⟨hl_w1_0, hk_w1_0, hf_w1_0⟩ := extK hx (w.heap.size)
  obtain ⟨hl_w1_1, hk_w1_1, hf_w1_1⟩ := extK hx (w.heap.size + 1)
  obtain ⟨hl_w1_2, hk_w1_2, hf_w1_2⟩ := extK hx (w.heap.size + 2)
  go_wp2_with fail
  refine bodyPost_ret (v := .agg #[.bool n1, .slice p1 l1 c1]) (by simp [results, Tryz.results109, go_sem, *]) rfl ?_
  exact ⟨n1, p1, l1, c1, rfl, (by repeat (first | assumption | refine NR.set ?_ (by assumption) _ (by first | (simp; done) | (simp; omega) | omega) _ | refine NR.alloc ?_ _)), hnew.mono (by simp; omega), bxx⟩
/-- A variable that holds a number. -/
def VB2 (W : World) (B : Nat) (n : Bool) (p : Option Addr) (l c : Nat) (X : Nm) : Prop := B < W.heap.size ∧ W.cell? ⟨B, 0, none⟩ = some (.bool n) ∧ W.cell? ⟨B, 1, none⟩ = some (.slice p l c) ∧ NR W n p l c X
theorem VB2.ext {W W' : World} {B : Nat} {n : Bool} {p : Option Addr} {l c : Nat} {X : Nm} (h : VB2 W B n p l c X) (hx : Ext W W') : VB2 W' B n p l c X :=
  ⟨Nat.lt_of_lt_of_le h.1 hx.size, (hx.cell (p := ⟨B, 0, none⟩) h.1).trans h.2.1, (hx.cell (p := ⟨B, 1, none⟩) h.1).trans h.2.2.1, h.2.2.2.ext hx⟩
theorem VB2.heap {W : World} {g : Nat} {n : Bool} {p : Option Addr} {l c : Nat} {X : Nm} {T : TypeId} (hg : W.heap[g]? = some (.cells #[.bool n, .slice p l c] T)) (h : NR W n p l c X) : VB2 W g n p l c X := by
  obtain ⟨c0, c1, _, hlt⟩ := pt_block hg
  exact ⟨hlt, c0, c1, h⟩
theorem r01_sgn (a : Nm) (na nz : Bool) (pa pz : Option Addr) (la ca lz cz : Nat) (w : World) (ha : NR w na pa la ca a) (hz : NR w nz pz lz cz zero) (ra : a.right = true) (s : Int) (hs : sgn a.z = s) :
    Calls Tryz.prog 107 #[.agg #[.bool na, .slice pa la ca], .agg #[.bool nz, .slice pz lz cz]] w fun e w' => e = .returned (.int .i64 s) ∧ Ext w w' := by
  have := r01_Cmp a zero na nz pa pz la ca lz cz w ha hz
  rw [cmpP_zero ra, hs] at this
  exact this
theorem r01_cmp (x y : Int) (na nz : Bool) (pa pz : Option Addr) (la ca lz cz : Nat) (w : World) (ha : NR w na pa la ca (ofZ x)) (hz : NR w nz pz lz cz (ofZ y)) (hx : small x = true) (hy : small y = true) (s : Int) (hs : cmpZ x y = s) :
    Calls Tryz.prog 107 #[.agg #[.bool na, .slice pa la ca], .agg #[.bool nz, .slice pz lz cz]] w fun e w' => e = .returned (.int .i64 s) ∧ Ext w w' := by
  have := r01_Cmp (ofZ x) (ofZ y) na nz pa pz la ca lz cz w ha hz
  rw [cmpP_side hx hy, hs] at this
  exact this
theorem mul_ofZ {a b : Nm} {z : Int} (ra : a.right = true) (rb : b.right = true) (hz : a.z * b.z = z) (hs : small z = true) : (mulP a b).1 = ofZ z := by rw [mulP_small ra rb hz hs]
theorem r02_mul (a b : Nm) (z : Int) (na nb : Bool) (pa pb : Option Addr) (la ca lb cb : Nat) (w : World) (ha : NR w na pa la ca a) (hb : NR w nb pb lb cb b) (ra : a.right = true) (rb : b.right = true) (hz : a.z * b.z = z) (hs : small z = true) :
    Calls Tryz.prog 109 #[.agg #[.bool na, .slice pa la ca], .agg #[.bool nb, .slice pb lb cb]] w (RetN w (ofZ z)) := mul_ofZ ra rb hz hs ▸ r02_times a b na nb pa pb la ca lb cb w ha hb
set_option maxRecDepth 100000 in
set_option maxHeartbeats 4000000 in
theorem r02_side (a b c : Nm) (na nb nc : Bool) (pa pb pc : Option Addr) (la ca lb cb lc cc : Nat) (w : World) (ha : NR w na pa la ca a) (hb : NR w nb pb lb cb b) (hc : NR w nc pc lc cc c) (ra : a.right = true) (rb : b.right = true) (rc : c.right = true)
    (s1 : small (a.z * a.z) = true) (s2 : small (b.z * b.z) = true) (s3 : small (b.z * b.z * c.z) = true) :
    Calls Tryz.prog 91 #[.agg #[.bool na, .slice pa la ca], .agg #[.bool nb, .slice pb lb cb], .agg #[.bool nc, .slice pc lc cc]] w fun e w' => e = .returned (.int .i64 (sideR a.z b.z c.z)) ∧ Ext w w' := by
  have S1 := Lib.hid s1
  have S2 := Lib.hid s2
  have S3 := Lib.hid s3
  have HA := Lib.hid ha
  have HB := Lib.hid hb
  have HC := Lib.hid hc
  clear s1 s2 s3 ha hb hc
  have ba := sgn_bd a.z
  have bb := sgn_bd b.z
  obtain ⟨x, X⟩ : ∃ x, Hid (sgn a.z = x) := ⟨_, rfl⟩
  obtain ⟨y, Y⟩ : ∃ x, Hid (sgn b.z = x) := ⟨_, rfl⟩
  obtain ⟨z, Z⟩ : ∃ x, Hid (sgn c.z = x) := ⟨_, rfl⟩
  rw [X.out] at ba
  rw [Y.out] at bb
  obtain ⟨r, R⟩ : ∃ r, Hid (cmpZ (a.z * a.z) (b.z * b.z * c.z) = r) := ⟨_, rfl⟩
  have br := cmpZ_bd (a.z * a.z) (b.z * b.z * c.z)
  rw [R.out] at br
  have bq := unit_mul ba br
  have RES : Hid (sideR a.z b.z c.z = if z = 0 ∨ y = 0 then x else if x = 0 ∨ x = y then y else x * r) := by
    show sideR a.z b.z c.z = _
    unfold sideR
    rw [X.out, Y.out, Z.out, R.out]
  go_enter Tryz.func91, Tryz.ntmps91
  go_upto_region 1 with (fail)
  refine wp_know (fun W => Ext w W ∧ w.heap.size + 3 ≤ W.heap.size ∧ (W.cell? ⟨w.heap.size, 0, none⟩ = some (.bool na) ∧ W.cell? ⟨w.heap.size, 1, none⟩ = some (.slice pa la ca) ∧ W.cell? ⟨w.heap.size + 1, 0, none⟩ = some (.bool nb) ∧ W.cell? ⟨w.heap.size + 1, 1, none⟩ = some (.slice pb lb cb) ∧ W.cell? ⟨w.heap.size + 1 + 1, 0, none⟩ = some (.bool nc) ∧ W.cell? ⟨w.heap.size + 1 + 1, 1, none⟩ = some (.slice pc lc cc) )) ⟨bxx, by simp, by go_simp⟩ ?_
  rintro W0 ⟨hx0, hs0, d0, d1, d2, d3, d4, d5⟩
  refine wp_FS (fun W => W.cell? ⟨w.heap.size, 0, none⟩ = some (.bool na) ∧ W.cell? ⟨w.heap.size, 1, none⟩ = some (.slice pa la ca) ∧ W.cell? ⟨w.heap.size + 1, 0, none⟩ = some (.bool nb) ∧ W.cell? ⟨w.heap.size + 1, 1, none⟩ = some (.slice pb lb cb) ∧ W.cell? ⟨w.heap.size + 1 + 1, 0, none⟩ = some (.bool nc) ∧ W.cell? ⟨w.heap.size + 1 + 1, 1, none⟩ = some (.slice pc lc cc)) ?_
  repeat (first | refine F_s ?_ | refine F_r ?_)
  refine F_num W0 zero (by rfl) (by rfl) (by intro W hW; (try dsimp only at hW); have hwW : W0.heap.size ≤ W.heap.size := (by have hzz := hW; (repeat (first | exact hzz.size | exact hzz.1.size | replace hzz := hzz.1))); go_simp; exact (r02_zero _).mono fun _ _ h => RetN.isN hwW h) ?_; intro n1 p1 l1 c1 hn1; refine F_put ?_
  repeat (first | refine F_s ?_ | refine F_r ?_)
  (refine F_call (v := .int .i64 x) (by rfl) (by rfl) ?_ ?_; (· (intro W hW; (try dsimp only at hW); go_simp; refine (r01_sgn a _ _ _ _ _ _ _ _ _ ((HA.out.ext hx0).ext hW.1.1) hW.2 ra x X.out).mono ?_; rintro e w' ⟨rfl, hx⟩; exact ⟨_, rfl, rfl, hx⟩))); refine F_put ?_
  repeat (first | refine F_s ?_ | refine F_r ?_)
  rintro W1 ⟨⟨hx, hc⟩, _⟩
  have hx1 : Ext w W1 := Ext.step hx0 hx
  have hs1 := hx.size
  clear hx d0 d1 d2 d3 d4 d5
  go_wp2_with fail
  refine wp_FS (fun W => W.cell? ⟨w.heap.size, 0, none⟩ = some (.bool na) ∧ W.cell? ⟨w.heap.size, 1, none⟩ = some (.slice pa la ca) ∧ W.cell? ⟨w.heap.size + 1, 0, none⟩ = some (.bool nb) ∧ W.cell? ⟨w.heap.size + 1, 1, none⟩ = some (.slice pb lb cb) ∧ W.cell? ⟨w.heap.size + 1 + 1, 0, none⟩ = some (.bool nc) ∧ W.cell? ⟨w.heap.size + 1 + 1, 1, none⟩ = some (.slice pc lc cc)) ?_
  repeat (first | refine F_s ?_ | refine F_r ?_)
  refine F_num W1 zero (by rfl) (by rfl) (by intro W hW; (try dsimp only at hW); have hwW : W1.heap.size ≤ W.heap.size := (by have hzz := hW; (repeat (first | exact hzz.size | exact hzz.1.size | replace hzz := hzz.1))); go_simp; exact (r02_zero _).mono fun _ _ h => RetN.isN hwW h) ?_; intro n2 p2 l2 c2 hn2; refine F_put ?_
  repeat (first | refine F_s ?_ | refine F_r ?_)
  (refine F_call (v := .int .i64 y) (by rfl) (by rfl) ?_ ?_; (· (intro W hW; (try dsimp only at hW); go_simp; refine (r01_sgn b _ _ _ _ _ _ _ _ _ ((HB.out.ext hx1).ext hW.1.1) hW.2 rb y Y.out).mono ?_; rintro e w' ⟨rfl, hx⟩; exact ⟨_, rfl, rfl, hx⟩))); refine F_put ?_
  repeat (first | refine F_s ?_ | refine F_r ?_)
  rintro W2 ⟨⟨hx, hc2⟩, _⟩
  have hx2 : Ext w W2 := Ext.step hx1 hx
  have hs2 := hx.size
  clear hx hc
  go_wp2_with fail
  by_cases z0 : z = 0
  · have zb : (z == 0) = true := by simp [z0]
    have Z0 := Lib.hid z0
    clear z0
    refine wp_FS (fun W => W.cell? ⟨w.heap.size, 0, none⟩ = some (.bool na) ∧ W.cell? ⟨w.heap.size, 1, none⟩ = some (.slice pa la ca) ∧ W.cell? ⟨w.heap.size + 1, 0, none⟩ = some (.bool nb) ∧ W.cell? ⟨w.heap.size + 1, 1, none⟩ = some (.slice pb lb cb) ∧ W.cell? ⟨w.heap.size + 1 + 1, 0, none⟩ = some (.bool nc) ∧ W.cell? ⟨w.heap.size + 1 + 1, 1, none⟩ = some (.slice pc lc cc)) ?_
    repeat (first | refine F_s ?_ | refine F_r ?_)
    refine F_num W2 zero (by rfl) (by rfl) (by intro W hW; (try dsimp only at hW); have hwW : W2.heap.size ≤ W.heap.size := (by have hzz := hW; (repeat (first | exact hzz.size | exact hzz.1.size | replace hzz := hzz.1))); go_simp; exact (r02_zero _).mono fun _ _ h => RetN.isN hwW h) ?_; intro n3 p3 l3 c3 hn3; refine F_put ?_
    repeat (first | refine F_s ?_ | refine F_r ?_)
    (refine F_call (v := .int .i64 z) (by rfl) (by rfl) ?_ ?_; (· (intro W hW; (try dsimp only at hW); go_simp; refine (r01_sgn c _ _ _ _ _ _ _ _ _ ((HC.out.ext hx2).ext hW.1.1) hW.2 rc z Z.out).mono ?_; rintro e w' ⟨rfl, hx⟩; exact ⟨_, rfl, rfl, hx⟩))); refine F_put ?_
    repeat (first | refine F_s ?_ | refine F_r ?_)
    rintro W3 ⟨⟨hx, _⟩, _⟩
    go_wp2
    go_ret
    exact ⟨by rw [RES.out, if_pos (.inl Z0.out)]; rfl, Ext.step hx2 hx⟩
  have zb : (z == 0) = false := by simp [z0]
  have Z0 := Lib.hid z0
  clear z0
  by_cases y0 : y = 0
  · have yb : (y == 0) = true := by simp [y0]
    have Y0 := Lib.hid y0
    clear y0
    refine wp_FS (fun W => W.cell? ⟨w.heap.size, 0, none⟩ = some (.bool na) ∧ W.cell? ⟨w.heap.size, 1, none⟩ = some (.slice pa la ca) ∧ W.cell? ⟨w.heap.size + 1, 0, none⟩ = some (.bool nb) ∧ W.cell? ⟨w.heap.size + 1, 1, none⟩ = some (.slice pb lb cb) ∧ W.cell? ⟨w.heap.size + 1 + 1, 0, none⟩ = some (.bool nc) ∧ W.cell? ⟨w.heap.size + 1 + 1, 1, none⟩ = some (.slice pc lc cc)) ?_
    repeat (first | refine F_s ?_ | refine F_r ?_)
    refine F_num W2 zero (by rfl) (by rfl) (by intro W hW; (try dsimp only at hW); have hwW : W2.heap.size ≤ W.heap.size := (by have hzz := hW; (repeat (first | exact hzz.size | exact hzz.1.size | replace hzz := hzz.1))); go_simp; exact (r02_zero _).mono fun _ _ h => RetN.isN hwW h) ?_; intro n3 p3 l3 c3 hn3; refine F_put ?_
    repeat (first | refine F_s ?_ | refine F_r ?_)
    (refine F_call (v := .int .i64 z) (by rfl) (by rfl) ?_ ?_; (· (intro W hW; (try dsimp only at hW); go_simp; refine (r01_sgn c _ _ _ _ _ _ _ _ _ ((HC.out.ext hx2).ext hW.1.1) hW.2 rc z Z.out).mono ?_; rintro e w' ⟨rfl, hx⟩; exact ⟨_, rfl, rfl, hx⟩))); refine F_put ?_
    repeat (first | refine F_s ?_ | refine F_r ?_)
    rintro W3 ⟨⟨hx, _⟩, _⟩
    go_wp2
    go_ret
    exact ⟨by rw [RES.out, if_pos (.inr Y0.out)]; rfl, Ext.step hx2 hx⟩
  have yb : (y == 0) = false := by simp [y0]
  have Y0 := Lib.hid y0
  clear y0
  refine wp_FS (fun W => W.cell? ⟨w.heap.size, 0, none⟩ = some (.bool na) ∧ W.cell? ⟨w.heap.size, 1, none⟩ = some (.slice pa la ca) ∧ W.cell? ⟨w.heap.size + 1, 0, none⟩ = some (.bool nb) ∧ W.cell? ⟨w.heap.size + 1, 1, none⟩ = some (.slice pb lb cb) ∧ W.cell? ⟨w.heap.size + 1 + 1, 0, none⟩ = some (.bool nc) ∧ W.cell? ⟨w.heap.size + 1 + 1, 1, none⟩ = some (.slice pc lc cc)) ?_
  repeat (first | refine F_s ?_ | refine F_r ?_)
  refine F_num W2 zero (by rfl) (by rfl) (by intro W hW; (try dsimp only at hW); have hwW : W2.heap.size ≤ W.heap.size := (by have hzz := hW; (repeat (first | exact hzz.size | exact hzz.1.size | replace hzz := hzz.1))); go_simp; exact (r02_zero _).mono fun _ _ h => RetN.isN hwW h) ?_; intro n3 p3 l3 c3 hn3; refine F_put ?_
  repeat (first | refine F_s ?_ | refine F_r ?_)
  (refine F_call (v := .int .i64 z) (by rfl) (by rfl) ?_ ?_; (· (intro W hW; (try dsimp only at hW); go_simp; refine (r01_sgn c _ _ _ _ _ _ _ _ _ ((HC.out.ext hx2).ext hW.1.1) hW.2 rc z Z.out).mono ?_; rintro e w' ⟨rfl, hx⟩; exact ⟨_, rfl, rfl, hx⟩))); refine F_put ?_
  repeat (first | refine F_s ?_ | refine F_r ?_)
  rintro W3 ⟨⟨hx, hc⟩, _⟩
  have hx3 : Ext w W3 := Ext.step hx2 hx
  have hs3 := hx.size
  clear hx hc2
  have RS : Hid (sideR a.z b.z c.z = if x = 0 ∨ x = y then y else x * r) := Lib.hid (by rw [RES.out, if_neg (fun h => h.elim Z0.out Y0.out)])
  by_cases x0 : x = 0
  · have xb : (x == 0) = true := by simp [x0]
    have X0 := Lib.hid x0
    clear x0
    go_wp2
    go_ret
    exact ⟨by rw [RS.out, if_pos (.inl X0.out)]; rfl, hx3⟩
  have xb : (x == 0) = false := by simp [x0]
  have X0 := Lib.hid x0
  clear x0
  by_cases xy : x = y
  · have xyb : (x == y) = true := by simp [xy]
    have XY := Lib.hid xy
    clear xy
    go_wp2
    go_ret
    exact ⟨by rw [RS.out, if_pos (.inr XY.out)]; rfl, hx3⟩
  have xyb : (x == y) = false := by simp [xy]
  have XY := Lib.hid xy
  clear xy
  obtain ⟨q, Q⟩ : ∃ q, Hid (x * r = q) := ⟨_, rfl⟩
  rw [Q.out] at bq RS
  have hq := Q.out
  obtain ⟨u, U⟩ : ∃ u, Hid (a.z * a.z = u) := ⟨_, rfl⟩
  obtain ⟨v, V⟩ : ∃ u, Hid (b.z * b.z = u) := ⟨_, rfl⟩
  obtain ⟨t, T⟩ : ∃ u, Hid (v * c.z = u) := ⟨_, rfl⟩
  rw [U.out] at S1
  rw [V.out] at S2
  rw [V.out, T.out] at S3
  rw [U.out, V.out, T.out] at R
  go_wp2_with fail
  refine (r02_mul a a u _ _ _ _ _ _ _ _ _ (HA.out.ext bxx) (HA.out.ext bxx) ra ra U.out S1.out).mono ?_
  rintro e W4 ⟨n4, p4, l4, c4, rfl, nr4, _, hx⟩
  have hx4 : Ext W3 W4 := Ext.step bxx hx
  go_upto_region 8 with (fail)
  refine wp_know (fun W => Ext w W ∧ (W.cell? ⟨w.heap.size, 0, none⟩ = some (.bool na) ∧ W.cell? ⟨w.heap.size, 1, none⟩ = some (.slice pa la ca) ∧ W.cell? ⟨w.heap.size + 1, 0, none⟩ = some (.bool nb) ∧ W.cell? ⟨w.heap.size + 1, 1, none⟩ = some (.slice pb lb cb) ∧ W.cell? ⟨w.heap.size + 1 + 1, 0, none⟩ = some (.bool nc) ∧ W.cell? ⟨w.heap.size + 1 + 1, 1, none⟩ = some (.slice pc lc cc) ) ∧ w.heap.size + 3 ≤ W4.heap.size ∧ W4.heap.size < W.heap.size ∧ W.cell? ⟨W4.heap.size, 0, none⟩ = some (.bool n4) ∧ W.cell? ⟨W4.heap.size, 1, none⟩ = some (.slice p4 l4 c4) ∧ NR W n4 p4 l4 c4 (ofZ u)) ?_ ?_
  · obtain ⟨d0, d1, d2, d3, d4, d5⟩ := hc
    have k0 : W4.cell? ⟨w.heap.size, 0, none⟩ = some (.bool na) := (hx4.cell (p := ⟨w.heap.size, 0, none⟩) (show w.heap.size < _ by omega)).trans d0
    have k1 : W4.cell? ⟨w.heap.size, 1, none⟩ = some (.slice pa la ca) := (hx4.cell (p := ⟨w.heap.size, 1, none⟩) (show w.heap.size < _ by omega)).trans d1
    have k2 : W4.cell? ⟨w.heap.size + 1, 0, none⟩ = some (.bool nb) := (hx4.cell (p := ⟨w.heap.size + 1, 0, none⟩) (show w.heap.size + 1 < _ by omega)).trans d2
    have k3 : W4.cell? ⟨w.heap.size + 1, 1, none⟩ = some (.slice pb lb cb) := (hx4.cell (p := ⟨w.heap.size + 1, 1, none⟩) (show w.heap.size + 1 < _ by omega)).trans d3
    have k4 : W4.cell? ⟨w.heap.size + 1 + 1, 0, none⟩ = some (.bool nc) := (hx4.cell (p := ⟨w.heap.size + 1 + 1, 0, none⟩) (show w.heap.size + 1 + 1 < _ by omega)).trans d4
    have k5 : W4.cell? ⟨w.heap.size + 1 + 1, 1, none⟩ = some (.slice pc lc cc) := (hx4.cell (p := ⟨w.heap.size + 1 + 1, 1, none⟩) (show w.heap.size + 1 + 1 < _ by omega)).trans d5
    have hz := hx4.size
    have hl0 : w.heap.size < W4.heap.size := by omega
    have hl1 : w.heap.size + 1 < W4.heap.size := by omega
    have hl2 : w.heap.size + 1 + 1 < W4.heap.size := by omega
    refine ⟨(Ext.step hx3 hx4).alloc (Ext.step hx3 hx4).size _, ⟨?_, ?_, ?_, ?_, ?_, ?_⟩, by omega, by simp, by go_simp, by go_simp, nr4.alloc _⟩ <;> go_simp
  rintro W5 ⟨hx5, ⟨d0, d1, d2, d3, d4, d5⟩, hz4, hz5, e0, e1, nr5⟩
  obtain ⟨g, G⟩ : ∃ g, Hid (W4.heap.size = g) := ⟨_, rfl⟩
  rw [G.out] at hz4 hz5 e0 e1 ⊢
  have NR5 := Lib.hid nr5
  have HBW := Lib.hid (HB.out.ext hx5)
  have HCW := Lib.hid (HC.out.ext hx5)
  clear hx4 nr4 hx hc nr5
  refine wp_KB (W5.heap.size) (fun W => Ext W5 W ∧ W5.heap.size ≤ W.heap.size ∧ W.cell? ⟨w.heap.size, 0, none⟩ = some (.bool na) ∧ W.cell? ⟨w.heap.size, 1, none⟩ = some (.slice pa la ca) ∧ W.cell? ⟨w.heap.size + 1, 0, none⟩ = some (.bool nb) ∧ W.cell? ⟨w.heap.size + 1, 1, none⟩ = some (.slice pb lb cb) ∧ W.cell? ⟨w.heap.size + 1 + 1, 0, none⟩ = some (.bool nc) ∧ W.cell? ⟨w.heap.size + 1 + 1, 1, none⟩ = some (.slice pc lc cc) ∧ W.cell? ⟨g, 0, none⟩ = some (.bool n4) ∧ W.cell? ⟨g, 1, none⟩ = some (.slice p4 l4 c4)) ?_
  intro hKeep
  repeat (first | refine F_s ?_ | refine F_r ?_)
  refine F_num W5 (ofZ v) (by rfl) (by rfl) (by intro W hW; (try dsimp only at hW); have hwW : W5.heap.size ≤ W.heap.size := (by have hzz := hW; (repeat (first | exact hzz.size | exact hzz.1.size | replace hzz := hzz.1))); go_simp; exact (r02_mul b b v _ _ _ _ _ _ _ _ _ (HBW.out.ext hW.1) (HBW.out.ext hW.1) rb rb V.out S2.out).mono fun _ _ h => RetN.isN hwW h) ?_; intro n6 p6 l6 c6 hn6; refine F_put ?_
  repeat (first | refine F_s ?_ | refine F_r ?_)
  refine F_num W5 (ofZ t) (by rfl) (by rfl) (by intro W hW; (try dsimp only at hW); have hwW : W5.heap.size ≤ W.heap.size := (by have hzz := hW; (repeat (first | exact hzz.size | exact hzz.1.size | replace hzz := hzz.1))); go_simp; exact (r02_mul (ofZ v) c t _ _ _ _ _ _ _ _ _ hW.2 (HCW.out.ext hW.1.1) (ofZ_right S2.out) rc (by rw [ofZ_z]; exact T.out) S3.out).mono fun _ _ h => RetN.isN hwW h) ?_; intro n7 p7 l7 c7 hn7; refine F_put ?_
  repeat (first | refine F_s ?_ | refine F_r ?_)
  refine F_al ?_
  intro g2 hg2
  simp only [List.mem_cons, List.mem_range, not_or, Nat.not_lt] at hg2
  repeat (first | refine F_s ?_ | refine F_r ?_)
  refine F_w (fun W => (_ ∧ NR W n6 p6 l6 c6 (ofZ v)) ∧ NR W n7 p7 l7 c7 (ofZ t)) (fun W hW => hW) ?_
  repeat (first | refine F_s ?_ | refine F_r ?_)
  rintro W6 ⟨⟨⟨⟨hS, _⟩, nr7⟩, hg⟩, _⟩
  have vT := VB2.heap hg nr7
  obtain ⟨f0, f1, f2, f3⟩ := vT
  have hx6 : Ext w W6 := Ext.step hx5 hS.1
  have e0' : W6.cell? ⟨g, 0, none⟩ = some (.bool n4) := (hS.1.cell (p := ⟨g, 0, none⟩) hz5).trans e0
  have e1' : W6.cell? ⟨g, 1, none⟩ = some (.slice p4 l4 c4) := (hS.1.cell (p := ⟨g, 1, none⟩) hz5).trans e1
  have NR6 := NR5.out.ext hS.1
  clear hS hg nr7 d0 d1 d2 d3 d4 d5 e0 e1 hKeep hn6 hn7 hx5 HBW HCW NR5
  go_wp2_with fail
  refine (r01_cmp u t _ _ _ _ _ _ _ _ _ (NR6.ext bxx) (f3.ext bxx) S1.out S3.out r R.out).mono ?_
  rintro e W7 ⟨rfl, hx⟩
  have hx7 : Ext w W7 := Ext.step hx6 (Ext.step bxx hx)
  go_wp2
  go_ret
  refine ⟨?_, hx7⟩
  rw [RS.out, if_neg (fun h => h.elim X0.out XY.out)]
  refine congrArg (fun n => Ending.returned (.int .i64 n)) ?_
  first | rfl | exact Q.out | (show _ = _; rw [← hq]) | exact IntWalk.i64_in _ (by omega)
end Go.Proofs.YtmmhiiiaccldmaaGreat

namespace Go.Proofs.YtmmhiiiaccldmaaGreat
open Go.RowKit
attribute [local go_sem] Gives givesU

theorem NRl_of {W : World} {n1 n2 n3 : Bool} {p1 p2 p3 : Option Addr} {l1 c1 l2 c2 l3 c3 g : Nat} {a b c : Nm} {T : TypeId} (hh : W.heap[g]? = some (.cells #[.bool n1, .slice p1 l1 c1, .bool n2, .slice p2 l2 c2, .bool n3, .slice p3 l3 c3] T)) (h1 : NR W n1 p1 l1 c1 a) (h2 : NR W n2 p2 l2 c2 b) (h3 : NR W n3 p3 l3 c3 c) :
    NRl W g [a, b, c] := by
  refine ⟨(Array.getElem?_eq_some_iff.1 hh).1, fun i x hi => ?_⟩
  match i, hi with
  | 0, hi =>
    simp only [List.getElem?_cons_zero, Option.some.injEq] at hi
    subst hi
    exact ⟨n1, p1, l1, c1, by rw [cell_of_row _ _ _ _ _ _ hh]; rfl, by rw [cell_of_row _ _ _ _ _ _ hh]; rfl, h1⟩
  | 1, hi =>
    simp only [List.getElem?_cons_succ, List.getElem?_cons_zero, Option.some.injEq] at hi
    subst hi
    exact ⟨n2, p2, l2, c2, by rw [cell_of_row _ _ _ _ _ _ hh]; rfl, by rw [cell_of_row _ _ _ _ _ _ hh]; rfl, h2⟩
  | 2, hi =>
    simp only [List.getElem?_cons_succ, List.getElem?_cons_zero, Option.some.injEq] at hi
    subst hi
    exact ⟨n3, p3, l3, c3, by rw [cell_of_row _ _ _ _ _ _ hh]; rfl, by rw [cell_of_row _ _ _ _ _ _ hh]; rfl, h3⟩
  | i + 3, hi => simp at hi
theorem z_posS {n : Nm} (h : n.neg = false) : n.z = (val n.d : Int) := by unfold Nm.z; rw [h]; rfl
theorem r02_sideG (a b c : Nm) (v : Int) (na nb nc : Bool) (pa pb pc : Option Addr) (la ca lb cb lc cc : Nat) (w : World) (ha : NR w na pa la ca a) (hb : NR w nb pb lb cb b) (hc : NR w nc pc lc cc c) (ga : goodB a = true) (gb : goodB b = true) (gc : goodB c = true) (hv : sideR a.z b.z c.z = v) :
    Calls Tryz.prog 91 #[.agg #[.bool na, .slice pa la ca], .agg #[.bool nb, .slice pb lb cb], .agg #[.bool nc, .slice pc lc cc]] w fun e w' => e = .returned (.int .i64 v) ∧ Ext w w' := by
  subst hv
  have ra : a.right = true := by simp only [goodB, Bool.and_eq_true] at ga; exact ga.1
  have rb : b.right = true := by simp only [goodB, Bool.and_eq_true] at gb; exact gb.1
  have rc : c.right = true := by simp only [goodB, Bool.and_eq_true] at gc; exact gc.1
  have la := good_lt ha.2.2.dig ga
  have lb := good_lt hb.2.2.dig gb
  have lc := good_lt hc.2.2.dig gc
  exact r02_side a b c _ _ _ _ _ _ _ _ _ _ _ _ w ha hb hc ra rb rc (small_of_lt (mul_lt_pow la la) (by decide)) (small_of_lt (mul_lt_pow lb lb) (by decide)) (small_of_lt (mul_lt_pow (mul_lt_pow lb lb) lc) (by decide))
set_option maxRecDepth 100000 in
set_option maxHeartbeats 4000000 in
theorem r02_Sign (a b c : Nm) (na nb nc : Bool) (pa pb pc : Option Addr) (la ca lb cb lc cc : Nat) (w : World) (ha : NR w na pa la ca a) (hb : NR w nb pb lb cb b) (hc : NR w nc pc lc cc c) :
    Calls Tryz.prog 69 #[.agg #[.bool na, .slice pa la ca], .agg #[.bool nb, .slice pb lb cb], .agg #[.bool nc, .slice pc lc cc]] w fun e w' => e = .returned (.int .i64 (signP a b c)) ∧ Ext w w' := by
  have HA := Lib.hid ha
  have HB := Lib.hid hb
  have HC := Lib.hid hc
  clear ha hb hc
  go_enter Tryz.func69, Tryz.ntmps69
  go_upto_region 1 with (fail)
  refine wp_know (fun W => Ext w W ∧ w.heap.size + 3 ≤ W.heap.size ∧ (W.cell? ⟨w.heap.size, 0, none⟩ = some (.bool na) ∧ W.cell? ⟨w.heap.size, 1, none⟩ = some (.slice pa la ca) ∧ W.cell? ⟨w.heap.size + 1, 0, none⟩ = some (.bool nb) ∧ W.cell? ⟨w.heap.size + 1, 1, none⟩ = some (.slice pb lb cb) ∧ W.cell? ⟨w.heap.size + 1 + 1, 0, none⟩ = some (.bool nc) ∧ W.cell? ⟨w.heap.size + 1 + 1, 1, none⟩ = some (.slice pc lc cc) )) ⟨bxx, by simp, by go_simp⟩ ?_
  rintro W0 ⟨ex0, hs0, d0, d1, d2, d3, d4, d5⟩
  refine wp_KB (W0.heap.size) (fun W => Ext W0 W ∧ W0.heap.size ≤ W.heap.size ∧ W.cell? ⟨w.heap.size, 0, none⟩ = some (.bool na) ∧ W.cell? ⟨w.heap.size, 1, none⟩ = some (.slice pa la ca) ∧ W.cell? ⟨w.heap.size + 1, 0, none⟩ = some (.bool nb) ∧ W.cell? ⟨w.heap.size + 1, 1, none⟩ = some (.slice pb lb cb) ∧ W.cell? ⟨w.heap.size + 1 + 1, 0, none⟩ = some (.bool nc) ∧ W.cell? ⟨w.heap.size + 1 + 1, 1, none⟩ = some (.slice pc lc cc)) ?_
  intro hKeep
  repeat (first | refine F_s ?_ | refine F_r ?_)
  refine F_al ?_
  intro g hg
  simp only [List.mem_cons, List.mem_range, not_or, Nat.not_lt] at hg
  repeat (first | refine F_s ?_ | refine F_r ?_)
  refine F_w (fun W => _) (fun W hW => hW) ?_
  repeat (first | refine F_s ?_ | refine F_r ?_)
  rintro w1 ⟨⟨hS, hgg⟩, _⟩
  have hx1 : Ext w w1 := Ext.step ex0 hS.1
  have NL := NRl_of hgg (HA.out.ext hx1) (HB.out.ext hx1) (HC.out.ext hx1)
  have hsz := hS.1.size
  obtain ⟨_, _, hcs⟩ := hS
  have CS := Lib.hid hcs
  clear hKeep hcs hgg d0 d1 d2 d3 d4 d5 ex0
  have HNL := Lib.hid NL
  have hgl := NL.1
  clear NL
  have hz1 : w.heap.size + 3 ≤ w1.heap.size := by omega
  clear hsz hs0 hg
  go_wp2_with fail
  go_loopw [8] (fun i wr => ∃ k : Nat, k ≤ 3 ∧ i = .int .i64 (k : Int) ∧ (∀ j x, j < k → [a, b, c][j]? = some x → goodB x = true) ∧ Ext w1 wr) (fun i _ => 3 - (intOf i).toNat)
  case atStart => exact ⟨0, by omega, rfl, fun j x hj _ => absurd hj (Nat.not_lt_zero j), Below.refl _ _⟩
  case round =>
    obtain ⟨k, hk, rfl, hgood, hx⟩ := hrel
    have GOOD := Lib.hid hgood
    clear hgood
    have hx2 := Ext.step hx1 hx
    have hzr : w.heap.size + 3 ≤ wr.heap.size := Nat.le_trans hz1 hx.size
    have hgr : g < wr.heap.size := Nat.lt_of_lt_of_le hgl hx.size
    by_cases hlt : k < 3
    · obtain ⟨x, XX⟩ : ∃ x, Hid ([a, b, c][k]? = some x) := ⟨[a, b, c][k], List.getElem?_eq_getElem hlt⟩
      obtain ⟨n, p, l, cp, e0, e1, hnx⟩ := (HNL.out.ext hx).2 k x XX.out
      have hlen := hnx.2.1
      have hlc := hnx.2.2.le
      have hcm := hnx.2.2.max
      have HLEN := Lib.hid hlen
      have hl64 : l ≤ 9223372036854775807 := by omega
      clear hlen
      cases rx : x.right with
      | true =>
        by_cases hl : l ≤ 20
        · have GX : Hid (goodB x = true) := by
            show goodB x = true
            unfold goodB
            rw [rx, ← HLEN.out]
            simpa using hl
          go_wp2_with fail
          refine (r01_Right x _ _ _ _ _ (hnx.ext bxx)).mono ?_
          rintro e w2 ⟨rfl, hx3⟩
          rw [rx]
          have hx4 : Ext wr w2 := Ext.step bxx hx3
          have hx5 : Ext w1 w2 := Ext.step hx hx4
          have q1 : w2.cell? ⟨g, k * 2 + 1, none⟩ = some (.slice p l cp) := (hx4.cell (p := ⟨g, k * 2 + 1, none⟩) hgr).trans e1
          have hg2 : g < w2.heap.size := Nat.lt_of_lt_of_le hgr hx4.size
          go_wp2
          refine ⟨⟨k + 1, by omega, rfl, fun j y hj hy => ?_, hx5⟩, by simp [intOf]; omega⟩
          rcases Nat.lt_or_ge j k with h | h
          · exact GOOD.out j y h hy
          · obtain rfl : j = k := by omega
            rw [XX.out] at hy
            cases hy
            exact GX.out
        · have GX : Hid (signP a b c = 0) := by
            refine signP_bad k x XX.out ?_
            unfold goodB
            rw [rx, ← HLEN.out]
            simpa using hl
          go_wp2_with fail
          refine (r01_Right x _ _ _ _ _ (hnx.ext bxx)).mono ?_
          rintro e w2 ⟨rfl, hx3⟩
          rw [rx]
          have hx4 : Ext wr w2 := Ext.step bxx hx3
          have hx5 : Ext w w2 := Ext.step hx2 hx4
          have q1 : w2.cell? ⟨g, k * 2 + 1, none⟩ = some (.slice p l cp) := (hx4.cell (p := ⟨g, k * 2 + 1, none⟩) hgr).trans e1
          have hg2 : g < w2.heap.size := Nat.lt_of_lt_of_le hgr hx4.size
          go_wp2
          go_ret
          exact ⟨by rw [GX.out]; rfl, hx5⟩
      | false =>
        have GX : Hid (signP a b c = 0) := by
          refine signP_bad k x XX.out ?_
          unfold goodB
          rw [rx]
          rfl
        go_wp2_with fail
        refine (r01_Right x _ _ _ _ _ (hnx.ext bxx)).mono ?_
        rintro e w2 ⟨rfl, hx3⟩
        rw [rx]
        have hx4 : Ext wr w2 := Ext.step bxx hx3
        have hx5 : Ext w w2 := Ext.step hx2 hx4
        go_wp2
        go_ret
        exact ⟨by rw [GX.out]; rfl, hx5⟩
    · obtain rfl : k = 3 := by omega
      have ga : goodB a = true := GOOD.out 0 a (by omega) rfl
      have gb : goodB b = true := GOOD.out 1 b (by omega) rfl
      have gc : goodB c = true := GOOD.out 2 c (by omega) rfl
      obtain ⟨d0, d1, d2, d3, d4, d5⟩ := CS.out
      replace d0 := (hx.cell (p := ⟨w.heap.size, 0, none⟩) (show w.heap.size < w1.heap.size by omega)).trans d0
      replace d1 := (hx.cell (p := ⟨w.heap.size, 1, none⟩) (show w.heap.size < w1.heap.size by omega)).trans d1
      replace d2 := (hx.cell (p := ⟨w.heap.size + 1, 0, none⟩) (show w.heap.size + 1 < w1.heap.size by omega)).trans d2
      replace d3 := (hx.cell (p := ⟨w.heap.size + 1, 1, none⟩) (show w.heap.size + 1 < w1.heap.size by omega)).trans d3
      replace d4 := (hx.cell (p := ⟨w.heap.size + 1 + 1, 0, none⟩) (show w.heap.size + 1 + 1 < w1.heap.size by omega)).trans d4
      replace d5 := (hx.cell (p := ⟨w.heap.size + 1 + 1, 1, none⟩) (show w.heap.size + 1 + 1 < w1.heap.size by omega)).trans d5
      cases hneg : c.neg with
      | true =>
        have S : Hid (signP a b c = 0) := by
          show signP a b c = 0
          simp [signP, hneg]
        have hnc : nc = true := HC.out.1.trans hneg
        subst hnc
        clear hneg
        go_wp2
        go_ret
        exact ⟨by rw [S.out]; rfl, hx2⟩
      | false =>
        have S : Hid (signP a b c = sideR a.z b.z c.z) := by
          show signP a b c = _
          rw [side_eq _ _ _ (by rw [z_posS hneg]; omega)]
          simp [signP, hneg, ga, gb, gc]
        have hnc : nc = false := HC.out.1.trans hneg
        subst hnc
        obtain ⟨v, V⟩ : ∃ v, Hid (sideR a.z b.z c.z = v) := ⟨_, Lib.hid rfl⟩
        rw [V.out] at S
        have SD := Lib.hid (fun W (h : Ext w W) => r02_sideG a b c v _ _ _ _ _ _ _ _ _ _ _ _ W (HA.out.ext h) (HB.out.ext h) (HC.out.ext h) ga gb gc V.out)
        clear hneg ga gb gc
        go_wp2_with fail
        refine (SD.out _ hx2).mono ?_
        rintro e w2 ⟨rfl, hx3⟩
        have hx5 : Ext w w2 := Ext.step hx2 hx3
        go_wp2
        go_ret
        exact ⟨by rw [S.out]; rfl, hx5⟩
end Go.Proofs.YtmmhiiiaccldmaaGreat
