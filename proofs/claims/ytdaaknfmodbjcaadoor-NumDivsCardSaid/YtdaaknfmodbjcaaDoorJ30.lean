/- The walk of the law NumDivs. -/
import Derived.Test.YtdaaknfmodbjcaaDoorJ21
import Derived.Test.YtdaaknfmodbjcaaDoorJ24
import Derived.Test.YtdaaknfmodbjcaaDoorJ25
import Derived.Test.YtdaaknfmodbjcaaDoorJ28
import Derived.Test.YtdaaknfmodbjcaaDoorJ15
import Derived.Test.YtdaaknfmodbjcaaDoorJ29
import Derived.Test.YtdaaknfmodbjcaaDoorJ08
import Derived.Great.BuildSlice
import Derived.Deep.DeepCutAuto
set_option linter.unusedVariables false
set_option linter.unusedSimpArgs false

namespace Go.Proofs.YtdaaknfmodbjcaaDoor
open Go.RowKit
attribute [local go_sem] Gives givesU

theorem run_minD {P : Program} {w : World} (ts : Array TypeId) (t : TypeId) (x y : Int) : (Builtin.min_ ts t #[.int .i64 x, .int .i64 y]).run P w = .ok (.int .i64 (min x y)) w := by
  have h : (Builtin.min_ ts t #[.int .i64 x, .int .i64 y]).run P w = .ok (.int .i64 (if y < x then y else x)) w := by
    simp [Builtin.min_, Builtin.min2]
  rw [h]
  congr 2
  split <;> omega
theorem cut_run (p : Option Addr) (l c k : Nat) (w : World) (h : k ≤ c) : (Instr.slice 24 (.slice p l c) none (some (.int .i64 (k : Int))) none).run Tryd.prog w = .ok (.slice p k c) w := by
  have hu := Tryd.underlying24
  cases p with
  | none => go_simp
  | some a => cases a; go_simp
/-- A number's first digits. -/
theorem NR.cut {w : World} {n : Bool} {p : Option Addr} {l c : Nat} {X : Nm} (h : NR w n p l c X) (k : Nat) (hk : k ≤ l) : NR w n p k c ⟨X.neg, X.d.take k⟩ :=
  ⟨h.1, by simp only [List.length_take]; have := h.2.1; omega, h.2.2.take k (by have := h.2.1; omega)⟩
def IsMk (W : World) (v : Value) (w' : World) : Prop := ∃ g p l c X, v = .agg #[.bool g, .slice p l c] ∧ NR w' g p l c X ∧ (X.right = true ∧ X.d.length ≤ 6) ∧ Ext W w'
theorem RetMk.isMk {W : World} {e : Ending} {w' : World} (h : RetMk W 6 e w') : ∃ v, e = .returned v ∧ IsMk W v w' := by
  obtain ⟨g, p, l, c, X, rfl, h1, h2, h3, h4⟩ := h
  exact ⟨_, rfl, g, p, l, c, X, rfl, h1, ⟨h2, h3⟩, h4⟩
section
variable {ops : Array Oper} {S : World → Prop} {Q : Act → World → Prop} {o : Oper} {l : List Oper} {a : Act} {own : List Nat} {F : World → Prop}
theorem F_made {P : Program} (hk : fkind o = 2) (hw : Region.wanted o (yielded ops a.tmps) = true) (hg : ∀ w, F w → Gives P o a w (IsMk w))
    (h : ∀ g p l' c X, (X.right = true ∧ X.d.length ≤ 6) → WpF P ops S Q l (a.put o.dst (.agg #[.bool g, .slice p l' c])) own (fun w => F w ∧ NR w g p l' c X)) : WpF P ops S Q (o :: l) a own F := by
  refine F_callE (I := Bool × Option Addr × Nat × Nat × Nm) (fun t => .agg #[.bool t.1, .slice t.2.1 t.2.2.1 t.2.2.2.1]) (fun t w => (t.2.2.2.2.right = true ∧ t.2.2.2.2.d.length ≤ 6) ∧ NR w t.1 t.2.1 t.2.2.1 t.2.2.2.1 t.2.2.2.2) (fun t w w' h hb => ⟨h.1, h.2.ext hb⟩) hk hw (fun w hf => ?_) ?_
  · refine (hg w hf).imp ?_
    rintro v w' ⟨g, p, l, c, X, rfl, h1, h2, h3⟩
    exact ⟨(g, p, l, c, X), rfl, h3, h2, h1⟩
  · rintro ⟨g, p, l', c, X⟩ ⟨w, hf, hx, hr⟩
    have e : (fun w => F w ∧ (X.right = true ∧ X.d.length ≤ 6) ∧ NR w g p l' c X) = (fun w => F w ∧ NR w g p l' c X) := by
      funext w; exact propext ⟨fun ⟨a, _, b⟩ => ⟨a, b⟩, fun ⟨a, b⟩ => ⟨a, hx, b⟩⟩
    have := h g p l' c X hx
    rw [← e] at this
    exact this
theorem infoPair : (Tryd.prog.info? 29).map (fun i => (i.zero, i.size, i.bytes)) = some (some (.agg #[.bool false, .slice none 0 0, .bool false, .slice none 0 0]), 4, 64) := by kernel_rfl
theorem info_partsP {P : Program} {t : TypeId} {z : Value} {s b : Nat} (h : (P.info? t).map (fun i => (i.zero, i.size, i.bytes)) = some (some z, s, b)) : ∃ i, P.info? t = some i ∧ i.zero = some z ∧ i.size = s ∧ i.bytes = b := by
  cases hi : P.info? t with
  | none => rw [hi] at h; cases h
  | some i =>
    rw [hi] at h
    simp only [Option.map_some, Option.some.injEq, Prod.mk.injEq] at h
    exact ⟨i, rfl, h.1, h.2.1, h.2.2⟩
theorem fill3 (n1 n2 m1 m2 k1 k2 : Bool) (p1 p2 q1 q2 r1 r2 : Option Addr) (l1 c1 l2 c2 i1 d1 i2 d2 j1 e1 j2 e2 : Nat) : Instr.fill (fun i => some (i * 4, 4)) ((Array.range (3 * 4)).map ((.agg #[.bool false, .slice none 0 0, .bool false, .slice none 0 0] : Value).cells[· % (.agg #[.bool false, .slice none 0 0, .bool false, .slice none 0 0] : Value).cells.size]!)) [(0, .agg #[.bool n1, .slice p1 l1 c1, .bool n2, .slice p2 l2 c2]), (1, .agg #[.bool m1, .slice q1 i1 d1, .bool m2, .slice q2 i2 d2]), (2, .agg #[.bool k1, .slice r1 j1 e1, .bool k2, .slice r2 j2 e2])] = some #[.bool n1, .slice p1 l1 c1, .bool n2, .slice p2 l2 c2, .bool m1, .slice q1 i1 d1, .bool m2, .slice q2 i2 d2, .bool k1, .slice r1 j1 e1, .bool k2, .slice r2 j2 e2] := by kernel_rfl
/-- A slice literal of three pairs. -/
theorem F_build3 (x y z : Operand) (ho : o.op = .buildSlice 30 3 #[(0, x), (1, y), (2, z)]) (hk : fkind o = 2) (hw : Region.wanted o (yielded ops a.tmps) = true)
    (n1 n2 m1 m2 k1 k2 : Bool) (p1 p2 q1 q2 r1 r2 : Option Addr) (l1 c1 l2 c2 i1 d1 i2 d2 j1 e1 j2 e2 : Nat)
    (hx : a.eval x = .agg #[.bool n1, .slice p1 l1 c1, .bool n2, .slice p2 l2 c2]) (hy : a.eval y = .agg #[.bool m1, .slice q1 i1 d1, .bool m2, .slice q2 i2 d2]) (hz : a.eval z = .agg #[.bool k1, .slice r1 j1 e1, .bool k2, .slice r2 j2 e2])
    (h : ∀ g, WpF Tryd.prog ops S Q l (a.put o.dst (.slice (some ⟨g, 0, none⟩) 3 3)) own (fun w => F w ∧ w.heap[g]? = some (.cells #[.bool n1, .slice p1 l1 c1, .bool n2, .slice p2 l2 c2, .bool m1, .slice q1 i1 d1, .bool m2, .slice q2 i2 d2, .bool k1, .slice r1 j1 e1, .bool k2, .slice r2 j2 e2] 29))) : WpF Tryd.prog ops S Q (o :: l) a own F := by
  obtain ⟨i, hi, hz0, hz1, hz2⟩ := info_partsP infoPair
  refine F_callE (I := Nat) (fun g => .slice (some ⟨g, 0, none⟩) 3 3) (fun g w => w.heap[g]? = some (.cells #[.bool n1, .slice p1 l1 c1, .bool n2, .slice p2 l2 c2, .bool m1, .slice q1 i1 d1, .bool m2, .slice q2 i2 d2, .bool k1, .slice r1 j1 e1, .bool k2, .slice r2 j2 e2] 29)) (fun g => fmono_obj _ _) hk hw (fun w hf => ?_) (fun g _ => h g)
  have e : (execOp a.eval o).run Tryd.prog w = .ok (.value (.slice (some ⟨w.heap.size, 0, none⟩) 3 3)) (w.alloc (.cells #[.bool n1, .slice p1 l1 c1, .bool n2, .slice p2 l2 c2, .bool m1, .slice q1 i1 d1, .bool m2, .slice q2 i2 d2, .bool k1, .slice r1 j1 e1, .bool k2, .slice r2 j2 e2] 29)) := by
    unfold execOp
    simp only [ho, Sem.run_bind]
    rw [run_buildSlice w 30 29 3 _ i _ (by kernel_rfl) hi hz0 (by rw [hz1]; omega) (by rw [hz1]; omega) (cells := #[.bool n1, .slice p1 l1 c1, .bool n2, .slice p2 l2 c2, .bool m1, .slice q1 i1 d1, .bool m2, .slice q2 i2 d2, .bool k1, .slice r1 j1 e1, .bool k2, .slice r2 j2 e2]) (by rw [hz1]; simp only [List.map_toArray, List.map_cons, List.map_nil, hx, hy, hz]; exact fill3 _ _ _ _ _ _ _ _ _ _ _ _ _ _ _ _ _ _ _ _ _ _ _ _)]
    rfl
  unfold Gives
  rw [e]
  exact ⟨w.heap.size, rfl, by (repeat (first | exact Below.refl _ _ | assumption | refine Below.drewN ?_ _ | refine Below.drew ?_ | refine Below.setCell ?_ (by first | exact Nat.le_refl _ | (simp; done) | (simp; omega) | omega) _ | refine Below.alloc ?_ (by first | exact Nat.le_refl _ | (simp; done) | (simp; omega) | omega) _)), heap_alloc_new _ _⟩
end
/-- What a pair is: two numbers, each of at most 12 digits. -/
def PairAt (w : World) (g k : Nat) : Prop := ∃ (n m : Bool) (p q : Option Addr) (l c i d : Nat) (X Y : Nm),
  w.cell? ⟨g, k * 4, none⟩ = some (.bool n) ∧ w.cell? ⟨g, k * 4 + 1, none⟩ = some (.slice p l c) ∧ w.cell? ⟨g, k * 4 + 2, none⟩ = some (.bool m) ∧ w.cell? ⟨g, k * 4 + 3, none⟩ = some (.slice q i d) ∧
  NR w n p l c X ∧ NR w m q i d Y ∧ Y.d.length ≤ 12 ∧ g < w.heap.size
theorem PairAt.ext {w w' : World} {g k : Nat} (h : PairAt w g k) (hx : Ext w w') : PairAt w' g k := by
  obtain ⟨n, m, p, q, l, c, i, d, X, Y, h1, h2, h3, h4, h5, h6, h7, h8⟩ := h
  have hc : ∀ o, w'.cell? ⟨g, o, none⟩ = w.cell? ⟨g, o, none⟩ := fun o => hx.cell (p := ⟨g, o, none⟩) h8
  exact ⟨n, m, p, q, l, c, i, d, X, Y, by rw [hc]; exact h1, by rw [hc]; exact h2, by rw [hc]; exact h3, by rw [hc]; exact h4, h5.ext hx, h6.ext hx, h7, Nat.lt_of_lt_of_le h8 hx.size⟩
theorem pairs_of {w : World} {g : Nat} {n1 n2 m1 m2 k1 k2 : Bool} {p1 p2 q1 q2 r1 r2 : Option Addr} {l1 c1 l2 c2 i1 d1 i2 d2 j1 e1 j2 e2 : Nat} {X1 X2 Y1 Y2 Z1 Z2 : Nm} {T : TypeId}
    (h : w.heap[g]? = some (.cells #[.bool n1, .slice p1 l1 c1, .bool n2, .slice p2 l2 c2, .bool m1, .slice q1 i1 d1, .bool m2, .slice q2 i2 d2, .bool k1, .slice r1 j1 e1, .bool k2, .slice r2 j2 e2] T))
    (h1 : NR w n1 p1 l1 c1 X1) (h2 : NR w n2 p2 l2 c2 X2) (h3 : NR w m1 q1 i1 d1 Y1) (h4 : NR w m2 q2 i2 d2 Y2) (h5 : NR w k1 r1 j1 e1 Z1) (h6 : NR w k2 r2 j2 e2 Z2)
    (b1 : X2.d.length ≤ 12) (b2 : Y2.d.length ≤ 12) (b3 : Z2.d.length ≤ 12) : ∀ k, k < 3 → PairAt w g k := by
  have hg : g < w.heap.size := (Array.getElem?_eq_some_iff.1 h).1
  have hc : ∀ j v, (#[Value.bool n1, .slice p1 l1 c1, .bool n2, .slice p2 l2 c2, .bool m1, .slice q1 i1 d1, .bool m2, .slice q2 i2 d2, .bool k1, .slice r1 j1 e1, .bool k2, .slice r2 j2 e2])[j]? = some v → w.cell? ⟨g, j, none⟩ = some v := by
    intro j v hv
    simp [World.cell?, h, hv]
  intro k hk
  rcases (show k = 0 ∨ k = 1 ∨ k = 2 by omega) with rfl | rfl | rfl
  · exact ⟨n1, n2, p1, p2, l1, c1, l2, c2, X1, X2, hc 0 _ rfl, hc 1 _ rfl, hc 2 _ rfl, hc 3 _ rfl, h1, h2, b1, hg⟩
  · exact ⟨m1, m2, q1, q2, i1, d1, i2, d2, Y1, Y2, hc 4 _ rfl, hc 5 _ rfl, hc 6 _ rfl, hc 7 _ rfl, h3, h4, b2, hg⟩
  · exact ⟨k1, k2, r1, r2, j1, e1, j2, e2, Z1, Z2, hc 8 _ rfl, hc 9 _ rfl, hc 10 _ rfl, hc 11 _ rfl, h5, h6, b3, hg⟩

/-- A variable of two numbers. -/
def PB (W : World) (g : Nat) (n : Bool) (p : Option Addr) (l c : Nat) (X : Nm) (m : Bool) (q : Option Addr) (i d : Nat) (Y : Nm) : Prop :=
  g < W.heap.size ∧ W.cell? ⟨g, 0, none⟩ = some (.bool n) ∧ W.cell? ⟨g, 1, none⟩ = some (.slice p l c) ∧ W.cell? ⟨g, 2, none⟩ = some (.bool m) ∧ W.cell? ⟨g, 3, none⟩ = some (.slice q i d) ∧ NR W n p l c X ∧ NR W m q i d Y
theorem PB.ext {W W' : World} {g : Nat} {n : Bool} {p : Option Addr} {l c : Nat} {X : Nm} {m : Bool} {q : Option Addr} {i d : Nat} {Y : Nm} (h : PB W g n p l c X m q i d Y) (hx : Ext W W') : PB W' g n p l c X m q i d Y := by
  obtain ⟨h0, h1, h2, h3, h4, h5, h6⟩ := h
  have hc : ∀ o, W'.cell? ⟨g, o, none⟩ = W.cell? ⟨g, o, none⟩ := fun o => hx.cell (p := ⟨g, o, none⟩) h0
  exact ⟨Nat.lt_of_lt_of_le h0 hx.size, by rw [hc]; exact h1, by rw [hc]; exact h2, by rw [hc]; exact h3, by rw [hc]; exact h4, h5.ext hx, h6.ext hx⟩
theorem PB.new {w w' : World} {n : Bool} {p : Option Addr} {l c : Nat} {X : Nm} {m : Bool} {q : Option Addr} {i d : Nat} {Y : Nm} {T : TypeId} (h : NR w n p l c X) (h2 : NR w m q i d Y) (hx : Ext (w.alloc (.cells #[.bool n, .slice p l c, .bool m, .slice q i d] T)) w') :
    PB w' w.heap.size n p l c X m q i d Y := by
  have hh := heap_alloc_new w (.cells #[.bool n, .slice p l c, .bool m, .slice q i d] T)
  exact PB.ext ⟨by simp, by rw [cell_of_row _ _ _ _ _ _ hh]; rfl, by rw [cell_of_row _ _ _ _ _ _ hh]; rfl, by rw [cell_of_row _ _ _ _ _ _ hh]; rfl, by rw [cell_of_row _ _ _ _ _ _ hh]; rfl, h.alloc _, h2.alloc _⟩ hx
theorem rdiv_all (a b : Nm) (r : Nm × Nm × Bool) (na nb : Bool) (pa pb : Option Addr) (la ca lb cb : Nat) (w : World) (ha : NR w na pa la ca a) (hb : NR w nb pb lb cb b) (h : divP a b = r) :
    Calls Tryd.prog 12 #[.agg #[.bool na, .slice pa la ca], .agg #[.bool nb, .slice pb lb cb]] w (RetDiv w r) := h ▸ r01_Div a b na nb pa pb la ca lb cb w ha hb
theorem gcd_len (a b : Nm) (r : Nm × Bool) (na nb : Bool) (pa pb : Option Addr) (la ca lb cb : Nat) (w : World) (ha : NR w na pa la ca a) (hb : NR w nb pb lb cb b) (hl : b.d.length ≤ 12) (h : gcdP a b = r) :
    Calls Tryd.prog 13 #[.agg #[.bool na, .slice pa la ca], .agg #[.bool nb, .slice pb lb cb]] w (RetNum w r) := h ▸ num_Gcd a b na nb pa pb la ca lb cb w ha hb 64 (by omega) divOn_all
theorem rgcd_all (a b : Nm) (r : Nm × Bool) (na nb : Bool) (pa pb : Option Addr) (la ca lb cb : Nat) (w : World) (ha : NR w na pa la ca a) (hb : NR w nb pb lb cb b) (h : gcdP a b = r) :
    Calls Tryd.prog 14 #[.agg #[.bool na, .slice pa la ca], .agg #[.bool nb, .slice pb lb cb]] w (RetNum w r) := h ▸ r01_Gcd a b na nb pa pb la ca lb cb w ha hb

set_option maxRecDepth 100000 in
set_option maxHeartbeats 16000000 in
theorem Divs_core (p0 : Option Addr) (l0 c0 : Nat) (p1 : Option Addr) (l1 c1 : Nat) (a b : Nm) (na nb : Bool) (pa pb : Option Addr) (la ca lb cb : Nat) (w : World) (i0 : Ints w p0 l0 c0) (i1 : Ints w p1 l1 c1)
    (ha : NR w na pa la ca a) (hb : NR w nb pb lb cb b) (ht : Tab w) :
    Calls Tryd.prog 3 #[.agg #[.slice p0 l0 c0, .slice p1 l1 c1], .agg #[.bool na, .slice pa la ca], .agg #[.bool nb, .slice pb lb cb]] w fun e w' => e = .returned (.bool true) ∧ Ext w w' := by
  have TB := Lib.hid ht
  have Ia := Lib.hid i0
  have Ib := Lib.hid i1
  obtain ⟨ka, KA⟩ : ∃ k : Nat, min (la : Int) 12 = (k : Int) := ⟨min la 12, by omega⟩
  obtain ⟨kb, KB⟩ : ∃ k : Nat, min (lb : Int) 12 = (k : Int) := ⟨min lb 12, by omega⟩
  have NA := Lib.hid (ha.cut ka (by omega))
  have NB := Lib.hid (hb.cut kb (by omega))
  have LB : (Nm.mk b.neg (b.d.take kb)).d.length ≤ 12 := by simp only [List.length_take]; omega
  have hca : ka ≤ ca := by have := ha.2.2.le; have := ha.2.1; omega
  have hcb : kb ≤ cb := by have := hb.2.2.le; have := hb.2.1; omega
  have hsa := fun w => cut_run pa la ca ka w hca
  have hsb := fun w => cut_run pb lb cb kb w hcb
  have hmin := @run_minD Tryd.prog
  obtain ⟨XA, HXA⟩ : ∃ x, Hid (Nm.mk a.neg (a.d.take ka) = x) := ⟨_, rfl⟩
  obtain ⟨XB, HXB⟩ : ∃ x, Hid (Nm.mk b.neg (b.d.take kb) = x) := ⟨_, rfl⟩
  rw [HXA.out] at NA
  rw [HXB.out] at NB LB
  have LBH := Lib.hid LB
  clear ht i0 i1 ha hb hca hcb LB
  go_enter Tryd.func3, Tryd.ntmps3
  go_wp2_with fail
  refine (law_sanity1 _ (TB.out.ext (by (repeat (first | exact Below.refl _ _ | assumption | refine Below.drewN ?_ _ | refine Below.drew ?_ | refine Below.setCell ?_ (by first | exact Nat.le_refl _ | (simp; done) | (simp; omega) | omega) _ | refine Below.alloc ?_ (by first | exact Nat.le_refl _ | (simp; done) | (simp; omega) | omega) _))))).mono ?_
  rintro e w1 ⟨rfl, hx⟩
  have hx0 : Ext w w1 := Ext.step (by (repeat (first | exact Below.refl _ _ | assumption | refine Below.drewN ?_ _ | refine Below.drew ?_ | refine Below.setCell ?_ (by first | exact Nat.le_refl _ | (simp; done) | (simp; omega) | omega) _ | refine Below.alloc ?_ (by first | exact Nat.le_refl _ | (simp; done) | (simp; omega) | omega) _))) hx
  have hs0 := hx0.size
  have hz_w1 : w.heap.size + 3 ≤ w1.heap.size := Nat.le_trans (by first | omega | (simp; done) | (simp; omega)) hx.size
  have hl_w1_0 : w.heap.size < w1.heap.size := Nat.lt_of_lt_of_le (by omega) hz_w1
  have hk_w1_0 : ∀ o, w1.cell? ⟨w.heap.size, o, none⟩ = _ := fun o => hx.cell (p := ⟨w.heap.size, o, none⟩) (show w.heap.size < _ from (by first | omega | (simp; done) | (simp; omega)))
  have hf_w1_0 : ∀ o, w1.frozen? ⟨w.heap.size, o, none⟩ = _ := fun o => hx.frozen (p := ⟨w.heap.size, o, none⟩) (show w.heap.size < _ from (by first | omega | (simp; done) | (simp; omega)))
  have hl_w1_1 : w.heap.size + 1 < w1.heap.size := Nat.lt_of_lt_of_le (by omega) hz_w1
  have hk_w1_1 : ∀ o, w1.cell? ⟨w.heap.size + 1, o, none⟩ = _ := fun o => hx.cell (p := ⟨w.heap.size + 1, o, none⟩) (show w.heap.size + 1 < _ from (by first | omega | (simp; done) | (simp; omega)))
  have hf_w1_1 : ∀ o, w1.frozen? ⟨w.heap.size + 1, o, none⟩ = _ := fun o => hx.frozen (p := ⟨w.heap.size + 1, o, none⟩) (show w.heap.size + 1 < _ from (by first | omega | (simp; done) | (simp; omega)))
  have hl_w1_2 : w.heap.size + 2 < w1.heap.size := Nat.lt_of_lt_of_le (by omega) hz_w1
  have hk_w1_2 : ∀ o, w1.cell? ⟨w.heap.size + 2, o, none⟩ = _ := fun o => hx.cell (p := ⟨w.heap.size + 2, o, none⟩) (show w.heap.size + 2 < _ from (by first | omega | (simp; done) | (simp; omega)))
  have hf_w1_2 : ∀ o, w1.frozen? ⟨w.heap.size + 2, o, none⟩ = _ := fun o => hx.frozen (p := ⟨w.heap.size + 2, o, none⟩) (show w.heap.size + 2 < _ from (by first | omega | (simp; done) | (simp; omega)))
  clear hx
  have c0' : w1.cell? ⟨w.heap.size, 0, none⟩ = some (.slice p0 l0 c0) := by go_simp
  have c1' : w1.cell? ⟨w.heap.size, 1, none⟩ = some (.slice p1 l1 c1) := by go_simp
  have c2' : w1.cell? ⟨w.heap.size + 1, 0, none⟩ = some (.bool na) := by go_simp
  have c3' : w1.cell? ⟨w.heap.size + 1, 1, none⟩ = some (.slice pa la ca) := by go_simp
  have c4' : w1.cell? ⟨w.heap.size + 2, 0, none⟩ = some (.bool nb) := by go_simp
  have c5' : w1.cell? ⟨w.heap.size + 2, 1, none⟩ = some (.slice pb lb cb) := by go_simp
  have f1 : ∀ o, w1.frozen? ⟨w.heap.size + 1, o, none⟩ = false := by intro o; go_simp
  have f2 : ∀ o, w1.frozen? ⟨w.heap.size + 2, o, none⟩ = false := by intro o; go_simp
  clear hk_w1_0 hk_w1_1 hk_w1_2 hf_w1_0 hf_w1_1 hf_w1_2
  go_wp2_with fail
  refine wp_region_Q 17 (fun o => match o.dst with | some d => [22, 24].contains d | none => false) (fun W => Ext w W ∧ w1.heap.size ≤ W.heap.size ∧ W.cell? ⟨w.heap.size, 0, none⟩ = some (.slice p0 l0 c0) ∧ W.cell? ⟨w.heap.size, 1, none⟩ = some (.slice p1 l1 c1) ∧ W.cell? ⟨w.heap.size + 1 + 1, 0, none⟩ = some (.bool nb) ∧ W.cell? ⟨w.heap.size + 1 + 1, 1, none⟩ = some (.slice pb lb cb) ∧ (∀ o, W.frozen? ⟨w.heap.size + 1 + 1, o, none⟩ = false)) (fun W => (Ext w W ∧ w1.heap.size ≤ W.heap.size ∧ W.cell? ⟨w.heap.size, 0, none⟩ = some (.slice p0 l0 c0) ∧ W.cell? ⟨w.heap.size, 1, none⟩ = some (.slice p1 l1 c1) ∧ W.cell? ⟨w.heap.size + 1 + 1, 0, none⟩ = some (.bool nb) ∧ W.cell? ⟨w.heap.size + 1 + 1, 1, none⟩ = some (.slice pb lb cb) ∧ (∀ o, W.frozen? ⟨w.heap.size + 1 + 1, o, none⟩ = false)) ∧ W.cell? ⟨w.heap.size + 1, 0, none⟩ = some (.bool na) ∧ W.cell? ⟨w.heap.size + 1, 1, none⟩ = some (.slice pa la ca) ∧ (∀ o, W.frozen? ⟨w.heap.size + 1, o, none⟩ = false)) (by kernel_rfl) (by kernel_rfl) (by kernel_rfl) (by kernel_rfl) ?_ ?_ (fun _ h => h.1) ?_ ?_
  · refine ⟨⟨by (repeat (first | exact Below.refl _ _ | assumption | refine Below.drewN ?_ _ | refine Below.drew ?_ | refine Below.setCell ?_ (by first | exact Nat.le_refl _ | (simp; done) | (simp; omega) | omega) _ | refine Below.alloc ?_ (by first | exact Nat.le_refl _ | (simp; done) | (simp; omega) | omega) _)), by first | omega | (simp; done) | (simp; omega), ?_⟩, ?_⟩ <;> (try go_simp)
  · (intro W W' h hb; obtain ⟨⟨hx, hz, hc⟩, hr⟩ := h; have hbc : ∀ b o, b < W.heap.size → W'.cell? ⟨b, o, none⟩ = W.cell? ⟨b, o, none⟩ := fun b o h => hb.cell (p := ⟨b, o, none⟩) h; have hbf : ∀ b o, b < W.heap.size → W'.frozen? ⟨b, o, none⟩ = W.frozen? ⟨b, o, none⟩ := fun b o h => hb.frozen (p := ⟨b, o, none⟩) h; refine ⟨⟨hx.step hb, Nat.le_trans hz hb.size, ?_⟩, ?_⟩ <;> (simp (disch := omega) only [hbc, hbf]; assumption))
  · (intro W h; have h2 := h.1.2.1; first | omega | (simp; omega))
  simp only [List.take_succ_cons, List.take_zero, List.drop_succ_cons, List.drop_zero]
  repeat (first | (refine Q_skip (by rfl) (by rfl) ?_; simp only [Act.put, List.setIfInBounds_toArray, List.set_cons_zero, List.set_cons_succ]) | (refine Q_run (v := ?_) (by rfl) (by rfl) ?_ ?_; rotate_left; (· (intro W hW; (try dsimp only at hW); go_simp; try with_reducible rfl)); simp only [Act.put, List.setIfInBounds_toArray, List.set_cons_zero, List.set_cons_succ]) | (refine Q_read (v := ?_) (by rfl) (by rfl) ?_ ?_; rotate_left; (· (intro W hW; (try dsimp only at hW); go_simp; try with_reducible rfl)); simp only [Act.put, List.setIfInBounds_toArray, List.set_cons_zero, List.set_cons_succ]))
  refine Q_store (fun W => (Ext w W ∧ w1.heap.size ≤ W.heap.size ∧ W.cell? ⟨w.heap.size, 0, none⟩ = some (.slice p0 l0 c0) ∧ W.cell? ⟨w.heap.size, 1, none⟩ = some (.slice p1 l1 c1) ∧ W.cell? ⟨w.heap.size + 1 + 1, 0, none⟩ = some (.bool nb) ∧ W.cell? ⟨w.heap.size + 1 + 1, 1, none⟩ = some (.slice pb lb cb) ∧ (∀ o, W.frozen? ⟨w.heap.size + 1 + 1, o, none⟩ = false)) ∧ W.cell? ⟨w.heap.size + 1, 0, none⟩ = some (.bool na) ∧ W.cell? ⟨w.heap.size + 1, 1, none⟩ = some (.slice pa ka ca) ∧ (∀ o, W.frozen? ⟨w.heap.size + 1, o, none⟩ = false)) ?_ (fun _ h => h.1) (by rfl) (by rfl) (by rfl) ?_ ?_
  · (intro W W' h hb; obtain ⟨⟨hx, hz, hc⟩, hr⟩ := h; have hbc : ∀ b o, b < W.heap.size → W'.cell? ⟨b, o, none⟩ = W.cell? ⟨b, o, none⟩ := fun b o h => hb.cell (p := ⟨b, o, none⟩) h; have hbf : ∀ b o, b < W.heap.size → W'.frozen? ⟨b, o, none⟩ = W.frozen? ⟨b, o, none⟩ := fun b o h => hb.frozen (p := ⟨b, o, none⟩) h; refine ⟨⟨hx.step hb, Nat.le_trans hz hb.size, ?_⟩, ?_⟩ <;> (simp (disch := omega) only [hbc, hbf]; assumption))
  · (intro W hW; obtain ⟨⟨hx, hz, hc⟩, hr⟩ := hW; go_simp; (try dsimp only); (repeat' apply And.intro) <;> first | with_reducible assumption | (go_simp; done) | ((repeat (refine Below.setCell ?_ (by first | exact Nat.le_refl _ | exact Nat.le_succ _ | (dsimp only; omega) | omega) _)); exact hx) | omega | (simp; done) | (simp; omega))
  simp only [Act.put, List.setIfInBounds_toArray, List.set_cons_zero, List.set_cons_succ]
  repeat (first | (refine Q_skip (by rfl) (by rfl) ?_; simp only [Act.put, List.setIfInBounds_toArray, List.set_cons_zero, List.set_cons_succ]) | (refine Q_run (v := ?_) (by rfl) (by rfl) ?_ ?_; rotate_left; (· (intro W hW; (try dsimp only at hW); go_simp; try with_reducible rfl)); simp only [Act.put, List.setIfInBounds_toArray, List.set_cons_zero, List.set_cons_succ]) | (refine Q_read (v := ?_) (by rfl) (by rfl) ?_ ?_; rotate_left; (· (intro W hW; (try dsimp only at hW); go_simp; try with_reducible rfl)); simp only [Act.put, List.setIfInBounds_toArray, List.set_cons_zero, List.set_cons_succ]))
  refine Q_done ?_
  refine F_store (fun W => Ext w W ∧ w1.heap.size ≤ W.heap.size ∧ W.cell? ⟨w.heap.size, 0, none⟩ = some (.slice p0 l0 c0) ∧ W.cell? ⟨w.heap.size, 1, none⟩ = some (.slice p1 l1 c1) ∧ W.cell? ⟨w.heap.size + 1, 0, none⟩ = some (.bool na) ∧ W.cell? ⟨w.heap.size + 1, 1, none⟩ = some (.slice pa ka ca) ∧ W.cell? ⟨w.heap.size + 1 + 1, 0, none⟩ = some (.bool nb) ∧ W.cell? ⟨w.heap.size + 1 + 1, 1, none⟩ = some (.slice pb kb cb)) ?_ (fun _ _ => trivial) (by rfl) (by rfl) ?_ ?_
  · (intro W W' h hb; obtain ⟨hx, hz, hc⟩ := h; have hbc : ∀ b o, b < W.heap.size → W'.cell? ⟨b, o, none⟩ = W.cell? ⟨b, o, none⟩ := fun b o h => hb.cell (p := ⟨b, o, none⟩) h; have hbf : ∀ b o, b < W.heap.size → W'.frozen? ⟨b, o, none⟩ = W.frozen? ⟨b, o, none⟩ := fun b o h => hb.frozen (p := ⟨b, o, none⟩) h; refine ⟨hx.step hb, Nat.le_trans hz hb.size, ?_⟩; simp (disch := omega) only [hbc, hbf]; exact hc)
  · (intro W hW; obtain ⟨⟨⟨hx, hz, hc⟩, hr⟩, _⟩ := hW; go_simp; (try dsimp only); (repeat' apply And.intro) <;> first | with_reducible assumption | (go_simp; done) | ((repeat (refine Below.setCell ?_ (by first | exact Nat.le_refl _ | exact Nat.le_succ _ | (dsimp only; omega) | omega) _)); exact hx) | omega | (simp; done) | (simp; omega))
  simp only [Act.put, List.setIfInBounds_toArray, List.set_cons_zero, List.set_cons_succ]
  rintro W2 ⟨⟨hxw, hs2, u0, u1, v0, v1, t0, t1⟩, _⟩
  clear c0' c1' c2' c3' c4' c5' f1 f2
  have hl20 : w.heap.size < W2.heap.size := by omega
  have hl21 : w.heap.size + 1 < W2.heap.size := by omega
  have hl22 : w.heap.size + 2 < W2.heap.size := by omega
  have EX2 := Lib.hid hxw
  have NA2 := Lib.hid (NA.out.ext hxw)
  have NB2 := Lib.hid (NB.out.ext hxw)
  have MA := Lib.hid (fun W (h : Ext W2 W) => r01_Made p0 l0 c0 W (Ia.out.ext (Ext.step hxw h)))
  have MB := Lib.hid (fun W (h : Ext W2 W) => r01_Made p1 l1 c1 W (Ib.out.ext (Ext.step hxw h)))
  clear hxw hs2 hx0 hs0 hz_w1 hl_w1_0 hl_w1_1 hl_w1_2 NA NB Ia Ib hsa hsb hmin KA KB
  go_upto_region 3 with (fail)
  have hKeep : FKeep (W2.heap.size) (fun W => Ext W2 W ∧ W2.heap.size ≤ W.heap.size ∧ W.cell? ⟨w.heap.size, 0, none⟩ = some (.slice p0 l0 c0) ∧ W.cell? ⟨w.heap.size, 1, none⟩ = some (.slice p1 l1 c1) ∧ W.cell? ⟨w.heap.size + 1, 0, none⟩ = some (.bool na) ∧ W.cell? ⟨w.heap.size + 1, 1, none⟩ = some (.slice pa ka ca) ∧ W.cell? ⟨w.heap.size + 1 + 1, 0, none⟩ = some (.bool nb) ∧ W.cell? ⟨w.heap.size + 1 + 1, 1, none⟩ = some (.slice pb kb cb)) := (by intro W W' h hb; obtain ⟨hx, hz, hc⟩ := h; have hbc : ∀ b o, b < _ → W'.cell? ⟨b, o, none⟩ = W.cell? ⟨b, o, none⟩ := fun b o h => hb.cell (p := ⟨b, o, none⟩) h; refine ⟨hx.trans (hb.mono (by omega)), Nat.le_trans hz hb.size, ?_⟩; (try dsimp only at hc ⊢); simp (disch := omega) only [hbc]; exact hc)
  first | refine wp_region_K (W2.heap.size) (fun W => Ext W2 W ∧ W2.heap.size ≤ W.heap.size ∧ W.cell? ⟨w.heap.size, 0, none⟩ = some (.slice p0 l0 c0) ∧ W.cell? ⟨w.heap.size, 1, none⟩ = some (.slice p1 l1 c1) ∧ W.cell? ⟨w.heap.size + 1, 0, none⟩ = some (.bool na) ∧ W.cell? ⟨w.heap.size + 1, 1, none⟩ = some (.slice pa ka ca) ∧ W.cell? ⟨w.heap.size + 1 + 1, 0, none⟩ = some (.bool nb) ∧ W.cell? ⟨w.heap.size + 1 + 1, 1, none⟩ = some (.slice pb kb cb)) (by kernel_rfl) (by kernel_rfl) ?_ hKeep (fun _ h => h.2.1) ?_ | refine wp_region_Ks (W2.heap.size) (fun W => Ext W2 W ∧ W2.heap.size ≤ W.heap.size ∧ W.cell? ⟨w.heap.size, 0, none⟩ = some (.slice p0 l0 c0) ∧ W.cell? ⟨w.heap.size, 1, none⟩ = some (.slice p1 l1 c1) ∧ W.cell? ⟨w.heap.size + 1, 0, none⟩ = some (.bool na) ∧ W.cell? ⟨w.heap.size + 1, 1, none⟩ = some (.slice pa ka ca) ∧ W.cell? ⟨w.heap.size + 1 + 1, 0, none⟩ = some (.bool nb) ∧ W.cell? ⟨w.heap.size + 1 + 1, 1, none⟩ = some (.slice pb kb cb)) ?_ hKeep (fun _ h => h.2.1) ?_
  · refine ⟨by (repeat (first | exact Below.refl _ _ | assumption | refine Below.drewN ?_ _ | refine Below.drew ?_ | refine Below.setCell ?_ (by first | exact Nat.le_refl _ | (simp; done) | (simp; omega) | omega) _ | refine Below.alloc ?_ (by first | exact Nat.le_refl _ | (simp; done) | (simp; omega) | omega) _)), by first | omega | (simp; done) | (simp; omega), ?_⟩
    go_simp
  repeat (first | (refine F_skip (by rfl) ?_; simp only [Act.put, List.setIfInBounds_toArray, List.set_cons_zero, List.set_cons_succ]) | (refine F_run (v := ?_) (by rfl) ?_ ?_; rotate_left; (· (intro W hW; (try dsimp only at hW); go_simp; try with_reducible rfl)); simp only [Act.put, List.setIfInBounds_toArray, List.set_cons_zero, List.set_cons_succ]))
  refine F_made (by rfl) (by rfl) (by intro W hW; (try dsimp only at hW); go_simp; exact (MA.out _ hW.1).mono fun _ _ h => RetMk.isMk h) ?_
  intro n1 p1' l1' c1' X1 hX1
  simp only [Act.put, List.setIfInBounds_toArray, List.set_cons_zero, List.set_cons_succ]
  repeat (first | (refine F_skip (by rfl) ?_; simp only [Act.put, List.setIfInBounds_toArray, List.set_cons_zero, List.set_cons_succ]) | (refine F_run (v := ?_) (by rfl) ?_ ?_; rotate_left; (· (intro W hW; (try dsimp only at hW); go_simp; try with_reducible rfl)); simp only [Act.put, List.setIfInBounds_toArray, List.set_cons_zero, List.set_cons_succ]))
  refine F_made (by rfl) (by rfl) (by intro W hW; (try dsimp only at hW); go_simp; exact (MB.out _ hW.1.1).mono fun _ _ h => RetMk.isMk h) ?_
  intro n2 p2' l2' c2' X2 hX2
  simp only [Act.put, List.setIfInBounds_toArray, List.set_cons_zero, List.set_cons_succ]
  repeat (first | (refine F_skip (by rfl) ?_; simp only [Act.put, List.setIfInBounds_toArray, List.set_cons_zero, List.set_cons_succ]) | (refine F_run (v := ?_) (by rfl) ?_ ?_; rotate_left; (· (intro W hW; (try dsimp only at hW); go_simp; try with_reducible rfl)); simp only [Act.put, List.setIfInBounds_toArray, List.set_cons_zero, List.set_cons_succ]))
  refine F_made (by rfl) (by rfl) (by intro W hW; (try dsimp only at hW); go_simp; exact (MB.out _ hW.1.1.1).mono fun _ _ h => RetMk.isMk h) ?_
  intro n3 p3' l3' c3' X3 hX3
  simp only [Act.put, List.setIfInBounds_toArray, List.set_cons_zero, List.set_cons_succ]
  repeat (first | (refine F_skip (by rfl) ?_; simp only [Act.put, List.setIfInBounds_toArray, List.set_cons_zero, List.set_cons_succ]) | (refine F_run (v := ?_) (by rfl) ?_ ?_; rotate_left; (· (intro W hW; (try dsimp only at hW); go_simp; try with_reducible rfl)); simp only [Act.put, List.setIfInBounds_toArray, List.set_cons_zero, List.set_cons_succ]))
  refine F_build3 _ _ _ (by rfl) (by rfl) (by rfl) n1 n2 na nb na n3 p1' p2' pa pb pa p3' l1' c1' l2' c2' ka ca kb cb ka ca l3' c3' (by rfl) (by rfl) (by rfl) ?_
  intro g
  simp only [Act.put, List.setIfInBounds_toArray, List.set_cons_zero, List.set_cons_succ]
  repeat (first | (refine F_skip (by rfl) ?_; simp only [Act.put, List.setIfInBounds_toArray, List.set_cons_zero, List.set_cons_succ]) | (refine F_run (v := ?_) (by rfl) ?_ ?_; rotate_left; (· (intro W hW; (try dsimp only at hW); go_simp; try with_reducible rfl)); simp only [Act.put, List.setIfInBounds_toArray, List.set_cons_zero, List.set_cons_succ]))
  rintro V ⟨⟨⟨⟨hS, hn1⟩, hn2⟩, hn3⟩, hg⟩
  have NA3 := NA2.out.ext hS.1
  have NB3 := NB2.out.ext hS.1
  have PAIR := Lib.hid (pairs_of hg hn1 hn2 NA3 NB3 NA3 hn3 (by have := hX2.2; omega) LBH.out (by have := hX3.2; omega))
  have EXV := Lib.hid (Ext.step EX2.out hS.1)
  clear hS hn1 hn2 hn3 hg NA3 NB3 MA MB NA2 NB2 hX1 hX2 hX3 hKeep EX2
  go_wp2_with fail
  go_loopw [54] (fun i wr => ∃ k : Nat, k ≤ 3 ∧ i = .int .i64 (k : Int) ∧ Ext V wr) (fun i _ => 3 - (intOf i).toNat)
  case atStart => exact ⟨0, by omega, rfl, Below.refl _ _⟩
  case round =>
    obtain ⟨k, hk, rfl, hxr⟩ := hrel
    by_cases hk3 : k < 3
    · obtain ⟨n, m, p, q, l, c, i, d, X, Y, e0, e1, e2, e3, hX, hY, hYl, hgl⟩ := (PAIR.out k hk3).ext hxr
      have HX := Lib.hid hX
      have HY := Lib.hid hY
      clear hX hY
      go_wp2_with fail
      obtain ⟨DQ, DR, dk, HD⟩ : ∃ x y z, Hid (divP X Y = (x, y, z)) := ⟨_, _, _, Lib.hid rfl⟩
      obtain ⟨GX, gk, HG⟩ : ∃ x z, Hid (gcdP X Y = (x, z)) := ⟨_, _, Lib.hid rfl⟩
      refine (div_all X Y _ _ _ _ _ _ _ _ _ _ (HX.out.ext (by (repeat (first | exact Below.refl _ _ | assumption | refine Below.drewN ?_ _ | refine Below.drew ?_ | refine Below.setCell ?_ (by first | exact Nat.le_refl _ | (simp; done) | (simp; omega) | omega) _ | refine Below.alloc ?_ (by first | exact Nat.le_refl _ | (simp; done) | (simp; omega) | omega) _)))) (HY.out.ext (by (repeat (first | exact Below.refl _ _ | assumption | refine Below.drewN ?_ _ | refine Below.drew ?_ | refine Below.setCell ?_ (by first | exact Nat.le_refl _ | (simp; done) | (simp; omega) | omega) _ | refine Below.alloc ?_ (by first | exact Nat.le_refl _ | (simp; done) | (simp; omega) | omega) _)))) HD.out).mono ?_
      rintro e w3 ⟨n1, p1, l1, c1, n2, p2, l2, c2, rfl, nr1, nr2, _, _, hx1⟩
      have vX := PB.new HX.out HY.out hx1
      have EX3 : Ext wr w3 := Ext.step (by (repeat (first | exact Below.refl _ _ | assumption | refine Below.drewN ?_ _ | refine Below.drew ?_ | refine Below.setCell ?_ (by first | exact Nat.le_refl _ | (simp; done) | (simp; omega) | omega) _ | refine Below.alloc ?_ (by first | exact Nat.le_refl _ | (simp; done) | (simp; omega) | omega) _))) hx1
      clear hx1 e0 e1 e2 e3 HX HY
      obtain ⟨qX0, qX1, qX2, qX3, qX4, qX5, qX6⟩ := id vX
      go_wp2_with fail
      refine (rdiv_all X Y _ _ _ _ _ _ _ _ _ _ (qX5.ext (by (repeat (first | exact Below.refl _ _ | assumption | refine Below.drewN ?_ _ | refine Below.drew ?_ | refine Below.setCell ?_ (by first | exact Nat.le_refl _ | (simp; done) | (simp; omega) | omega) _ | refine Below.alloc ?_ (by first | exact Nat.le_refl _ | (simp; done) | (simp; omega) | omega) _)))) (qX6.ext (by (repeat (first | exact Below.refl _ _ | assumption | refine Below.drewN ?_ _ | refine Below.drew ?_ | refine Below.setCell ?_ (by first | exact Nat.le_refl _ | (simp; done) | (simp; omega) | omega) _ | refine Below.alloc ?_ (by first | exact Nat.le_refl _ | (simp; done) | (simp; omega) | omega) _)))) HD.out).mono ?_
      rintro e w4 ⟨n3, p3, l3, c3, n4, p4, l4, c4, rfl, nr3, nr4, _, _, hx1⟩
      clear qX0 qX1 qX2 qX3 qX4 qX5 qX6
      obtain ⟨v1, v2⟩ := VB.new2 nr1 nr2 hx1
      have ex4 : Ext w3 w4 := Ext.step (by (repeat (first | exact Below.refl _ _ | assumption | refine Below.drewN ?_ _ | refine Below.drew ?_ | refine Below.setCell ?_ (by first | exact Nat.le_refl _ | (simp; done) | (simp; omega) | omega) _ | refine Below.alloc ?_ (by first | exact Nat.le_refl _ | (simp; done) | (simp; omega) | omega) _))) hx1
      replace vX := vX.ext ex4
      have EX4 := Ext.step EX3 ex4
      clear hx1 nr1 nr2
      obtain ⟨qX0, qX1, qX2, qX3, qX4, qX5, qX6⟩ := id vX
      go_wp2_with fail
      refine (gcd_len X Y _ _ _ _ _ _ _ _ _ _ (qX5.ext (by (repeat (first | exact Below.refl _ _ | assumption | refine Below.drewN ?_ _ | refine Below.drew ?_ | refine Below.setCell ?_ (by first | exact Nat.le_refl _ | (simp; done) | (simp; omega) | omega) _ | refine Below.alloc ?_ (by first | exact Nat.le_refl _ | (simp; done) | (simp; omega) | omega) _)))) (qX6.ext (by (repeat (first | exact Below.refl _ _ | assumption | refine Below.drewN ?_ _ | refine Below.drew ?_ | refine Below.setCell ?_ (by first | exact Nat.le_refl _ | (simp; done) | (simp; omega) | omega) _ | refine Below.alloc ?_ (by first | exact Nat.le_refl _ | (simp; done) | (simp; omega) | omega) _)))) hYl HG.out).mono ?_
      rintro e w5 ⟨n5, p5, l5, c5, rfl, nr5, _, hx1⟩
      clear qX0 qX1 qX2 qX3 qX4 qX5 qX6
      obtain ⟨v3, v4⟩ := VB.new2 nr3 nr4 hx1
      have ex5 : Ext w4 w5 := Ext.step (by (repeat (first | exact Below.refl _ _ | assumption | refine Below.drewN ?_ _ | refine Below.drew ?_ | refine Below.setCell ?_ (by first | exact Nat.le_refl _ | (simp; done) | (simp; omega) | omega) _ | refine Below.alloc ?_ (by first | exact Nat.le_refl _ | (simp; done) | (simp; omega) | omega) _))) hx1
      replace vX := vX.ext ex5
      replace v1 := v1.ext ex5
      replace v2 := v2.ext ex5
      have EX5 := Ext.step EX4 ex5
      clear hx1 nr3 nr4
      obtain ⟨qX0, qX1, qX2, qX3, qX4, qX5, qX6⟩ := id vX
      go_wp2_with fail
      refine (rgcd_all X Y _ _ _ _ _ _ _ _ _ _ (qX5.ext (by (repeat (first | exact Below.refl _ _ | assumption | refine Below.drewN ?_ _ | refine Below.drew ?_ | refine Below.setCell ?_ (by first | exact Nat.le_refl _ | (simp; done) | (simp; omega) | omega) _ | refine Below.alloc ?_ (by first | exact Nat.le_refl _ | (simp; done) | (simp; omega) | omega) _)))) (qX6.ext (by (repeat (first | exact Below.refl _ _ | assumption | refine Below.drewN ?_ _ | refine Below.drew ?_ | refine Below.setCell ?_ (by first | exact Nat.le_refl _ | (simp; done) | (simp; omega) | omega) _ | refine Below.alloc ?_ (by first | exact Nat.le_refl _ | (simp; done) | (simp; omega) | omega) _)))) HG.out).mono ?_
      rintro e w6 ⟨n6, p6, l6, c6, rfl, nr6, _, hx1⟩
      clear qX0 qX1 qX2 qX3 qX4 qX5 qX6
      have v5 := VB.new nr5 hx1
      have ex6 : Ext w5 w6 := Ext.step (by (repeat (first | exact Below.refl _ _ | assumption | refine Below.drewN ?_ _ | refine Below.drew ?_ | refine Below.setCell ?_ (by first | exact Nat.le_refl _ | (simp; done) | (simp; omega) | omega) _ | refine Below.alloc ?_ (by first | exact Nat.le_refl _ | (simp; done) | (simp; omega) | omega) _))) hx1
      replace vX := vX.ext ex6
      replace v1 := v1.ext ex6
      replace v2 := v2.ext ex6
      replace v3 := v3.ext ex6
      replace v4 := v4.ext ex6
      have EX6 := Ext.step EX5 ex6
      clear hx1 nr5
      go_upto_region 10 with (fail)
      refine wp_worldT (fun W => Ext w6 W ∧ VB W w6.heap.size n6 p6 l6 c6 GX) ⟨by (repeat (first | exact Below.refl _ _ | assumption | refine Below.drewN ?_ _ | refine Below.drew ?_ | refine Below.setCell ?_ (by first | exact Nat.le_refl _ | (simp; done) | (simp; omega) | omega) _ | refine Below.alloc ?_ (by first | exact Nat.le_refl _ | (simp; done) | (simp; omega) | omega) _)), VB.new (T := 26) nr6 (Below.refl _ _)⟩ ?_
      rintro w7 ⟨ex7, v6⟩
      replace vX := vX.ext ex7
      replace v1 := v1.ext ex7
      replace v2 := v2.ext ex7
      replace v3 := v3.ext ex7
      replace v4 := v4.ext ex7
      replace v5 := v5.ext ex7
      have EX7 := Ext.step EX6 ex7
      clear EX3 EX4 EX5 EX6 ex4 ex5 ex6 ex7 nr6
      have EX8 := Lib.hid (EXV.out.step (hxr.step EX7))
      generalize wr.heap.size = b0 at vX ⊢
      generalize w3.heap.size = b1 at v1 v2 ⊢
      generalize b1 + 1 = b2 at v2 ⊢
      generalize w4.heap.size = b3 at v3 v4 ⊢
      generalize b3 + 1 = b4 at v4 ⊢
      generalize w5.heap.size = b5 at v5 ⊢
      generalize w6.heap.size = b6 at v6 ⊢
      obtain ⟨h0, k00, k01, k02, k03, N0, _⟩ := vX
      obtain ⟨h1, k10, k11, N1⟩ := v1
      obtain ⟨h2, k20, k21, N2⟩ := v2
      obtain ⟨h3, k30, k31, N3⟩ := v3
      obtain ⟨h4, k40, k41, N4⟩ := v4
      obtain ⟨h5, k50, k51, N5⟩ := v5
      obtain ⟨h6, k60, k61, N6⟩ := v6
      have M0 := Lib.hid N0
      have M1 := Lib.hid N1
      have M2 := Lib.hid N2
      have M3 := Lib.hid N3
      have M4 := Lib.hid N4
      have M5 := Lib.hid N5
      have M6 := Lib.hid N6
      have ed : (dk != dk) = false := by simp
      have eg : (gk != gk) = false := by simp
      have HH := Lib.hid (hxr.step EX7)
      clear N0 N1 N2 N3 N4 N5 N6 EX7 hxr HD HG hYl hgl
      have hKeep : FKeep (w7.heap.size) (fun W => Ext w7 W ∧ w7.heap.size ≤ W.heap.size ∧ W.cell? ⟨b0, 0, none⟩ = some (.bool n) ∧ W.cell? ⟨b0, 1, none⟩ = some (.slice p l c) ∧ W.cell? ⟨b0, 2, none⟩ = some (.bool m) ∧ W.cell? ⟨b0, 3, none⟩ = some (.slice q i d) ∧ W.cell? ⟨b1, 0, none⟩ = some (.bool n1) ∧ W.cell? ⟨b1, 1, none⟩ = some (.slice p1 l1 c1) ∧ W.cell? ⟨b2, 0, none⟩ = some (.bool n2) ∧ W.cell? ⟨b2, 1, none⟩ = some (.slice p2 l2 c2) ∧ W.cell? ⟨b3, 0, none⟩ = some (.bool n3) ∧ W.cell? ⟨b3, 1, none⟩ = some (.slice p3 l3 c3) ∧ W.cell? ⟨b4, 0, none⟩ = some (.bool n4) ∧ W.cell? ⟨b4, 1, none⟩ = some (.slice p4 l4 c4) ∧ W.cell? ⟨b5, 0, none⟩ = some (.bool n5) ∧ W.cell? ⟨b5, 1, none⟩ = some (.slice p5 l5 c5) ∧ W.cell? ⟨b6, 0, none⟩ = some (.bool n6) ∧ W.cell? ⟨b6, 1, none⟩ = some (.slice p6 l6 c6)) := (by intro W W' h hb; obtain ⟨hx, hz, hc⟩ := h; have hbc : ∀ b o, b < _ → W'.cell? ⟨b, o, none⟩ = W.cell? ⟨b, o, none⟩ := fun b o h => hb.cell (p := ⟨b, o, none⟩) h; refine ⟨hx.trans (hb.mono (by omega)), Nat.le_trans hz hb.size, ?_⟩; (try dsimp only at hc ⊢); simp (disch := omega) only [hbc]; exact hc)
      first | refine wp_region_K (w7.heap.size) (fun W => Ext w7 W ∧ w7.heap.size ≤ W.heap.size ∧ W.cell? ⟨b0, 0, none⟩ = some (.bool n) ∧ W.cell? ⟨b0, 1, none⟩ = some (.slice p l c) ∧ W.cell? ⟨b0, 2, none⟩ = some (.bool m) ∧ W.cell? ⟨b0, 3, none⟩ = some (.slice q i d) ∧ W.cell? ⟨b1, 0, none⟩ = some (.bool n1) ∧ W.cell? ⟨b1, 1, none⟩ = some (.slice p1 l1 c1) ∧ W.cell? ⟨b2, 0, none⟩ = some (.bool n2) ∧ W.cell? ⟨b2, 1, none⟩ = some (.slice p2 l2 c2) ∧ W.cell? ⟨b3, 0, none⟩ = some (.bool n3) ∧ W.cell? ⟨b3, 1, none⟩ = some (.slice p3 l3 c3) ∧ W.cell? ⟨b4, 0, none⟩ = some (.bool n4) ∧ W.cell? ⟨b4, 1, none⟩ = some (.slice p4 l4 c4) ∧ W.cell? ⟨b5, 0, none⟩ = some (.bool n5) ∧ W.cell? ⟨b5, 1, none⟩ = some (.slice p5 l5 c5) ∧ W.cell? ⟨b6, 0, none⟩ = some (.bool n6) ∧ W.cell? ⟨b6, 1, none⟩ = some (.slice p6 l6 c6)) (by kernel_rfl) (by kernel_rfl) ?_ hKeep (fun _ h => h.2.1) ?_ | refine wp_region_Ks (w7.heap.size) (fun W => Ext w7 W ∧ w7.heap.size ≤ W.heap.size ∧ W.cell? ⟨b0, 0, none⟩ = some (.bool n) ∧ W.cell? ⟨b0, 1, none⟩ = some (.slice p l c) ∧ W.cell? ⟨b0, 2, none⟩ = some (.bool m) ∧ W.cell? ⟨b0, 3, none⟩ = some (.slice q i d) ∧ W.cell? ⟨b1, 0, none⟩ = some (.bool n1) ∧ W.cell? ⟨b1, 1, none⟩ = some (.slice p1 l1 c1) ∧ W.cell? ⟨b2, 0, none⟩ = some (.bool n2) ∧ W.cell? ⟨b2, 1, none⟩ = some (.slice p2 l2 c2) ∧ W.cell? ⟨b3, 0, none⟩ = some (.bool n3) ∧ W.cell? ⟨b3, 1, none⟩ = some (.slice p3 l3 c3) ∧ W.cell? ⟨b4, 0, none⟩ = some (.bool n4) ∧ W.cell? ⟨b4, 1, none⟩ = some (.slice p4 l4 c4) ∧ W.cell? ⟨b5, 0, none⟩ = some (.bool n5) ∧ W.cell? ⟨b5, 1, none⟩ = some (.slice p5 l5 c5) ∧ W.cell? ⟨b6, 0, none⟩ = some (.bool n6) ∧ W.cell? ⟨b6, 1, none⟩ = some (.slice p6 l6 c6)) ?_ hKeep (fun _ h => h.2.1) ?_
      · refine ⟨by (repeat (first | exact Below.refl _ _ | assumption | refine Below.drewN ?_ _ | refine Below.drew ?_ | refine Below.setCell ?_ (by first | exact Nat.le_refl _ | (simp; done) | (simp; omega) | omega) _ | refine Below.alloc ?_ (by first | exact Nat.le_refl _ | (simp; done) | (simp; omega) | omega) _)), by first | omega | (simp; done) | (simp; omega), ?_⟩
        go_simp
      repeat (first | (refine F_skip (by rfl) ?_; simp only [Act.put, List.setIfInBounds_toArray, List.set_cons_zero, List.set_cons_succ]) | (refine F_run (v := ?_) (by rfl) ?_ ?_; rotate_left; (· (intro W hW; (try dsimp only at hW); go_simp; try with_reducible rfl)); simp only [Act.put, List.setIfInBounds_toArray, List.set_cons_zero, List.set_cons_succ]))
      (refine F_call (v := .bool true) (by rfl) (by rfl) ?_ ?_; (· (intro W hW; (try dsimp only at hW); go_simp; refine (same_yes DQ DQ n1 n3 p1 p3 l1 c1 l3 c3 W (M1.out.ext hW.1) (M3.out.ext hW.1) rfl).mono ?_; rintro e w' ⟨rfl, hx⟩; exact ⟨_, rfl, rfl, hx⟩))); simp only [Act.put, List.setIfInBounds_toArray, List.set_cons_zero, List.set_cons_succ]
      repeat (first | (refine F_skip (by rfl) ?_; simp only [Act.put, List.setIfInBounds_toArray, List.set_cons_zero, List.set_cons_succ]) | (refine F_run (v := ?_) (by rfl) ?_ ?_; rotate_left; (· (intro W hW; (try dsimp only at hW); go_simp; try with_reducible rfl)); simp only [Act.put, List.setIfInBounds_toArray, List.set_cons_zero, List.set_cons_succ]))
      (refine F_call (v := .bool true) (by rfl) (by rfl) ?_ ?_; (· (intro W hW; (try dsimp only at hW); go_simp; refine (same_yes DR DR n2 n4 p2 p4 l2 c2 l4 c4 W (M2.out.ext hW.1) (M4.out.ext hW.1) rfl).mono ?_; rintro e w' ⟨rfl, hx⟩; exact ⟨_, rfl, rfl, hx⟩))); simp only [Act.put, List.setIfInBounds_toArray, List.set_cons_zero, List.set_cons_succ]
      repeat (first | (refine F_skip (by rfl) ?_; simp only [Act.put, List.setIfInBounds_toArray, List.set_cons_zero, List.set_cons_succ]) | (refine F_run (v := ?_) (by rfl) ?_ ?_; rotate_left; (· (intro W hW; (try dsimp only at hW); go_simp; try with_reducible rfl)); simp only [Act.put, List.setIfInBounds_toArray, List.set_cons_zero, List.set_cons_succ]))
      (refine F_call (v := .bool true) (by rfl) (by rfl) ?_ ?_; (· (intro W hW; (try dsimp only at hW); go_simp; refine (same_yes GX GX n5 n6 p5 p6 l5 c5 l6 c6 W (M5.out.ext hW.1) (M6.out.ext hW.1) rfl).mono ?_; rintro e w' ⟨rfl, hx⟩; exact ⟨_, rfl, rfl, hx⟩))); simp only [Act.put, List.setIfInBounds_toArray, List.set_cons_zero, List.set_cons_succ]
      repeat (first | (refine F_skip (by rfl) ?_; simp only [Act.put, List.setIfInBounds_toArray, List.set_cons_zero, List.set_cons_succ]) | (refine F_run (v := ?_) (by rfl) ?_ ?_; rotate_left; (· (intro W hW; (try dsimp only at hW); go_simp; try with_reducible rfl)); simp only [Act.put, List.setIfInBounds_toArray, List.set_cons_zero, List.set_cons_succ]))
      (refine F_call (v := .string (bytesT (textL X))) (by rfl) (by rfl) ?_ ?_; (· (intro W hW; (try dsimp only at hW); go_simp; refine (num_Text X n p l c W (M0.out.ext hW.1) (TB.out.ext (EX8.out.step hW.1))).mono ?_; rintro e w' ⟨rfl, hx⟩; exact ⟨_, rfl, rfl, hx⟩))); simp only [Act.put, List.setIfInBounds_toArray, List.set_cons_zero, List.set_cons_succ]
      repeat (first | (refine F_skip (by rfl) ?_; simp only [Act.put, List.setIfInBounds_toArray, List.set_cons_zero, List.set_cons_succ]) | (refine F_run (v := ?_) (by rfl) ?_ ?_; rotate_left; (· (intro W hW; (try dsimp only at hW); go_simp; try with_reducible rfl)); simp only [Act.put, List.setIfInBounds_toArray, List.set_cons_zero, List.set_cons_succ]))
      (refine F_call (v := .string (bytesT (textL X))) (by rfl) (by rfl) ?_ ?_; (· (intro W hW; (try dsimp only at hW); go_simp; refine (r01_Text X n p l c W (M0.out.ext hW.1)).mono ?_; rintro e w' ⟨rfl, hx⟩; exact ⟨_, rfl, rfl, hx⟩))); simp only [Act.put, List.setIfInBounds_toArray, List.set_cons_zero, List.set_cons_succ]
      repeat (first | (refine F_skip (by rfl) ?_; simp only [Act.put, List.setIfInBounds_toArray, List.set_cons_zero, List.set_cons_succ]) | (refine F_run (v := ?_) (by rfl) ?_ ?_; rotate_left; (· (intro W hW; (try dsimp only at hW); go_simp; try with_reducible rfl)); simp only [Act.put, List.setIfInBounds_toArray, List.set_cons_zero, List.set_cons_succ]))
      rintro W hW
      have hx9 : Ext V W := HH.out.step hW.1
      clear hW hKeep
      go_wp2
      exact ⟨⟨k + 1, by omega, rfl, hx9⟩, by simp [intOf]; omega⟩
    · obtain rfl : k = 3 := by omega
      go_wp2
      go_ret
      exact ⟨rfl, EXV.out.step hxr⟩
end Go.Proofs.YtdaaknfmodbjcaaDoor
