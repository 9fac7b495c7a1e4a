/- Rows of roots in a variable. | What the frames of the laws on roots share: ints, numbers and roots that came in. | Plain: the root that numbers make. -/
import Derived.Test.YtghgggaimijcaaaDoorJ21
import Derived.Test.YtghgggaimijcaaaDoorJ26
import Derived.Test.YtghgggaimijcaaaDoorJ27
import Derived.Test.YtghgggaimijcaaaDoorJ23
import Derived.Lib.SmallJoins
import Derived.WalkKit
import Derived.ProofKit
import Derived.LaidMore
import Derived.OpenShut
import Derived.ShutString
import Derived.ChangeOld
import Derived.Below
import Derived.Stop.Joined
import Derived.Stop.LaidErr
import Derived.SevenTiedAt
set_option linter.unusedVariables false
set_option linter.unusedSimpArgs false

namespace Go.Proofs.YtghgggaimijcaaaDoor
open Go.RowKit

def In64 (z : Int) : Prop := -9223372036854775808 ≤ z ∧ z ≤ 9223372036854775807
theorem putAt_lt (cs vs : Array Value) (o i : Nat) (h : i < o) (ho : o ≤ cs.size) : (putAt cs o vs)[i]? = cs[i]? := by
  unfold putAt
  rw [List.getElem?_toArray, List.getElem?_append_left (by simp; omega), List.getElem?_append_left (by simp; omega), List.getElem?_take_of_lt h]
  simp
theorem putAt_in (cs vs : Array Value) (o i : Nat) (h : i < vs.size) (ho : o ≤ cs.size) : (putAt cs o vs)[o + i]? = vs[i]? := by
  unfold putAt
  rw [List.getElem?_toArray, List.getElem?_append_left (by simp; omega), List.getElem?_append_right (by simp; omega)]
  simp only [List.length_take, Array.length_toList]
  rw [Nat.min_eq_left ho, show o + i - o = i by omega]
  simp
theorem putAt_size (cs vs : Array Value) (o : Nat) (h : o + vs.size ≤ cs.size) : (putAt cs o vs).size = cs.size := by
  unfold putAt
  simp only [List.size_toArray, List.length_append, List.length_take, List.length_drop, Array.length_toList]
  omega
theorem putAt_mem (cs vs : Array Value) (o : Nat) {v : Value} (h : v ∈ (putAt cs o vs).toList) : v ∈ cs.toList ∨ v ∈ vs.toList := by
  unfold putAt at h
  simp only [List.mem_append] at h
  rcases h with (h | h) | h
  · exact .inl (List.mem_of_mem_take h)
  · exact .inr h
  · exact .inl (List.mem_of_mem_drop h)
/-- The cells of a root. -/
def rootCells (a : Rt) (n : Bool) (p : Option Addr) (l c : Nat) (m : Bool) (q : Option Addr) (k d : Nat) : Array Value := #[.int .i64 a.add, .int .i64 a.s, .bool n, .slice p l c, .bool m, .slice q k d]
/-- A variable of N roots, of which k are the roots of f. -/
def RLs (W : World) (g : Nat) (T : TypeId) (N k : Nat) (f : Nat → Rt) (cs : Array Value) : Prop :=
  W.heap[g]? = some (.cells cs T) ∧ cs.size = N * 6 ∧ (∀ v ∈ cs.toList, ∀ z, v ≠ .int .u32 z) ∧
  ∀ j, j < k → ∃ n p l c m q i d, (cs[j * 6]? = some (.int .i64 (f j).add) ∧ cs[j * 6 + 1]? = some (.int .i64 (f j).s) ∧ (cs[j * 6 + 2]? = some (.bool n) ∧ cs[j * 6 + 3]? = some (.slice p l c)) ∧ cs[j * 6 + 4]? = some (.bool m) ∧ cs[j * 6 + 5]? = some (.slice q i d)) ∧ NR W n p l c (f j).n ∧ NR W m q i d (f j).d
theorem RLs.ext {W W' : World} {g : Nat} {T : TypeId} {N k : Nat} {f : Nat → Rt} {cs : Array Value} (h : RLs W g T N k f cs) (hx : Ext W W') : RLs W' g T N k f cs := by
  obtain ⟨h1, h2, h3, h4⟩ := h
  refine ⟨heap_ext h1 hx, h2, h3, fun j hj => ?_⟩
  obtain ⟨n, p, l, c, m, q, i, d, hc, k1, k2⟩ := h4 j hj
  exact ⟨n, p, l, c, m, q, i, d, hc, k1.ext hx, k2.ext hx⟩
theorem RLs.lt {W : World} {g : Nat} {T : TypeId} {N k : Nat} {f : Nat → Rt} {cs : Array Value} (h : RLs W g T N k f cs) : g < W.heap.size := (Array.getElem?_eq_some_iff.1 h.1).1
/-- A root of the row, as it is read. -/
def RAt (W : World) (g o : Nat) (a : Rt) (n : Bool) (p : Option Addr) (l c : Nat) (m : Bool) (q : Option Addr) (k d : Nat) : Prop :=
  (W.cell? ⟨g, o, none⟩ = some (.int .i64 a.add) ∧ W.cell? ⟨g, o + 1, none⟩ = some (.int .i64 a.s) ∧ W.cell? ⟨g, o + 2, none⟩ = some (.bool n) ∧ W.cell? ⟨g, o + 3, none⟩ = some (.slice p l c) ∧ W.cell? ⟨g, o + 4, none⟩ = some (.bool m) ∧ W.cell? ⟨g, o + 5, none⟩ = some (.slice q k d)) ∧ g < W.heap.size ∧ NR W n p l c a.n ∧ NR W m q k d a.d
theorem RAt.ext {W W' : World} {g o : Nat} {a : Rt} {n : Bool} {p : Option Addr} {l c : Nat} {m : Bool} {q : Option Addr} {k d : Nat} (h : RAt W g o a n p l c m q k d) (hx : Ext W W') : RAt W' g o a n p l c m q k d := by
  obtain ⟨⟨h0, h1, h2, h3, h4, h5⟩, hg, k1, k2⟩ := h
  have hc : ∀ o, W'.cell? ⟨g, o, none⟩ = W.cell? ⟨g, o, none⟩ := fun o => hx.cell (p := ⟨g, o, none⟩) hg
  exact ⟨⟨by rw [hc]; exact h0, by rw [hc]; exact h1, by rw [hc]; exact h2, by rw [hc]; exact h3, by rw [hc]; exact h4, by rw [hc]; exact h5⟩, Nat.lt_of_lt_of_le hg hx.size, k1.ext hx, k2.ext hx⟩
theorem RLs.at {W : World} {g : Nat} {T : TypeId} {N k : Nat} {f : Nat → Rt} {cs : Array Value} (h : RLs W g T N k f cs) (j : Nat) (hj : j < k) : ∃ n p l c m q i d, RAt W g (j * 6) (f j) n p l c m q i d := by
  obtain ⟨h1, h2, h3, h4⟩ := h
  obtain ⟨n, p, l, c, m, q, i, d, ⟨c0, c1, ⟨c2, c3⟩, c4, c5⟩, k1, k2⟩ := h4 j hj
  have hc : ∀ o, W.cell? ⟨g, o, none⟩ = cs[o]? := fun o => cell_of_row W g o cs T (0, 0) h1
  exact ⟨n, p, l, c, m, q, i, d, ⟨by rw [hc]; exact c0, by rw [hc]; exact c1, by rw [hc]; exact c2, by rw [hc]; exact c3, by rw [hc]; exact c4, by rw [hc]; exact c5⟩, (Array.getElem?_eq_some_iff.1 h1).1, k1, k2⟩
theorem RLs.put {W W' : World} {g : Nat} {T : TypeId} {N k : Nat} {f : Nat → Rt} {cs : Array Value} (h : RLs W g T N k f cs) (hk : k < N) (ho : OnlyB g W W') {n m : Bool} {p q : Option Addr} {l c i d : Nat}
    (hb : W'.heap[g]? = some (.cells (putAt cs (k * 6) (rootCells (f k) n p l c m q i d)) T)) (h1 : NR W' n p l c (f k).n) (h2 : NR W' m q i d (f k).d) : RLs W' g T N (k + 1) f (putAt cs (k * 6) (rootCells (f k) n p l c m q i d)) := by
  obtain ⟨g1, g2, g3, g4⟩ := h
  have e6 : (rootCells (f k) n p l c m q i d).size = 6 := rfl
  refine ⟨hb, by rw [putAt_size _ _ _ (by rw [e6]; omega)]; exact g2, fun v hv z => ?_, fun j hj => ?_⟩
  · rcases putAt_mem _ _ _ hv with hv | hv
    · exact g3 v hv z
    · intro e
      subst e
      simp [rootCells] at hv
  · rcases Nat.lt_or_ge j k with hjk | hjk
    · obtain ⟨n', p', l', c', m', q', i', d', ⟨c0, c1, ⟨c2, c3⟩, c4, c5⟩, k1, k2⟩ := g4 j hjk
      have hc : ∀ t, t < 6 → (putAt cs (k * 6) (rootCells (f k) n p l c m q i d))[j * 6 + t]? = cs[j * 6 + t]? := fun t ht => putAt_lt _ _ _ _ (by omega) (by omega)
      exact ⟨n', p', l', c', m', q', i', d', ⟨by rw [← c0]; exact hc 0 (by omega), by rw [hc 1 (by omega)]; exact c1, ⟨by rw [hc 2 (by omega)]; exact c2, by rw [hc 3 (by omega)]; exact c3⟩, by rw [hc 4 (by omega)]; exact c4, by rw [hc 5 (by omega)]; exact c5⟩, k1.keepA g1 ho g3, k2.keepA g1 ho g3⟩
    · obtain rfl : j = k := by omega
      have hc : ∀ t, t < 6 → (putAt cs (j * 6) (rootCells (f j) n p l c m q i d))[j * 6 + t]? = (rootCells (f j) n p l c m q i d)[t]? := fun t ht => putAt_in _ _ _ _ (by rw [e6]; exact ht) (by omega)
      exact ⟨n, p, l, c, m, q, i, d, ⟨hc 0 (by omega), by rw [hc 1 (by omega)]; rfl, ⟨by rw [hc 2 (by omega)]; rfl, by rw [hc 3 (by omega)]; rfl⟩, by rw [hc 4 (by omega)]; rfl, by rw [hc 5 (by omega)]; rfl⟩, h1, h2⟩
theorem RLs.zero {W : World} {g : Nat} {T : TypeId} {N : Nat} {f : Nat → Rt} {cs : Array Value} (h : W.heap[g]? = some (.cells cs T)) (hs : cs.size = N * 6) (h0 : ∀ v ∈ cs.toList, ∀ z, v ≠ .int .u32 z) : RLs W g T N 0 f cs :=
  ⟨h, hs, h0, fun j hj => absurd hj (Nat.not_lt_zero j)⟩
/-- A row of ints in a variable. -/
def IRow (W : World) (g : Nat) (L : List Int) : Prop := g < W.heap.size ∧ ∀ i z, L[i]? = some z → W.cell? ⟨g, i, none⟩ = some (.int .i64 z)
theorem IRow.ext {W W' : World} {g : Nat} {L : List Int} (h : IRow W g L) (hx : Ext W W') : IRow W' g L :=
  ⟨Nat.lt_of_lt_of_le h.1 hx.size, fun i z hi => (hx.cell (p := ⟨g, i, none⟩) h.1).trans (h.2 i z hi)⟩
theorem IRow.heap {W : World} {g : Nat} {cs : Array Value} {T : TypeId} {L : List Int} (h : W.heap[g]? = some (.cells cs T)) (hL : cs = (L.map (Value.int .i64)).toArray) : IRow W g L := by
  subst hL
  refine ⟨(Array.getElem?_eq_some_iff.1 h).1, fun i z hi => ?_⟩
  rw [cell_of_row _ _ _ _ _ _ h]
  simp [hi]
theorem RLs.mono {g : Nat} {T : TypeId} {N k : Nat} {f : Nat → Rt} {cs : Array Value} : FMono (fun W => RLs W g T N k f cs) := fun W W' h hb => h.ext hb
theorem IRow.only {W W' : World} {g b : Nat} {L : List Int} (h : IRow W b L) (ho : OnlyB g W W') (hn : b ≠ g) : IRow W' b L :=
  ⟨by rw [ho.size]; exact h.1, fun i z hi => (World.cell?_of_block (ho.block b hn)).trans (h.2 i z hi)⟩
section
variable {P : Program} {ops : Array Oper} {S : World → Prop} {Q : Act → World → Prop} {o : Oper} {l : List Oper} {a : Act} {own : List Nat} {F : World → Prop}
/-- A root is stored as the next of a row. -/
theorem F_storeRow (R : World → Prop) (g off N k : Nat) (T ty : TypeId) (f : Nat → Rt) (cs : Array Value) (n m : Bool) (p q : Option Addr) (l' c i d : Nat) (x y : Operand) (ho : o.op = .store ty x y) (hk : fkind o = 3) (hw : Region.wanted o (yielded ops a.tmps) = true)
    (hx : a.eval x = .pointer (some ⟨g, off, none⟩)) (hoff : off = k * 6) (hy : a.eval y = .agg (rootCells (f k) n p l' c m q i d)) (hi : (P.info? ty).map (·.size) = some 6) (hkN : k < N)
    (hF : ∀ W, F W → R W ∧ RLs W g T N k f cs ∧ NR W n p l' c (f k).n ∧ NR W m q i d (f k).d) (hR : ∀ W W', R W → OnlyB g W W' → R W') (hm : FMono R) (hs : ∀ W, R W → S W)
    (h : WpF P ops S Q l (a.put o.dst undef) own (fun W => (R W ∧ RLs W g T N (k + 1) f (putAt cs (k * 6) (rootCells (f k) n p l' c m q i d))) ∧ ∀ g ∈ own, g < W.heap.size)) : WpF P ops S Q (o :: l) a own F := by
  subst hoff
  refine F_store (fun W => R W ∧ RLs W g T N (k + 1) f (putAt cs (k * 6) (rootCells (f k) n p l' c m q i d))) (hm.and RLs.mono) (fun W h => hs W h.1) hk hw (fun W hf => ?_) h
  obtain ⟨hr, hb, n1, n2⟩ := hF W hf
  have h18 := hb.2.1
  obtain ⟨k1, k2⟩ := onlyB_setRow (cs' := putAt cs (k * 6) (rootCells (f k) n p l' c m q i d)) hb.1
  have e : (execOp a.eval o).run P W = .ok .skip (W.setRow g (putAt cs (k * 6) (rootCells (f k) n p l' c m q i d))) := by
    have := run_storeVar_at (P := P) W g (k * 6) T ty cs (rootCells (f k) n p l' c m q i d) hb.1 hi (by show _ + 6 ≤ _; omega) (by simp [rootCells, Value.oneCell'])
    unfold execOp
    simp only [ho, hx, hy, Instr.storeAt, Instr.sureAddr, Sem.run_bind, Sem.run_pure, Result.andThen, this]
  unfold Gives
  rw [e]
  exact ⟨rfl, by rw [k1.size]; exact Nat.le_refl _, hR W _ hr k1, hb.put hkN k1 k2 (n1.keepA hb.1 k1 hb.2.2.1) (n2.keepA hb.1 k1 hb.2.2.1)⟩
end
end Go.Proofs.YtghgggaimijcaaaDoor

namespace Go.Proofs.YtghgggaimijcaaaDoor.fin
open Go.ChangeShapes Go.WideShapes Go.ChangeAt Go.RowKit
open Go.ChangeMaps (open_string shut_string)
open Go.Joins
set_option linter.unusedVariables false

theorem own : ownKnob Tryd.prog.godebug = none := by kernel_rfl
theorem laidOut : laidOutB Tryd.prog = true := by kernel_rfl
theorem list_cons {α : Type} {L : List α} {n : Nat} (h : L.length = n + 1) : ∃ x M, L = x :: M ∧ M.length = n := by
  cases L with
  | nil => simp at h
  | cons x M => exact ⟨x, M, rfl, by simpa using h⟩
theorem gP : Tryd.prog.globalNamed "internal/strconv.uint64pow10" = some 0 := by kernel_rfl
theorem tP : (Tryd.prog.globals[0]?).map (·.type) = some 123 := by kernel_rfl
theorem cells25 : Tryd.prog.cellsOf 25 = 2 := by kernel_rfl
/-- WHAT THE WALK IS TOLD OF A SLICE OF INTEGERS THAT CAME IN: it is nil; or it leads to a row of 'cap' cells, the numbers 'zs' (the first 'len' are its elements, the rest its spare room), each fitting its kind. -/
def IsRow (k : IntKind) (w : World) (a : Option Addr) (len cap : Nat) (zs : List Int) : Prop :=
  (a = none ∧ len = 0 ∧ cap = 0 ∧ zs = []) ∨
  ∃ x, a = some x ∧ len ≤ cap ∧ cap ≤ maxLen ∧ zs.length = cap ∧ (∀ i, i < zs.length → w.cell? (x.add i) = some (.int k (zs.getD i 0))) ∧ ∀ n ∈ zs, (Lit.int k n).wf = true
theorem IsRow.row {w : World} {a : Option Addr} {len cap : Nat} {zs : List Int} (h : IsRow .u32 w a len cap zs) : ∃ d : List Nat, d.length = len ∧ Row w a cap d := by
  rcases h with ⟨rfl, rfl, rfl, rfl⟩ | ⟨x, rfl, hl, hm, hz, hc, hw⟩
  · exact ⟨[], rfl, Row.nil _⟩
  · unfold maxLen at hm
    have hb : ∀ i, i < cap → 0 ≤ zs.getD i 0 ∧ zs.getD i 0 < 4294967296 := by
      intro i hi
      have hm : zs.getD i 0 ∈ zs := by
        rw [List.getD_eq_getElem?_getD, List.getElem?_eq_getElem (by omega)]
        exact List.getElem_mem _
      have := hw _ hm
      simp [Lit.wf, IntKind.min, IntKind.max, IntKind.signed, IntKind.bits] at this
      rw [List.getD_eq_getElem?_getD]
      omega
    refine ⟨(zs.take len).map Int.toNat, by simp; omega, by simp; omega, by omega, ?_, ?_⟩
    · intro y hy
      obtain ⟨z, hz1, rfl⟩ := List.mem_map.1 hy
      have hz2 := List.mem_of_mem_take hz1
      have := hw _ hz2
      simp [Lit.wf, IntKind.min, IntKind.max, IntKind.signed, IntKind.bits] at this
      omega
    · intro h0
      simp only [List.length_map, List.length_take] at h0
      obtain ⟨b, o, s⟩ := x
      have hs : s = none := by simpa [Addr.add] using World.cell?_spot (hc 0 (by omega))
      subst hs
      refine ⟨b, o, rfl, World.block_lt_of_cell? w _ (hc 0 (by omega)), fun i hi => ?_⟩
      simp only [List.length_map, List.length_take] at hi
      have h1 := hc i (by omega)
      have h2 := hb i (by omega)
      rw [add_none] at h1
      rw [h1, List.getElem?_map, List.getElem?_take_of_lt (by omega)]
      rw [List.getD_eq_getElem?_getD] at h2 ⊢
      rw [List.getElem?_eq_getElem (by omega)] at h2 ⊢
      simp only [Option.getD_some, Option.map_some] at h2 ⊢
      rw [Int.toNat_of_nonneg h2.1]
set_option maxRecDepth 100000 in
theorem row_open {H : Type} {enc : TypeId × Value → H} {W : World} {m : Nat} {v : Value} {y : DataW H × List MemPlace} (h : DataW.trod enc Tryd.prog W 0 (fun _ => true) true m 23 [v] = some y) : ∃ a len cap d, v = .slice a len cap ∧ d.length = len ∧ Row W a cap d := by
  rcases open_ints Tryd.underlying23 Tryd.underlying67 (by kernel_rfl) h with ⟨hcs, _⟩ | ⟨x, l, c, zs, hcs, _, hl, hm, hz, _, hcell, hwz⟩
  · simp at hcs
    subst hcs
    exact ⟨none, 0, 0, [], rfl, rfl, Row.nil _⟩
  · simp at hcs
    subst hcs
    obtain ⟨d, h1, h2⟩ := IsRow.row (.inr ⟨x, rfl, hl, hm, by simpa using hz, hcell, hwz⟩ : IsRow .u32 W (some x) l c zs)
    exact ⟨some x, l, c, d, rfl, h1, h2⟩

set_option maxRecDepth 100000 in
theorem int_of {W : World} {base : Nat} {v : Value} (h : Cell.okWide Tryd.prog W .any base 3 v) : ∃ z, v = .int .i64 z ∧ In64 z := by
  have hu := Tryd.underlying3
  unfold Cell.okWide at h
  rw [hu] at h
  cases v with
  | int k z =>
    simp only [Cell.ok, hu, IntKind.has] at h
    obtain ⟨rfl, h1, h2⟩ := h
    simp [IntKind.min, IntKind.max, IntKind.signed, IntKind.bits] at h1 h2
    exact ⟨z, rfl, h1, h2⟩
  | _ => simp [Cell.ok, hu] at h
set_option maxRecDepth 100000 in
/-- An array of ints that came in. -/
theorem ints_arr {W : World} {base n k : Nat} {t e : TypeId} {v : Value} (hu : Tryd.prog.underlying t = some (.array k e)) (hC : Tryd.prog.cellsOf t = n) (hT : Tryd.prog.cellTypes Tryd.prog.depth t = some (List.replicate n 3))
    (hv : Value.okWide Tryd.prog W .any base t v) : ∃ L : List Int, L.length = n ∧ v = .agg (L.map (Value.int .i64)).toArray ∧ ∀ z ∈ L, In64 z := by
  unfold Value.okWide at hv
  rw [hu] at hv
  obtain ⟨cs, rfl, hsz, ts, hts, _, hc⟩ := hv
  rw [hC] at hsz
  obtain rfl : List.replicate n 3 = ts := Option.some.inj (hT.symm.trans hts)
  have hz : ∀ i, i < n → ∃ z, cs[i]? = some (.int .i64 z) ∧ In64 z := by
    intro i hi
    have hq : cs[i]? = some cs[i] := Array.getElem?_eq_getElem (by omega)
    obtain ⟨u, h1, h2⟩ := hc i _ hq
    rw [List.length_replicate, Nat.mod_eq_of_lt hi, List.getElem?_replicate, if_pos hi] at h1
    cases h1
    obtain ⟨z, h3, h4⟩ := int_of h2
    exact ⟨z, by rw [hq, h3], h4⟩
  have key : ∀ l : List Value, (∀ v ∈ l, ∃ z, v = .int .i64 z ∧ In64 z) → ∃ L : List Int, L.length = l.length ∧ l = L.map (Value.int .i64) ∧ ∀ z ∈ L, In64 z := by
    intro l
    induction l with
    | nil => exact fun _ => ⟨[], rfl, rfl, fun z h => by cases h⟩
    | cons x l ih =>
      intro h
      obtain ⟨z, rfl, hz⟩ := h x (List.mem_cons_self ..)
      obtain ⟨L, h1, h2, h3⟩ := ih (fun v hv => h v (List.mem_cons_of_mem _ hv))
      refine ⟨z :: L, by simp [h1], by rw [List.map_cons, ← h2], fun y hy => ?_⟩
      rcases List.mem_cons.1 hy with rfl | hy
      · exact hz
      · exact h3 y hy
  obtain ⟨L, h1, h2, h3⟩ := key cs.toList (fun v hv => by
    obtain ⟨i, hi, rfl⟩ := List.getElem_of_mem hv
    simp only [Array.length_toList] at hi
    obtain ⟨z, h1, h2⟩ := hz i (by omega)
    rw [Array.getElem?_eq_getElem hi] at h1
    exact ⟨z, by simpa using h1, h2⟩)
  exact ⟨L, by simpa [hsz] using h1, by rw [← h2], h3⟩
set_option maxRecDepth 100000 in
theorem num_list {H : Type} {enc : TypeId × Value → H} {W : World} {m : Nat} {c0 c1 : Value} {y : DataW H × List MemPlace} (h : DataW.trod enc Tryd.prog W 0 (fun _ => true) true m 25 [c0, c1] = some y) : ∃ n a len cap X, c0 = .bool n ∧ c1 = .slice a len cap ∧ NR W n a len cap X := by
  obtain ⟨xs, k, _, _, _, hx, hi⟩ := DataW.trod_struct Tryd.underlying25 h
  have b1 : Tryd.prog.cellsOf 4 = 1 := by kernel_rfl
  have b2 : Tryd.prog.cellsOf 23 = 1 := by kernel_rfl
  have g0 : DataW.trod enc Tryd.prog W 0 (fun _ => true) true k 4 (List.take (Tryd.prog.cellsOf 4) (List.drop 0 [c0, c1])) = xs[0]? := hi 0 _ rfl
  have g1 : DataW.trod enc Tryd.prog W 0 (fun _ => true) true k 23 (List.take (Tryd.prog.cellsOf 23) (List.drop 1 [c0, c1])) = xs[1]? := hi 1 _ rfl
  rw [b1] at g0
  rw [b2] at g1
  simp only [List.drop_zero, List.take_succ_cons, List.take_zero, List.drop_succ_cons] at g0 g1
  have hx2 : xs.length = 2 := hx
  obtain ⟨x0, x1, rfl⟩ : ∃ x0 x1, xs = [x0, x1] := by
    match xs, hx2 with
    | [x0, x1], _ => exact ⟨x0, x1, rfl⟩
  obtain ⟨n, e0, _⟩ := DataW.trod_bool Tryd.underlying4 g0
  obtain ⟨a, len, cap, d, e1, h1, h2⟩ := row_open g1
  simp at e0
  exact ⟨n, a, len, cap, ⟨n, d⟩, e0, e1, rfl, h1.symm, h2⟩
set_option maxRecDepth 100000 in
/-- A root that came in. -/
theorem root_open {H : Type} {enc : TypeId × Value → H} {W : World} {base : Nat} {v : Value} {d : DataW H} {p : List MemPlace} (hv : Value.okWide Tryd.prog W .any base 27 v) (h : DataW.Trod enc Tryd.prog W 0 (fun _ => true) true 27 v d p) :
    ∃ add s n p l c m q k dd X Y, v = .agg #[.int .i64 add, .int .i64 s, .bool n, .slice p l c, .bool m, .slice q k dd] ∧ In64 add ∧ In64 s ∧ NR W n p l c X ∧ NR W m q k dd Y := by
  unfold Value.okWide at hv
  rw [Tryd.underlying27] at hv
  obtain ⟨cs, rfl, hsz, ts, hts, _, hc⟩ := hv
  have hC : Tryd.prog.cellsOf 27 = 6 := by kernel_rfl
  have hT : Tryd.prog.cellTypes Tryd.prog.depth 27 = some [3, 3, 4, 23, 4, 23] := by kernel_rfl
  rw [hC] at hsz
  obtain rfl := Option.some.inj (hT.symm.trans hts)
  obtain ⟨c0, c1, c2, c3, c4, c5, rfl⟩ : ∃ c0 c1 c2 c3 c4 c5, cs = #[c0, c1, c2, c3, c4, c5] := by
    obtain ⟨l⟩ := cs
    match l, hsz with
    | [c0, c1, c2, c3, c4, c5], _ => exact ⟨c0, c1, c2, c3, c4, c5, rfl⟩
  obtain ⟨u, hu1, hu2⟩ := hc 0 c0 rfl
  cases hu1
  obtain ⟨add, rfl, ia⟩ := int_of hu2
  obtain ⟨u, hu1, hu2⟩ := hc 1 c1 rfl
  cases hu1
  obtain ⟨s, rfl, is⟩ := int_of hu2
  obtain ⟨fuel, hf⟩ := h
  obtain ⟨xs, k, _, _, _, hx, hi⟩ := DataW.trod_struct Tryd.underlying27 hf
  have g2 : DataW.trod enc Tryd.prog W 0 (fun _ => true) true k 25 (List.take (Tryd.prog.cellsOf 25) (List.drop 2 [.int .i64 add, .int .i64 s, c2, c3, c4, c5])) = xs[2]? := hi 2 _ rfl
  have g3 : DataW.trod enc Tryd.prog W 0 (fun _ => true) true k 25 (List.take (Tryd.prog.cellsOf 25) (List.drop 4 [.int .i64 add, .int .i64 s, c2, c3, c4, c5])) = xs[3]? := hi 3 _ rfl
  rw [cells25] at g2 g3
  simp only [List.take_succ_cons, List.take_zero, List.drop_succ_cons, List.drop_zero] at g2 g3
  have hx2 : xs.length = 4 := hx
  obtain ⟨x0, x1, x2, x3, rfl⟩ : ∃ x0 x1 x2 x3, xs = [x0, x1, x2, x3] := by
    match xs, hx2 with
    | [x0, x1, x2, x3], _ => exact ⟨x0, x1, x2, x3, rfl⟩
  obtain ⟨n, a, len, cap, X, rfl, rfl, nX⟩ := num_list g2
  obtain ⟨m, b, l2, cap2, Y, rfl, rfl, nY⟩ := num_list g3
  exact ⟨add, s, n, a, len, cap, m, b, l2, cap2, X, Y, rfl, ia, is, nX, nY⟩
end Go.Proofs.YtghgggaimijcaaaDoor.fin

namespace Go.Proofs.YtghgggaimijcaaaDoor
open Go.RowKit

/-- The remainder, from 0 to m - 1. -/
def modB (n m : Int) : Int := (n.tmod m + m).tmod m
theorem tmodB_bd (n : Int) {m : Int} (h : 0 < m) : -m < n.tmod m ∧ n.tmod m < m := by
  have h1 := Int.tmod_lt_of_pos n h
  have h2 := Int.tmod_lt_of_pos (-n) h
  rw [Int.neg_tmod] at h2
  omega
theorem modB_bd (n : Int) {m : Int} (h : 0 < m) : 0 ≤ modB n m ∧ modB n m < m := by
  obtain ⟨h1, h2⟩ := tmodB_bd n h
  exact ⟨Int.tmod_nonneg _ (by omega), Int.tmod_lt_of_pos _ h⟩
def madeN (q1 q2 q3 : Int) : Int := if q1.tmod 5 = 4 then modB q2 100 * modB q2 100 * (1 + modB q3 12) else modB q2 100
/-- The root that numbers make. -/
def madeR (q0 q1 q2 q3 : Int) : Rt :=
  if q1.tmod 7 = 6 then rootOf q0 (modB q1 3 - 1) (q2.natAbs * q2.natAbs) (1 + modB q3 1099511627776).toNat
  else rootOf (q0.tmod 30) (modB q1 3 - 1) (madeN q1 q2 q3).toNat (1 + modB q3 12).toNat
theorem madeN_bd (q1 q2 q3 : Int) : 0 ≤ madeN q1 q2 q3 ∧ madeN q1 q2 q3 ≤ 120000 := by
  have h1 := modB_bd q2 (m := 100) (by decide)
  have h2 := modB_bd q3 (m := 12) (by decide)
  have h3 : 0 ≤ modB q2 100 * modB q2 100 := Int.mul_nonneg h1.1 h1.1
  have h4 : modB q2 100 * modB q2 100 ≤ 99 * 99 := Int.mul_le_mul (by omega) (by omega) h1.1 (by decide)
  have h5 : 0 ≤ modB q2 100 * modB q2 100 * (1 + modB q3 12) := Int.mul_nonneg h3 (by omega)
  have h6 : modB q2 100 * modB q2 100 * (1 + modB q3 12) ≤ 99 * 99 * 12 := Int.mul_le_mul h4 (by omega) (by omega) (by decide)
  unfold madeN
  split <;> omega
theorem made_small (q0 q1 q2 q3 : Int) : ofP (q0.tmod 30) (modB q1 3 - 1) (ofZ (madeN q1 q2 q3)) (ofZ (1 + modB q3 12)) = (rootOf (q0.tmod 30) (modB q1 3 - 1) (madeN q1 q2 q3).toNat (1 + modB q3 12).toNat, true) := by
  have h1 := modB_bd q1 (m := 3) (by decide)
  have h2 := modB_bd q3 (m := 12) (by decide)
  have h3 := madeN_bd q1 q2 q3
  have hp : (200000 : Nat) < 4294967296 ^ 8 := by decide +kernel
  have := ofP_nat (add := q0.tmod 30) (s := modB q1 3 - 1) (n := (madeN q1 q2 q3).toNat) (d := (1 + modB q3 12).toNat) (by omega) (by omega) (by omega) (by omega)
  rwa [Int.toNat_of_nonneg h3.1, Int.toNat_of_nonneg (by omega)] at this
theorem made_big (q0 q1 q2 q3 : Int) (h : -9223372036854775808 ≤ q2 ∧ q2 ≤ 9223372036854775807) : ofP q0 (modB q1 3 - 1) (ofZ ((q2.natAbs * q2.natAbs : Nat) : Int)) (ofZ (1 + modB q3 1099511627776)) = (rootOf q0 (modB q1 3 - 1) (q2.natAbs * q2.natAbs) (1 + modB q3 1099511627776).toNat, true) := by
  have h1 := modB_bd q1 (m := 3) (by decide)
  have h2 := modB_bd q3 (m := 1099511627776) (by decide)
  have hp : (9223372036854775809 * 9223372036854775809 : Nat) < 4294967296 ^ 8 := by decide +kernel
  have hq : q2.natAbs * q2.natAbs ≤ 9223372036854775809 * 9223372036854775809 := Nat.mul_le_mul (by omega) (by omega)
  have := ofP_nat (add := q0) (s := modB q1 3 - 1) (n := q2.natAbs * q2.natAbs) (d := (1 + modB q3 1099511627776).toNat) (by omega) (by omega) (by omega) (by omega)
  rwa [Int.toNat_of_nonneg (show 0 ≤ 1 + modB q3 1099511627776 by omega)] at this
theorem made_ok (q0 q1 q2 q3 : Int) (h : -9223372036854775808 ≤ q2 ∧ q2 ≤ 9223372036854775807) : (madeR q0 q1 q2 q3).Ok ∧ (madeR q0 q1 q2 q3).right = true ∧ Dig (madeR q0 q1 q2 q3).n.d ∧ Dig (madeR q0 q1 q2 q3).d.d := by
  have dg : ∀ z, Dig (ofZ z).d := fun z => dig_digs _
  have dr : ∀ add s n d, Dig (rootOf add s n d).n.d ∧ Dig (rootOf add s n d).d.d := by
    intro add s n d
    unfold rootOf
    split
    · exact ⟨Dig.nil, dg _⟩
    · exact ⟨dg _, dg _⟩
  unfold madeR
  split
  · obtain ⟨k1, k2, _⟩ := ofP_ok (dg _) (dg _) (made_big q0 q1 q2 q3 h)
    exact ⟨k1, right_of k2 k1.nr k1.dr, dr _ _ _ _⟩
  · obtain ⟨k1, k2, _⟩ := ofP_ok (dg _) (dg _) (made_small q0 q1 q2 q3)
    exact ⟨k1, right_of k2 k1.nr k1.dr, dr _ _ _ _⟩
theorem made_add (q0 q1 q2 q3 : Int) (h : -9223372036854775808 ≤ q0 ∧ q0 ≤ 9223372036854775807) : -9223372036854775808 ≤ (madeR q0 q1 q2 q3).add ∧ (madeR q0 q1 q2 q3).add ≤ 9223372036854775807 := by
  have ra : ∀ add s n d, (rootOf add s n d).add = add := by intro add s n d; unfold rootOf; split <;> rfl
  have hb := tmodB_bd q0 (m := 30) (by decide)
  unfold madeR
  split
  · rw [ra]; exact h
  · rw [ra]; omega
end Go.Proofs.YtghgggaimijcaaaDoor
