/- More steps: new variables of two cells that a statement makes and fills. -/
import Derived.Test.YtdaaknfmodbjcaaDoorJ07
set_option linter.unusedVariables false
set_option linter.unusedSimpArgs false

namespace Go.Proofs.YtdaaknfmodbjcaaDoor
open Go.RowKit

/-- What is known of blocks below n alone. -/
def FKeep (n : Nat) (S : World → Prop) : Prop := ∀ W W', S W → Below n W W' → S W'
theorem FKeep.mono {n : Nat} {S : World → Prop} (h : FKeep n S) (hn : ∀ W, S W → n ≤ W.heap.size) : FMono S := fun W W' hs hb => h W W' hs (hb.mono (hn W hs))

/-- Only block g has changed. -/
structure OnlyB (g : Nat) (W W' : World) : Prop where
  os : W'.os = W.os
  tape : W'.tape = W.tape
  output : W'.output = W.output
  size : W'.heap.size = W.heap.size
  block : ∀ k, k ≠ g → W'.heap[k]? = W.heap[k]?
theorem OnlyB.below {g n : Nat} {W W' : World} (h : OnlyB g W W') (hn : n ≤ g) : Below n W W' := ⟨h.os, h.tape, h.output, by rw [h.size]; exact Nat.le_refl _, fun k hk => h.block k (by omega)⟩

/-- R does not hang on block g, which holds obj. -/
def RK (g : Nat) (obj : Obj) (R : World → Prop) : Prop := ∀ W W', R W → W.heap[g]? = some obj → OnlyB g W W' → R W'
theorem RK.and {g : Nat} {obj : Obj} {A B : World → Prop} (ha : RK g obj A) (hb : RK g obj B) : RK g obj (fun W => A W ∧ B W) := fun W W' h ho hb' => ⟨ha W W' h.1 ho hb', hb W W' h.2 ho hb'⟩
theorem RK.keep {g n : Nat} {obj : Obj} {S : World → Prop} (h : FKeep n S) (hn : n ≤ g) : RK g obj S := fun W W' hs _ hb => h W W' hs (hb.below hn)
theorem RK.obj {g g' : Nat} {obj o' : Obj} (hn : g' ≠ g) : RK g obj (fun W => W.heap[g']? = some o') := fun W W' h _ hb => by
  show W'.heap[g']? = some o'
  rw [hb.block g' hn]; exact h
theorem RK.nr {g : Nat} {a b : Value} {T : TypeId} {n : Bool} {p : Option Addr} {l c : Nat} {x : Nm} (ha : ∀ z, a ≠ .int .u32 z) (hb : ∀ z, b ≠ .int .u32 z) : RK g (.cells #[a, b] T) (fun W => NR W n p l c x) := fun W W' h ho hk => by
  obtain ⟨h1, h2, h3, h4, h5, h6⟩ := h
  refine ⟨h1, h2, h3, h4, h5, fun h0 => ?_⟩
  obtain ⟨B, o, rfl, hlt, hc⟩ := h6 h0
  have hne : B ≠ g := by
    intro e
    subst e
    have := hc 0 h0
    rw [cell_of_row _ _ _ _ _ _ ho] at this
    rcases o with _ | _ | o
    · simp at this; exact ha _ this
    · simp at this; exact hb _ this
    · simp at this
  refine ⟨B, o, rfl, by rw [hk.size]; exact hlt, fun i hi => ?_⟩
  rw [← hc i hi]
  exact World.cell?_of_block (hk.block B hne)
theorem fmono_nr (n : Bool) (p : Option Addr) (l c : Nat) (x : Nm) : FMono (fun W => NR W n p l c x) := fun _ _ h hb => h.ext hb

theorem store2 {W : World} {g : Nat} {a b x y : Value} {T : TypeId} (h : W.heap[g]? = some (.cells #[a, b] T)) :
    OnlyB g W ((W.setCell ⟨g, 0, none⟩ x).setCell ⟨g, 1, none⟩ y) ∧ ((W.setCell ⟨g, 0, none⟩ x).setCell ⟨g, 1, none⟩ y).heap[g]? = some (.cells #[x, y] T) := by
  have hlt := (Array.getElem?_eq_some_iff.1 h).1
  refine ⟨⟨rfl, rfl, rfl, by simp [World.setCell], fun k hk => ?_⟩, ?_⟩
  · rw [Below.heap_setCell _ _ _ _ (by simpa using hk), Below.heap_setCell _ _ _ _ (by simpa using hk)]
  · have e : W.heap[g] = .cells #[a, b] T := by
      rw [Array.getElem?_eq_getElem hlt] at h; simpa using h
    simp [World.setCell, hlt, Array.getElem_modify, e]

section
variable {P : Program} {ops : Array Oper} {S : World → Prop} {Q : Act → World → Prop} {o : Oper} {l : List Oper} {a : Act} {own : List Nat} {F : World → Prop}
/-- A store into a new variable of two cells. -/
theorem F_store2 (R : World → Prop) (g : Nat) (u v x y : Value) (T : TypeId) (hk : fkind o = 3) (hw : Region.wanted o (yielded ops a.tmps) = true)
    (hrun : ∀ W : World, W.cell? ⟨g, 0, none⟩ = some u → W.cell? ⟨g, 1, none⟩ = some v → (∀ o, W.frozen? ⟨g, o, none⟩ = false) → (execOp a.eval o).run P W = .ok .skip ((W.setCell ⟨g, 0, none⟩ x).setCell ⟨g, 1, none⟩ y))
    (hF : ∀ W, F W → R W ∧ W.heap[g]? = some (.cells #[u, v] T)) (hR : RK g (.cells #[u, v] T) R) (hm : FMono R) (hs : ∀ W, R W → S W)
    (h : WpF P ops S Q l (a.put o.dst undef) own (fun W => (R W ∧ W.heap[g]? = some (.cells #[x, y] T)) ∧ ∀ g ∈ own, g < W.heap.size)) : WpF P ops S Q (o :: l) a own F := by
  refine F_store (fun W => R W ∧ W.heap[g]? = some (.cells #[x, y] T)) (hm.and (fmono_obj _ _)) (fun W h => hs W h.1) hk hw (fun W hf => ?_) h
  obtain ⟨hr, hb⟩ := hF W hf
  obtain ⟨c0, c1, cf, hlt⟩ := pt_block hb
  unfold Gives
  rw [hrun W c0 c1 cf]
  obtain ⟨k1, k2⟩ := store2 (x := x) (y := y) hb
  exact ⟨rfl, by rw [k1.size]; exact Nat.le_refl _, hR W _ hr hb k1, k2⟩
end

theorem wp_region_K {P : Program} {id : Nat} {l : List Oper} {Q : Exit → Act → World → Prop} {a : Act} {w : World} (n : Nat) (S : World → Prop) (hm : P.follows .mixedOrders = true) (hB : floatB l.toArray = true) (hS : S w)
    (hk : FKeep n S) (hn : ∀ W, S W → n ≤ W.heap.size)
    (h : WpF P l.toArray S (fun a w => Q .normal a w) l a (List.range n) S) : (Code.region id l.toArray true).wp P Q a w := by
  refine wp_region_any hm ?_
  have hd : Below w.heap.size w { w with drawn := w.drawn + 1 } := ⟨rfl, rfl, rfl, Nat.le_refl _, fun _ _ => rfl⟩
  exact wpAny_of_FL S S hB n (hk.mono hn) (fun _ h => h) hn (hk.mono hn _ _ hS hd) h
theorem wp_region_Ks {P : Program} {id : Nat} {l : List Oper} {Q : Exit → Act → World → Prop} {a : Act} {w : World} (n : Nat) (S : World → Prop) (hS : S w) (hk : FKeep n S) (hn : ∀ W, S W → n ≤ W.heap.size)
    (h : WpF P l.toArray S (fun a w => Q .normal a w) l a (List.range n) S) : (Code.region id l.toArray false).wp P Q a w :=
  wp_region_lit (wpList_of_F ⟨hk.mono hn, fun _ h => h, fun W h g hg => Nat.lt_of_lt_of_le (List.mem_range.1 hg) (hn W h), ⟨w, hS⟩⟩ hS h)
end Go.Proofs.YtdaaknfmodbjcaaDoor
