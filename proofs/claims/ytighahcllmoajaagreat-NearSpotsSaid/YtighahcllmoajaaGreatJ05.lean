/- The steps of a walk by XRegion's rule. | More steps: new variables of two cells that a statement makes and fills. | The rule's beginnings and stores, with their side goals closed by default. | Contract: root.guarded, of a function that gives an int. | Contracts: points and vectors (vec, etchantref05). -/
import Derived.Test.YtighahcllmoajaaGreatJ01
import Derived.Test.YtighahcllmoajaaGreatJ02
import Derived.Deep.DrawnRows
import Derived.Laws.Tables
import Derived.Laws.Rows
import Derived.Laws.CopyRow
set_option linter.unusedVariables false
set_option linter.unusedSimpArgs false

namespace Go.Proofs.YtighahcllmoajaaGreat
open Go.RowKit
section
variable {P : Program} {ops : Array Oper} {S : World -> Prop} {Q : Act -> World -> Prop} {o : Oper} {l : List Oper} {a : Act} {own : List Nat} {F : World -> Prop}
theorem F_skip (hw : Region.wanted o (yielded ops a.tmps) = false) (h : WpF P ops S Q l (a.put o.dst undef) own F) : WpF P ops S Q (o :: l) a own F :=
 .pure undef (.inr ⟨hw, rfl⟩) h
theorem F_run {v : Value} (hw : Region.wanted o (yielded ops a.tmps) = true) (hr : ∀ w, S w -> (execOp a.eval o).run P w = .ok (.value v) w) (h : WpF P ops S Q l (a.put o.dst v) own F) :
  WpF P ops S Q (o :: l) a own F := .pure v (.inl ⟨hw, hr⟩) h
theorem F_put {a' : Act} (h : WpF P ops S Q l a' own F) (ha : a = a' := by (simp only [Act.put, List.setIfInBounds_toArray, List.set_cons_zero, List.set_cons_succ]; rfl)) : WpF P ops S Q l a own F := by subst ha; exact h
theorem F_s {a' : Act} (h : WpF P ops S Q l a' own F) (hw : Region.wanted o (yielded ops a.tmps) = false := by rfl) (ha : a.put o.dst undef = a' := by (simp only [Act.put, List.setIfInBounds_toArray, List.set_cons_zero, List.set_cons_succ]; rfl)) : WpF P ops S Q (o :: l) a own F := by
 subst ha
 exact .pure undef (.inr ⟨hw, rfl⟩) h
theorem F_r {a' : Act} {v : Value} (h : WpF P ops S Q l a' own F) (hk : fkind o = 0 := by rfl) (hw : Region.wanted o (yielded ops a.tmps) = true := by rfl) (hr : ∀ w, S w -> (execOp a.eval o).run P w = .ok (.value v) w := by (intro W hW; (try dsimp only at hW); go_simp; try with_reducible rfl)) (ha : a.put o.dst v = a' := by (simp only [Act.put, List.setIfInBounds_toArray, List.set_cons_zero, List.set_cons_succ]; rfl)) :
  WpF P ops S Q (o :: l) a own F := by
 subst ha
 exact .pure v (.inl ⟨hw, hr⟩) h
theorem F_move (x : Operand) {v : Value} (hx : o.op = .move x) (hw : Region.wanted o (yielded ops a.tmps) = true) (hv : a.eval x = v) (h : WpF P ops S Q l (a.put o.dst v) own F) :
  WpF P ops S Q (o :: l) a own F := F_run hw (fun w _ => by rw [BigFrame.run_move x hx, hv]) h
theorem F_assign (x : Operand) {v : Value} (hx : o.op = .assign x) (hw : Region.wanted o (yielded ops a.tmps) = true) (hv : a.eval x = v) (h : WpF P ops S Q l (a.put o.dst v) own F) :
  WpF P ops S Q (o :: l) a own F := F_run hw (fun w _ => by rw [BigFrame.run_assign x hx, hv]) h
theorem F_alloc (obj : Obj) (hk : fkind o = 1) (hw : Region.wanted o (yielded ops a.tmps) = true)
  (hr : ∀ w, S w -> (execOp a.eval o).run P w = .ok (.value (.pointer (some ⟨w.heap.size, 0, none⟩))) (w.alloc obj))
  (h : ∀ g, g ∉ own -> WpF P ops S Q l (a.put o.dst (.pointer (some ⟨g, 0, none⟩))) (g :: own) (fun w => F w /\ w.heap[g]? = some obj)) (hp : ∀ g, shp o g = .pointer (some ⟨g, 0, none⟩) := by intro g; rfl) : WpF P ops S Q (o :: l) a own F :=
 .flo hk hw obj (fun w hs => by rw [hp]; exact hr w hs) fun g hg _ => by rw [hp]; exact h g hg
theorem F_block (k : Nat) (obj : Obj) (T : Nat -> World -> Prop) (hk : fkind o = 1) (hw : Region.wanted o (yielded ops a.tmps) = true) (hp : ∀ g, shp o g = .slice (some ⟨g, 0, none⟩) k k)
  (hr : ∀ w, S w -> (execOp a.eval o).run P w = .ok (.value (.slice (some ⟨w.heap.size, 0, none⟩) k k)) (w.alloc obj)) (hT : ∀ g w, F w -> w.heap[g]? = some obj -> T g w)
  (h : ∀ g, WpF P ops S Q l (a.put o.dst (.slice (some ⟨g, 0, none⟩) k k)) own (fun w => F w /\ T g w)) : WpF P ops S Q (o :: l) a own F :=
 .flo hk hw obj (fun w hs => by rw [hp]; exact hr w hs) fun g hg _ => by rw [hp]; exact (h g).weak (fun w h => ⟨h.1, hT g w h.1 h.2⟩) (fun x hx => List.mem_cons_of_mem _ hx)
theorem Gives.imp {w : World} {R R' : Value -> World -> Prop} (h : Gives P o a w R) (hi : ∀ v w', R v w' -> R' v w') : Gives P o a w R' := by
 unfold Gives at *
 generalize (execOp a.eval o).run P w = r at *
 cases r with
 | ok n w' =>
  cases n <;> simp only [givesU] at h ⊢
  ·exact hi _ _ h
  ·exact hi _ _ h
  ·exact h.mono fun e w'' ⟨v, he, hr⟩ => ⟨v, he, hi _ _ hr⟩
 | halt x w' => simp only [givesU] at h
theorem F_call {v : Value} (hk : fkind o = 2) (hw : Region.wanted o (yielded ops a.tmps) = true)
  (hg : ∀ w, F w -> Gives P o a w (fun u w' => u = v /\ Below w.heap.size w w')) (h : WpF P ops S Q l (a.put o.dst v) own F) : WpF P ops S Q (o :: l) a own F := by
 refine .eff hk hw Unit (fun _ => v) (fun _ _ => True) (fun _ _ _ h _ => h) (fun w hf => ?_) (fun t ht => ?_)
 ·have := hg w hf
  unfold Gives at *
  generalize (execOp a.eval o).run P w = r at *
  cases r with
  | ok n w' =>
   cases n <;> simp only [givesU] at this ⊢
   ·exact ⟨(), this.1, this.2, trivial⟩
   ·exact ⟨(), this.1, this.2, trivial⟩
   ·exact this.mono fun e w'' ⟨v, he, hr⟩ => ⟨v, he, (), hr.1, hr.2, trivial⟩
  | halt x w' => simp only [givesU] at this
 ·have e : (fun w => F w /\ True) = F := by funext w; simp
  rw [e]
  exact h
theorem F_callE {I : Type} (sh : I -> Value) (T : I -> World -> Prop) (hm : ∀ t, FMono (T t)) (hk : fkind o = 2) (hw : Region.wanted o (yielded ops a.tmps) = true)
  (hg : ∀ w, F w -> Gives P o a w (fun v w' => ∃ t, v = sh t /\ Below w.heap.size w w' /\ T t w'))
  (h : ∀ t, (∃ w, F w /\ T t w) -> WpF P ops S Q l (a.put o.dst (sh t)) own (fun w => F w /\ T t w)) : WpF P ops S Q (o :: l) a own F :=
 .eff hk hw I sh T hm hg h
theorem F_store (T : World -> Prop) (hm : FMono T) (hs : ∀ w, T w -> S w) (hk : fkind o = 3) (hw : Region.wanted o (yielded ops a.tmps) = true)
  (hg : ∀ w, F w -> Gives P o a w (fun v w' => v = undef /\ w.heap.size <= w'.heap.size /\ T w'))
  (h : WpF P ops S Q l (a.put o.dst undef) own (fun w => T w /\ ∀ g ∈ own, g < w.heap.size)) : WpF P ops S Q (o :: l) a own F :=
 .sto hk hw Unit (fun _ => undef) (fun _ => T) (fun _ => hm) (fun _ => hs) (fun w hf => (hg w hf).imp fun _ _ h => ⟨(), h⟩) fun _ _ => h
theorem F_storeE {I : Type} (sh : I -> Value) (T : I -> World -> Prop) (hm : ∀ t, FMono (T t)) (hs : ∀ t w, T t w -> S w) (hk : fkind o = 3) (hw : Region.wanted o (yielded ops a.tmps) = true)
  (hg : ∀ w, F w -> Gives P o a w (fun v w' => ∃ t, v = sh t /\ w.heap.size <= w'.heap.size /\ T t w'))
  (h : ∀ t, WpF P ops S Q l (a.put o.dst (sh t)) own (fun w => T t w /\ ∀ g ∈ own, g < w.heap.size)) : WpF P ops S Q (o :: l) a own F :=
 .sto hk hw I sh T hm hs hg fun t _ => h t
theorem gives_enter {w : World} {f : FuncId} {args : Array Value} {R : Value -> World -> Prop} (hx : (execOp a.eval o).run P w = .ok (.enter f args) w)
  (h : Calls P f args w (fun e w' => ∃ v, e = .returned v /\ R v w')) : Gives P o a w R := by
 unfold Gives; rw [hx]; exact h
end
theorem wpList_of_F {P : Program} {ops : Array Oper} {S : World -> Prop} {Q : Exit -> Act -> World -> Prop} : ∀ {l : List Oper} {a : Act} {own : List Nat} {F : World -> Prop} {w : World}, InvF S own F -> F w -> WpF P ops S (fun a w => Q .normal a w) l a own F -> wpList P ops Q l a w
 | [], _, _, _, w, _, hw, h => h w hw
 | o :: l, a, own, F, w, hi, hw, h => by
  unfold wpList
  cases h with
  | pure v hy h =>
   rcases hy with ⟨h1, h2⟩ | ⟨h1, rfl⟩
   ·rw [if_pos h1]
    refine .inl ?_
    unfold Oper.wp
    rw [h2 w (hi.held w hw)]
    exact wpList_of_F hi hw h
   ·rw [if_neg (by rw [h1]; exact Bool.false_ne_true)]
    exact wpList_of_F hi hw h
  | flo hk hwant obj hr h =>
   rw [if_pos hwant]
   refine .inl ?_
   unfold Oper.wp
   rw [hr w (hi.held w hw)]
   have hs : ∃ w' : World, F w' /\ w'.heap[w.heap.size]? = some obj := ⟨{ w with heap := w.heap.push obj }, hi.mono _ _ hw (below_push w obj), by simp⟩
   exact wpList_of_F (hi.flo obj _ hs) ⟨hi.mono _ _ hw (below_push w obj), by simp⟩ (h _ (fun hx => Nat.lt_irrefl _ (hi.own w hw _ hx)) hs)
  | eff hk hwant I sh T hm' hg h =>
   rw [if_pos hwant]
   refine .inl ((hg w hw).wp ?_)
   rintro v w' ⟨t, rfl, hb, ht⟩
   have hs : ∃ w, F w /\ T t w := ⟨w', hi.mono _ _ hw hb, ht⟩
   exact wpList_of_F (hi.eff (hm' t) hs) ⟨hi.mono _ _ hw hb, ht⟩ (h t hs)
  | sto hk hwant I sh T hm' hs hg h =>
   rw [if_pos hwant]
   refine .inl ((hg w hw).wp ?_)
   rintro v w' ⟨t, rfl, hb, ht⟩
   have hx : T t w' /\ ∀ g ∈ own, g < w'.heap.size := ⟨ht, fun g hg => Nat.lt_of_lt_of_le (hi.own w hw g hg) hb⟩
   exact wpList_of_F (InvF.sto (hm' t) (hs t) ⟨w', hx⟩) hx (h t ⟨w', hx⟩)
  | mu hk hwant B hB I sh T hm' hs hg h =>
   rw [if_pos hwant]
   refine .inl ((hg w hw).wp ?_)
   rintro v w' ⟨t, rfl, hb, ht⟩
   have hx : T t w' /\ ∀ g ∈ own, g < w'.heap.size := ⟨ht, fun g hg => Nat.lt_of_lt_of_le (hi.own w hw g hg) hb.1⟩
   exact wpList_of_F (InvF.sto (hm' t) (hs t) ⟨w', hx⟩) hx (h t ⟨w', hx⟩)
theorem wp_region_FCs {P : Program} {id : Nat} {l : List Oper} {Q : Exit -> Act -> World -> Prop} {a : Act} {w : World} (C : World -> Prop) (hC : C w)
  (hmono : ∀ W W', C W -> Below w.heap.size w W -> Below W.heap.size W W' -> C W')
  (h : WpF P l.toArray (fun W => Below w.heap.size w W /\ C W) (fun a w => Q .normal a w) l a (List.range w.heap.size) (fun W => Below w.heap.size w W /\ C W)) : (Code.region id l.toArray false).wp P Q a w :=
 wp_region_lit (wpList_of_F ⟨fun W W' h hb => ⟨h.1.trans (hb.mono h.1.size), hmono W W' h.2 h.1 hb⟩, fun _ h => h, fun W h g hg => Nat.lt_of_lt_of_le (List.mem_range.1 hg) h.1.size, ⟨w, Below.refl _ _, hC⟩⟩ ⟨Below.refl _ _, hC⟩ h)
theorem wp_region_Gs {P : Program} {id : Nat} {l : List Oper} {Q : Exit -> Act -> World -> Prop} {a : Act} {w : World} (S R : World -> Prop) (hSR : S w /\ R w)
  (hmono : FMono fun W => S W /\ R W) (hsz : ∀ W, S W -> w.heap.size <= W.heap.size)
  (h : WpF P l.toArray S (fun a w => Q .normal a w) l a (List.range w.heap.size) (fun W => S W /\ R W)) : (Code.region id l.toArray false).wp P Q a w :=
 wp_region_lit (wpList_of_F ⟨hmono, fun _ h => h.1, fun W h g hg => Nat.lt_of_lt_of_le (List.mem_range.1 hg) (hsz W h.1), ⟨w, hSR⟩⟩ hSR h)
theorem F_callN {P : Program} {ops : Array Oper} {S : World -> Prop} {Q : Act -> World -> Prop} {o : Oper} {l : List Oper} {a : Act} {own : List Nat} {F : World -> Prop} (w0 : World) (x : Nm) (hk : fkind o = 2) (hw : Region.wanted o (yielded ops a.tmps) = true)
  (hg : ∀ w, F w -> Gives P o a w (fun v w' => ∃ n p l c, v = .agg #[.bool n, .slice p l c] /\ NR w' n p l c x /\ New w0 p /\ Ext w w'))
  (h : ∀ n p l' c, New w0 p -> WpF P ops S Q l (a.put o.dst (.agg #[.bool n, .slice p l' c])) own (fun w => F w /\ NR w n p l' c x)) : WpF P ops S Q (o :: l) a own F := by
 refine .eff hk hw (Bool × Option Addr × Nat × Nat) (fun t => .agg #[.bool t.1, .slice t.2.1 t.2.2.1 t.2.2.2]) (fun t w => New w0 t.2.1 /\ NR w t.1 t.2.1 t.2.2.1 t.2.2.2 x) (fun t w w' h hb => ⟨h.1, h.2.ext hb⟩) (fun w hf => ?_) ?_
 ·refine (hg w hf).imp ?_
  rintro v w' ⟨n, p, l, c, rfl, h1, h2, h3⟩
  exact ⟨(n, p, l, c), rfl, h3, h2, h1⟩
 ·rintro ⟨n, p, l', c⟩ ⟨w1, hf, hn, hr⟩
  have e : (fun w => F w /\ New w0 p /\ NR w n p l' c x) = (fun w => F w /\ NR w n p l' c x) := by
   funext w; exact propext ⟨fun ⟨a, _, b⟩ => ⟨a, b⟩, fun ⟨a, b⟩ => ⟨a, hn, b⟩⟩
  have := h n p l' c hn
  rw [<- e] at this
  exact this
theorem pt_block {W : World} {g : Nat} {a b : Value} {T : TypeId} (h : W.heap[g]? = some (.cells #[a, b] T)) : W.cell? ⟨g, 0, none⟩ = some a /\ W.cell? ⟨g, 1, none⟩ = some b /\ (∀ o, W.frozen? ⟨g, o, none⟩ = false) /\ g < W.heap.size := by
 refine ⟨?_, ?_, fun o => ?_, (Array.getElem?_eq_some_iff.1 h).1⟩
 ·rw [cell_of_row _ _ _ _ _ _ h]; rfl
 ·rw [cell_of_row _ _ _ _ _ _ h]; rfl
 ·simp [World.frozen?, h]
theorem ret_bool {a b : Bool} (h : a = b) : Ending.returned (.bool a) = .returned (.bool b) := by rw [h]
theorem ret_int {k : IntKind} {a b : Int} (h : a = b) : Ending.returned (.int k a) = .returned (.int k b) := by rw [h]
def Cell (w : World) (b o : Nat) (v : Value) : Prop := b < w.heap.size /\ w.cell? ⟨b, o, none⟩ = some v
theorem Cell.mono (b o : Nat) (v : Value) : FMono (fun w => Cell w b o v) := fun w w' h hb =>
 ⟨Nat.lt_of_lt_of_le h.1 hb.size, by rw [hb.cell (p := ⟨b, o, none⟩) h.1]; exact h.2⟩
theorem FMono.ext (w0 : World) : FMono (fun w => Ext w0 w) := fun _ _ h hb => Ext.step h hb
end Go.Proofs.YtighahcllmoajaaGreat

namespace Go.Proofs.YtighahcllmoajaaGreat
open Go.RowKit
def FKeep (n : Nat) (S : World -> Prop) : Prop := ∀ W W', S W -> Below n W W' -> S W'
theorem FKeep.mono {n : Nat} {S : World -> Prop} (h : FKeep n S) (hn : ∀ W, S W -> n <= W.heap.size) : FMono S := fun W W' hs hb => h W W' hs (hb.mono (hn W hs))
structure OnlyB (g : Nat) (W W' : World) : Prop where
 os : W'.os = W.os
 tape : W'.tape = W.tape
 output : W'.output = W.output
 size : W'.heap.size = W.heap.size
 block : ∀ k, k ≠ g -> W'.heap[k]? = W.heap[k]?
theorem OnlyB.below {g n : Nat} {W W' : World} (h : OnlyB g W W') (hn : n <= g) : Below n W W' := ⟨h.os, h.tape, h.output, by rw [h.size]; exact Nat.le_refl _, fun k hk => h.block k (by omega)⟩
def RK (g : Nat) (obj : Obj) (R : World -> Prop) : Prop := ∀ W W', R W -> W.heap[g]? = some obj -> OnlyB g W W' -> R W'
theorem RK.and {g : Nat} {obj : Obj} {A B : World -> Prop} (ha : RK g obj A) (hb : RK g obj B) : RK g obj (fun W => A W /\ B W) := fun W W' h ho hb' => ⟨ha W W' h.1 ho hb', hb W W' h.2 ho hb'⟩
theorem RK.keep {g n : Nat} {obj : Obj} {S : World -> Prop} (h : FKeep n S) (hn : n <= g) : RK g obj S := fun W W' hs _ hb => h W W' hs (hb.below hn)
theorem RK.obj {g g' : Nat} {obj o' : Obj} (hn : g' ≠ g) : RK g obj (fun W => W.heap[g']? = some o') := fun W W' h _ hb => by
 show W'.heap[g']? = some o'
 rw [hb.block g' hn]; exact h
theorem RK.nr {g : Nat} {a b : Value} {T : TypeId} {n : Bool} {p : Option Addr} {l c : Nat} {x : Nm} (ha : ∀ z, a ≠ .int .u32 z) (hb : ∀ z, b ≠ .int .u32 z) : RK g (.cells #[a, b] T) (fun W => NR W n p l c x) := fun W W' h ho hk => by
 obtain ⟨h1, h2, h3, h4, h5, h6⟩ := h
 refine ⟨h1, h2, h3, h4, h5, fun h0 => ?_⟩
 obtain ⟨B, o, rfl, hlt, hc⟩ := h6 h0
 have hne : B ≠ g := by
  intro e
  subst e
  have := hc 0 h0
  rw [cell_of_row _ _ _ _ _ _ ho] at this
  rcases o with _ | _ | o
  ·simp at this; exact ha _ this
  ·simp at this; exact hb _ this
  ·simp at this
 refine ⟨B, o, rfl, by rw [hk.size]; exact hlt, fun i hi => ?_⟩
 rw [<- hc i hi]
 exact World.cell?_of_block (hk.block B hne)
theorem fmono_nr (n : Bool) (p : Option Addr) (l c : Nat) (x : Nm) : FMono (fun W => NR W n p l c x) := fun _ _ h hb => h.ext hb
theorem store2 {W : World} {g : Nat} {a b x y : Value} {T : TypeId} (h : W.heap[g]? = some (.cells #[a, b] T)) :
  OnlyB g W ((W.setCell ⟨g, 0, none⟩ x).setCell ⟨g, 1, none⟩ y) /\ ((W.setCell ⟨g, 0, none⟩ x).setCell ⟨g, 1, none⟩ y).heap[g]? = some (.cells #[x, y] T) := by
 have hlt := (Array.getElem?_eq_some_iff.1 h).1
 refine ⟨⟨rfl, rfl, rfl, by simp [World.setCell], fun k hk => ?_⟩, ?_⟩
 ·rw [Below.heap_setCell _ _ _ _ (by simpa using hk), Below.heap_setCell _ _ _ _ (by simpa using hk)]
 ·have e : W.heap[g] = .cells #[a, b] T := by
   rw [Array.getElem?_eq_getElem hlt] at h; simpa using h
  simp [World.setCell, hlt, Array.getElem_modify, e]
section
variable {P : Program} {ops : Array Oper} {S : World -> Prop} {Q : Act -> World -> Prop} {o : Oper} {l : List Oper} {a : Act} {own : List Nat} {F : World -> Prop}
theorem F_store2 (R : World -> Prop) (g : Nat) (u v x y : Value) (T : TypeId) (hk : fkind o = 3) (hw : Region.wanted o (yielded ops a.tmps) = true)
  (hrun : ∀ W : World, W.cell? ⟨g, 0, none⟩ = some u -> W.cell? ⟨g, 1, none⟩ = some v -> (∀ o, W.frozen? ⟨g, o, none⟩ = false) -> (execOp a.eval o).run P W = .ok .skip ((W.setCell ⟨g, 0, none⟩ x).setCell ⟨g, 1, none⟩ y))
  (hF : ∀ W, F W -> R W /\ W.heap[g]? = some (.cells #[u, v] T)) (hR : RK g (.cells #[u, v] T) R) (hm : FMono R) (hs : ∀ W, R W -> S W)
  (h : WpF P ops S Q l (a.put o.dst undef) own (fun W => (R W /\ W.heap[g]? = some (.cells #[x, y] T)) /\ ∀ g ∈ own, g < W.heap.size)) : WpF P ops S Q (o :: l) a own F := by
 refine F_store (fun W => R W /\ W.heap[g]? = some (.cells #[x, y] T)) (hm.and (fmono_obj _ _)) (fun W h => hs W h.1) hk hw (fun W hf => ?_) h
 obtain ⟨hr, hb⟩ := hF W hf
 obtain ⟨c0, c1, cf, hlt⟩ := pt_block hb
 unfold Gives
 rw [hrun W c0 c1 cf]
 obtain ⟨k1, k2⟩ := store2 (x := x) (y := y) hb
 exact ⟨rfl, by rw [k1.size]; exact Nat.le_refl _, hR W _ hr hb k1, k2⟩
end
theorem wp_region_K {P : Program} {id : Nat} {l : List Oper} {Q : Exit -> Act -> World -> Prop} {a : Act} {w : World} (n : Nat) (S : World -> Prop) (hm : P.follows .mixedOrders = true) (hB : floatB l.toArray = true) (hS : S w)
  (hk : FKeep n S) (hn : ∀ W, S W -> n <= W.heap.size)
  (h : WpF P l.toArray S (fun a w => Q .normal a w) l a (List.range n) S) : (Code.region id l.toArray true).wp P Q a w := by
 refine wp_region_any hm ?_
 have hd : Below w.heap.size w { w with drawn := w.drawn + 1 } := ⟨rfl, rfl, rfl, Nat.le_refl _, fun _ _ => rfl⟩
 exact wpAny_of_FL S S hB n (hk.mono hn) (fun _ h => h) hn (hk.mono hn _ _ hS hd) h
theorem wp_region_Ks {P : Program} {id : Nat} {l : List Oper} {Q : Exit -> Act -> World -> Prop} {a : Act} {w : World} (n : Nat) (S : World -> Prop) (hS : S w) (hk : FKeep n S) (hn : ∀ W, S W -> n <= W.heap.size)
  (h : WpF P l.toArray S (fun a w => Q .normal a w) l a (List.range n) S) : (Code.region id l.toArray false).wp P Q a w :=
 wp_region_lit (wpList_of_F ⟨hk.mono hn, fun _ h => h, fun W h g hg => Nat.lt_of_lt_of_le (List.mem_range.1 hg) (hn W h), ⟨w, hS⟩⟩ hS h)
end Go.Proofs.YtighahcllmoajaaGreat

namespace Go.Proofs.YtighahcllmoajaaGreat
open Go.RowKit
theorem heap_new {W : World} {o : Obj} {r : Nat} (h : r = W.heap.size) : (W.alloc o).heap[r]? = some o := by subst h; exact heap_alloc_new W o
theorem heap_old {W : World} {o obj : Obj} {r : Nat} (h : W.heap[r]? = some obj) : (W.alloc o).heap[r]? = some obj := by
 rw [Below.heap_alloc _ _ _ (Array.getElem?_eq_some_iff.1 h).1]; exact h
theorem heap_ext {W W' : World} {g : Nat} {x : Obj} (h : W.heap[g]? = some x) (hx : Ext W W') : W'.heap[g]? = some x := by
 rw [hx.block _ (Array.getElem?_eq_some_iff.1 h).1]; exact h
theorem heap_drew {W : World} {obj : Obj} {r : Nat} (h : W.heap[r]? = some obj) : W.drew.heap[r]? = some obj := h
def putAt (cs : Array Value) (o : Nat) (vs : Array Value) : Array Value := (cs.toList.take o ++ vs.toList ++ cs.toList.drop (o + vs.toList.length)).toArray
theorem onlyB_setRow {W : World} {g : Nat} {cs cs' : Array Value} {T : TypeId} (h : W.heap[g]? = some (.cells cs T)) : OnlyB g W (W.setRow g cs') /\ (W.setRow g cs').heap[g]? = some (.cells cs' T) := by
 have hlt := (Array.getElem?_eq_some_iff.1 h).1
 refine ⟨⟨rfl, rfl, rfl, by simp [World.setRow], fun k hk => ?_⟩, setRow_heap W g cs cs' T _ h⟩
 show (W.heap.modify g _)[k]? = _
 rw [Array.getElem?_modify, if_neg (fun e => hk e.symm)]
theorem run_storeVar_at {P : Program} (w : World) (g o : Nat) (t ty : TypeId) (old vs : Array Value) (hg : w.heap[g]? = some (.cells old t)) (hi : (P.info? ty).map (·.size) = some vs.size)
  (ho : o + vs.size <= old.size) (h1 : vs.all (·.oneCell') = true) :
  (storeVar ty ⟨g, o, none⟩ (.agg vs)).run P w = .ok () (w.setRow g (putAt old o vs)) := by
 have := run_storeCells_at (P := P) g o t vs.toList 0 old w hg (by simpa using ho) (fun v hv => (Array.all_eq_true_iff_forall_mem.1 h1) v (by simpa using hv))
 simp only [Nat.add_zero] at this
 cases hq : P.info? ty with
 | none => simp [hq] at hi
 | some i =>
  have hs : vs.size = i.size := by simp [hq] at hi; omega
  simp [storeVar, sizeOf, typeInfo, hq, Value.cells, hs, this, putAt]
theorem RK.nrA {g : Nat} {cs : Array Value} {T : TypeId} {n : Bool} {p : Option Addr} {l c : Nat} {x : Nm} (h0 : ∀ v ∈ cs.toList, ∀ z, v ≠ .int .u32 z) : RK g (.cells cs T) (fun W => NR W n p l c x) := fun W W' h ho hk => by
 obtain ⟨k1, k2, k3, k4, k5, k6⟩ := h
 refine ⟨k1, k2, k3, k4, k5, fun k0 => ?_⟩
 obtain ⟨B, o, rfl, hlt, hc⟩ := k6 k0
 have hne : B ≠ g := by
  intro e
  subst e
  have := hc 0 k0
  rw [cell_of_row _ _ _ _ _ _ ho] at this
  exact h0 _ (by simpa using Array.mem_of_getElem? this) _ rfl
 refine ⟨B, o, rfl, by rw [hk.size]; exact hlt, fun i hi => ?_⟩
 rw [<- hc i hi]
 exact World.cell?_of_block (hk.block B hne)
theorem NR.keepA {W W' : World} {g : Nat} {cs : Array Value} {n : Bool} {p : Option Addr} {l c : Nat} {x : Nm} {T : TypeId} (h : NR W n p l c x) (hb : W.heap[g]? = some (.cells cs T)) (ho : OnlyB g W W') (h0 : ∀ v ∈ cs.toList, ∀ z, v ≠ .int .u32 z) : NR W' n p l c x :=
 RK.nrA h0 W W' h hb ho
section
variable {P : Program} {id : Nat} {l : List Oper} {Q : Exit -> Act -> World -> Prop} {a : Act} {w : World} {d : Bool}
theorem wp_GR (r : Nat) (obj : Obj) (S : World -> Prop)
  (k : FMono S -> RK r obj S -> WpF P l.toArray S (fun a w => Q .normal a w) l a (List.range w.heap.size) (fun W => S W /\ W.heap[r]? = some obj))
  (hd : d = false \/ (P.follows .mixedOrders = true /\ floatB l.toArray = true) := by first | exact .inl rfl | exact .inr ⟨by kernel_rfl, by kernel_rfl⟩)
  (hSM : FMono S := by (intro W W' h hb; obtain ⟨hx, hz, hc⟩ := h; have hbc : ∀ b o, b < W.heap.size -> W'.cell? ⟨b, o, none⟩ = W.cell? ⟨b, o, none⟩ := (fun b o h => hb.cell (p := ⟨b, o, none⟩) h); refine ⟨hx.step hb, Nat.le_trans hz hb.size, ?_⟩; first | exact trivial | ((try dsimp only at hc ⊢); simp (disch := omega) only [hbc]; exact hc)))
  (hRK : RK r obj S := by (intro W W' h _ hb; obtain ⟨hx, hz, hc⟩ := h; have hbc : ∀ b o, b ≠ _ -> W'.cell? ⟨b, o, none⟩ = W.cell? ⟨b, o, none⟩ := (fun b o h => World.cell?_of_block (hb.block b h)); refine ⟨hx.trans (hb.below (by omega)), by rw [hb.size]; exact hz, ?_⟩; first | exact trivial | ((try dsimp only at hc ⊢); simp (disch := omega) only [hbc]; exact hc)))
  (h1 : S w := by (refine ⟨bxx, by first | omega | (simp; done) | (simp; omega), ?_⟩; first | exact trivial | go_simp))
  (h2 : w.heap[r]? = some obj := by (repeat (first | assumption | exact heap_new (by first | rfl | (simp; done)) | refine heap_old ?_ | refine heap_drew ?_)))
  (hsz : ∀ W, S W -> w.heap.size <= W.heap.size := by (intro W h; have h2 := h.2.1; first | omega | (simp; omega))) : (Code.region id l.toArray d).wp P Q a w := by
 rcases hd with rfl | ⟨h3, h4⟩
 ·exact wp_region_Gs S (fun W => W.heap[r]? = some obj) ⟨h1, h2⟩ (hSM.and (fmono_obj _ _)) hsz (k hSM hRK)
 ·cases d with
  | false => exact wp_region_Gs S (fun W => W.heap[r]? = some obj) ⟨h1, h2⟩ (hSM.and (fmono_obj _ _)) hsz (k hSM hRK)
  | true => exact wp_region_G S (fun W => W.heap[r]? = some obj) h3 h4 ⟨h1, h2⟩ (hSM.and (fmono_obj _ _)) hsz (k hSM hRK)
theorem wp_GN (r : Nat) (obj : Obj) (S A : World -> Prop)
  (k : FMono (fun W => S W /\ A W) -> RK r obj (fun W => S W /\ A W) -> WpF P l.toArray (fun W => S W /\ A W) (fun a w => Q .normal a w) l a (List.range w.heap.size) (fun W => (S W /\ A W) /\ W.heap[r]? = some obj))
  (hd : d = false \/ (P.follows .mixedOrders = true /\ floatB l.toArray = true) := by first | exact .inl rfl | exact .inr ⟨by kernel_rfl, by kernel_rfl⟩)
  (hSM : FMono S := by (intro W W' h hb; obtain ⟨hx, hz, hc⟩ := h; have hbc : ∀ b o, b < W.heap.size -> W'.cell? ⟨b, o, none⟩ = W.cell? ⟨b, o, none⟩ := (fun b o h => hb.cell (p := ⟨b, o, none⟩) h); refine ⟨hx.step hb, Nat.le_trans hz hb.size, ?_⟩; first | exact trivial | ((try dsimp only at hc ⊢); simp (disch := omega) only [hbc]; exact hc)))
  (hRK : RK r obj S := by (intro W W' h _ hb; obtain ⟨hx, hz, hc⟩ := h; have hbc : ∀ b o, b ≠ _ -> W'.cell? ⟨b, o, none⟩ = W.cell? ⟨b, o, none⟩ := (fun b o h => World.cell?_of_block (hb.block b h)); refine ⟨hx.trans (hb.below (by omega)), by rw [hb.size]; exact hz, ?_⟩; first | exact trivial | ((try dsimp only at hc ⊢); simp (disch := omega) only [hbc]; exact hc)))
  (hAM : FMono A := by (repeat (first | exact fmono_nr _ _ _ _ _ | refine FMono.and ?_ ?_)))
  (hAK : RK r obj A := by (repeat (first | exact RK.nrA (by intro v hv z e; subst e; simp at hv) | refine RK.and ?_ ?_)))
  (h1 : S w := by (refine ⟨bxx, by first | omega | (simp; done) | (simp; omega), ?_⟩; first | exact trivial | go_simp))
  (hA : A w := by (repeat' (first | assumption | apply And.intro)))
  (h2 : w.heap[r]? = some obj := by (repeat (first | assumption | exact heap_new (by first | rfl | (simp; done)) | refine heap_old ?_ | refine heap_drew ?_)))
  (hsz : ∀ W, S W -> w.heap.size <= W.heap.size := by (intro W h; have h2 := h.2.1; first | omega | (simp; omega))) : (Code.region id l.toArray d).wp P Q a w := by
 have k1 := hSM.and hAM
 have k2 := RK.and hRK hAK
 rcases hd with rfl | ⟨h3, h4⟩
 ·exact wp_region_Gs (fun W => S W /\ A W) (fun W => W.heap[r]? = some obj) ⟨⟨h1, hA⟩, h2⟩ (k1.and (fmono_obj _ _)) (fun W h => hsz W h.1) (k k1 k2)
 ·cases d with
  | false => exact wp_region_Gs (fun W => S W /\ A W) (fun W => W.heap[r]? = some obj) ⟨⟨h1, hA⟩, h2⟩ (k1.and (fmono_obj _ _)) (fun W h => hsz W h.1) (k k1 k2)
  | true => exact wp_region_G (fun W => S W /\ A W) (fun W => W.heap[r]? = some obj) h3 h4 ⟨⟨h1, hA⟩, h2⟩ (k1.and (fmono_obj _ _)) (fun W h => hsz W h.1) (k k1 k2)
theorem wp_KB (n : Nat) (S : World -> Prop) (k : FKeep n S -> WpF P l.toArray S (fun a w => Q .normal a w) l a (List.range n) S)
  (hd : d = false \/ (P.follows .mixedOrders = true /\ floatB l.toArray = true) := by first | exact .inl rfl | exact .inr ⟨by kernel_rfl, by kernel_rfl⟩)
  (hK : FKeep n S := by (intro W W' h hb; obtain ⟨hx, hz, hc⟩ := h; have hbc : ∀ b o, b < _ -> W'.cell? ⟨b, o, none⟩ = W.cell? ⟨b, o, none⟩ := (fun b o h => hb.cell (p := ⟨b, o, none⟩) h); refine ⟨hx.trans (hb.mono (by omega)), Nat.le_trans hz hb.size, ?_⟩; first | exact trivial | ((try dsimp only at hc ⊢); simp (disch := omega) only [hbc]; exact hc)))
  (h1 : S w := by (refine ⟨bxx, by first | omega | (simp; done) | (simp; omega), ?_⟩; first | exact trivial | go_simp))
  (hn : ∀ W, S W -> n <= W.heap.size := by (intro W h; exact h.2.1)) : (Code.region id l.toArray d).wp P Q a w := by
 rcases hd with rfl | ⟨h3, h4⟩
 ·exact wp_region_Ks n S h1 hK hn (k hK)
 ·cases d with
  | false => exact wp_region_Ks n S h1 hK hn (k hK)
  | true => exact wp_region_K n S h3 h4 h1 hK hn (k hK)
theorem wp_FS (C : World -> Prop)
  (h : WpF P l.toArray (fun W => Below w.heap.size w W /\ C W) (fun a w => Q .normal a w) l a (List.range w.heap.size) (fun W => Below w.heap.size w W /\ C W))
  (hd : d = false \/ (P.follows .mixedOrders = true /\ floatB l.toArray = true) := by first | exact .inl rfl | exact .inr ⟨by kernel_rfl, by kernel_rfl⟩)
  (hC : C w := by go_simp)
  (hM : ∀ W W', C W -> Below w.heap.size w W -> Below W.heap.size W W' -> C W' := by (intro W W' h hx hb; have hs := hx.size; (try simp at hs); have hbc : ∀ b o, b < W.heap.size -> W'.cell? ⟨b, o, none⟩ = W.cell? ⟨b, o, none⟩ := (fun b o h => hb.cell (p := ⟨b, o, none⟩) h); (try dsimp only at h ⊢); simp (disch := omega) only [hbc]; exact h)) : (Code.region id l.toArray d).wp P Q a w := by
 rcases hd with rfl | ⟨h3, h4⟩
 ·exact wp_region_FCs C hC hM h
 ·cases d with
  | false => exact wp_region_FCs C hC hM h
  | true => exact wp_region_FC C h3 h4 hC hM h
end
section
variable {P : Program} {ops : Array Oper} {S : World -> Prop} {Q : Act -> World -> Prop} {o : Oper} {l : List Oper} {a : Act} {own : List Nat} {F : World -> Prop}
theorem putAt_all {cs vs : Array Value} (h : cs.size = vs.size) : putAt cs 0 vs = vs := by
 unfold putAt
 rw [List.take_zero, List.drop_eq_nil_of_le (by simp; omega), List.nil_append, List.append_nil]
theorem F_w {g : Nat} {cs vs : Array Value} {T ty : TypeId} {x y : Operand} {a' : Act} (R : World -> Prop) (hF : ∀ W, F W -> R W /\ W.heap[g]? = some (.cells cs T))
  (h : WpF P ops S Q l a' own (fun W => (R W /\ W.heap[g]? = some (.cells vs T)) /\ ∀ g ∈ own, g < W.heap.size))
  (ho : o.op = .store ty x y := by rfl) (hk : fkind o = 3 := by rfl) (hw : Region.wanted o (yielded ops a.tmps) = true := by rfl)
  (hx : a.eval x = .pointer (some ⟨g, 0, none⟩) := by rfl) (hy : a.eval y = .agg vs := by rfl) (hi : (P.info? ty).map (·.size) = some vs.size := by kernel_rfl) (hsz : cs.size = vs.size := by rfl)
  (h1 : vs.all (·.oneCell') = true := by (simp [Value.oneCell']))
  (hR : RK g (.cells cs T) R := by (repeat (first | assumption | exact RK.keep (by assumption) (by assumption) | exact RK.obj (by assumption) | exact RK.nrA (by intro v hv z e; subst e; simp at hv) | refine RK.and ?_ ?_)))
  (hm : FMono R := by (repeat (first | assumption | exact FKeep.mono (by assumption) (fun _ h => h.2.1) | exact fmono_obj _ _ | exact fmono_nr _ _ _ _ _ | refine FMono.and ?_ ?_)))
  (hs : ∀ W, R W -> S W := by (intro W h; first | exact h | exact h.1 | exact h.1.1 | exact h.1.1.1 | exact h.1.1.1.1 | exact h.1.1.1.1.1 | exact h.1.1.1.1.1.1))
  (ha : a.put o.dst undef = a' := by (simp only [Act.put, List.setIfInBounds_toArray, List.set_cons_zero, List.set_cons_succ]; rfl)) : WpF P ops S Q (o :: l) a own F := by
 subst ha
 refine F_store (fun W => R W /\ W.heap[g]? = some (.cells vs T)) (hm.and (fmono_obj _ _)) (fun W h => hs W h.1) hk hw (fun W hf => ?_) h
 obtain ⟨hr, hb⟩ := hF W hf
 obtain ⟨k1, k2⟩ := onlyB_setRow (cs' := vs) hb
 have e : (execOp a.eval o).run P W = .ok .skip (W.setRow g vs) := by
  have := run_storeVar_at (P := P) W g 0 T ty cs vs hb hi (by omega) h1
  rw [putAt_all hsz] at this
  unfold execOp
  simp only [ho, hx, hy, Instr.storeAt, Instr.sureAddr, Sem.run_bind, Sem.run_pure, Result.andThen, this]
 unfold Gives
 rw [e]
 exact ⟨rfl, by rw [k1.size]; exact Nat.le_refl _, hR W _ hr hb k1, k2⟩
theorem F_al {obj : Obj} {a' : Nat -> Act} (h : ∀ g, g ∉ own -> WpF P ops S Q l (a' g) (g :: own) (fun w => F w /\ w.heap[g]? = some obj))
  (hk : fkind o = 1 := by rfl) (hw : Region.wanted o (yielded ops a.tmps) = true := by rfl)
  (hr : ∀ w, S w -> (execOp a.eval o).run P w = .ok (.value (.pointer (some ⟨w.heap.size, 0, none⟩))) (w.alloc obj) := by (intro W hW; go_simp; try with_reducible rfl))
  (hp : ∀ g, shp o g = .pointer (some ⟨g, 0, none⟩) := by (intro g; rfl))
  (ha : ∀ g, a.put o.dst (.pointer (some ⟨g, 0, none⟩)) = a' g := by (intro g; simp only [Act.put, List.setIfInBounds_toArray, List.set_cons_zero, List.set_cons_succ]; rfl)) : WpF P ops S Q (o :: l) a own F :=
 F_alloc obj hk hw hr (fun g hg => by rw [ha g]; exact h g hg) hp
end
theorem nrw {A p : Prop} (hW : A) (h : A -> p := by (intro hzz; (try dsimp only at hzz); (repeat (first | exact hzz.2 | exact hzz.1 | exact NR.ext (by assumption) hzz | exact NR.ext (by assumption) hzz.1 | replace hzz := hzz.1)))) : p := h hW
section
variable {P : Program} {ops : Array Oper} {S : World -> Prop} {Q : Act -> World -> Prop} {o : Oper} {l : List Oper} {a : Act} {own : List Nat} {F : World -> Prop}
theorem F_c (v : Value) {f : FuncId} {args : Array Value} {a' : Act} (hc : ∀ W, F W -> Calls P f args W (fun e w' => e = .returned v /\ Ext W w')) (h : WpF P ops S Q l a' own F)
  (hk : fkind o = 2 := by rfl) (hw : Region.wanted o (yielded ops a.tmps) = true := by rfl) (hx : ∀ W, (execOp a.eval o).run P W = .ok (.enter f args) W := by (intro W; go_simp; try with_reducible rfl))
  (ha : a.put o.dst v = a' := by (simp only [Act.put, List.setIfInBounds_toArray, List.set_cons_zero, List.set_cons_succ]; rfl)) : WpF P ops S Q (o :: l) a own F := by
 subst ha
 exact F_call hk hw (fun W hf => gives_enter (hx W) ((hc W hf).mono fun e w' ⟨h1, h2⟩ => ⟨v, h1, rfl, h2⟩)) h
end
def ck (W : World) (b : Nat) : Nat -> List Int -> Prop
 | _, [] => True
 | o, [x] => W.cell? ⟨b, o, none⟩ = some (.int .i64 x)
 | o, x :: y :: l => W.cell? ⟨b, o, none⟩ = some (.int .i64 x) /\ ck W b (o + 1) (y :: l)
def cn (W : World) (b o : Nat) (n : Bool) (p : Option Addr) (l c : Nat) : Prop := W.cell? ⟨b, o, none⟩ = some (.bool n) /\ W.cell? ⟨b, o + 1, none⟩ = some (.slice p l c)
section
variable {P : Program} {id : Nat} {l : List Oper} {Q : Exit -> Act -> World -> Prop} {a : Act} {w : World} {d : Bool}
theorem wp_FSc (C0 : World -> Prop) {C : World -> Prop}
  (h : WpF P l.toArray (fun W => Below w.heap.size w W /\ C W) (fun a w => Q .normal a w) l a (List.range w.heap.size) (fun W => Below w.heap.size w W /\ C W))
  (h0 : ∀ W, C0 W = C W := by (intro W; (try simp only [ck, cn, and_assoc]); rfl))
  (hd : d = false \/ (P.follows .mixedOrders = true /\ floatB l.toArray = true) := by first | exact .inl rfl | exact .inr ⟨by kernel_rfl, by kernel_rfl⟩)
  (hC : C w := by go_simp)
  (hM : ∀ W W', C W -> Below w.heap.size w W -> Below W.heap.size W W' -> C W' := by (intro W W' h hx hb; have hs := hx.size; (try simp at hs); have hbc : ∀ b o, b < W.heap.size -> W'.cell? ⟨b, o, none⟩ = W.cell? ⟨b, o, none⟩ := (fun b o h => hb.cell (p := ⟨b, o, none⟩) h); (try dsimp only at h ⊢); simp (disch := omega) only [hbc]; exact h)) : (Code.region id l.toArray d).wp P Q a w :=
 wp_FS C h hd hC hM
theorem wp_KBc (V : World) (n : Nat) (C0 : World -> Prop) {C : World -> Prop} (k : FKeep n (fun W => Ext V W /\ n <= W.heap.size /\ C W) -> WpF P l.toArray (fun W => Ext V W /\ n <= W.heap.size /\ C W) (fun a w => Q .normal a w) l a (List.range n) (fun W => Ext V W /\ n <= W.heap.size /\ C W))
  (h0 : ∀ W, C0 W = C W := by (intro W; (try simp only [ck, cn, and_assoc]); rfl))
  (hd : d = false \/ (P.follows .mixedOrders = true /\ floatB l.toArray = true) := by first | exact .inl rfl | exact .inr ⟨by kernel_rfl, by kernel_rfl⟩)
  (hK : FKeep n (fun W => Ext V W /\ n <= W.heap.size /\ C W) := by (intro W W' h hb; obtain ⟨hx, hz, hc⟩ := h; have hbc : ∀ b o, b < _ -> W'.cell? ⟨b, o, none⟩ = W.cell? ⟨b, o, none⟩ := (fun b o h => hb.cell (p := ⟨b, o, none⟩) h); refine ⟨hx.trans (hb.mono (by omega)), Nat.le_trans hz hb.size, ?_⟩; first | exact trivial | ((try dsimp only at hc ⊢); simp (disch := omega) only [hbc]; exact hc)))
  (h1 : Ext V w /\ n <= w.heap.size /\ C w := by (refine ⟨bxx, by first | omega | (simp; done) | (simp; omega), ?_⟩; first | exact trivial | go_simp)) : (Code.region id l.toArray d).wp P Q a w :=
 wp_KB n (fun W => Ext V W /\ n <= W.heap.size /\ C W) k hd hK h1 (fun W h => h.2.1)
end
end Go.Proofs.YtighahcllmoajaaGreat

set_option maxHeartbeats 1000000
set_option maxRecDepth 100000
namespace Go.Proofs.YtighahcllmoajaaGreat
open Go.RowKit
theorem catch_idle (p : Addr) (w : World) :
  CallsD Tryz.prog 105 #[.pointer (some p)] .returning w fun e u' w' => e = .returned (.tuple #[]) /\ u' = .returning /\ w' = w := by
 refine callsD_of_wpS Tryz.func105 rfl fun c₀ cs hu => ?_
 apply wpS_seq
 apply wpS_region
 simp [wpOpsS, go_sem, recoverD, hu, Tryz.ntmps105, Exit.thenS]
 apply wpS_seq
 apply wpS_region
 have hne : ∀ w, (binOp .neq 20 .nilIface .nilIface).run Tryz.prog w = .ok (.bool false) w := fun _ => by kernel_rfl
 simp [wpOpsS, go_sem, Exit.thenS, hne]
 refine wpS_cond (t := false) (by simp [Act.eval, Array.replicate]) ?_
 simp only [Bool.false_eq_true, if_false]
 refine wpS_of_wp (wp_skip ?_)
 cases c₀
 simp_all [bodyPostS, results, Tryz.results105]
def WrapOk (P : Program) (f : FuncId) : Prop := ∀ (g : FuncId) (caps : Array Value) (z : Int) (p : Prop) (w : World), (∀ w, (callFunc g caps).run P w = .ok (.enter g caps) w) -> (∀ w0, Ext w w0 -> Calls P g caps w0 fun e w' => (e = .returned (.int .i64 z) /\ p) /\ Ext w0 w') -> Calls P f #[.func (.func g) #[] caps] w fun e w' => (e = .returned (.int .i64 z) /\ p) /\ Ext w w'
theorem guard_wrap : WrapOk Tryz.prog 60 := by
 intro g caps z p w RE H
 have hmf : ∀ (fn : Fn) (first cap : Array Value) (w : World), (Instr.makeFunc fn first cap).run Tryz.prog w = .ok (.func fn first cap) w := fun _ _ _ _ => rfl
 have hx0 : Ext w (w.alloc (.cells #[.int .i64 0] 3)) := bxx
 have CM := Lib.hid (H _ hx0)
 clear H
 go_enter_defers Tryz.func60, Tryz.ntmps60
 go_wp2_with fail
 refine CM.out.mono ?_
 rintro e w1 ⟨⟨rfl, hp⟩, hx⟩
 have hx1 : Ext w w1 := Ext.step hx0 hx
 have hz_w1 : w.heap.size + 1 <= w1.heap.size := Nat.le_trans omm hx.size
 obtain ⟨hl_w1_0, hk_w1_0, hf_w1_0⟩ := extK hx (w.heap.size)
 go_wp2_with fail
 refine leaves_cons (f := 105) (args := #[.pointer (some ⟨w.heap.size, 0, none⟩)]) (by simp) (by simp [go_sem]) ?_
 refine (catch_idle ⟨w.heap.size, 0, none⟩ _).mono ?_
 rintro e u' w'' ⟨rfl, rfl, rfl⟩
 simp [Leaves, settle, results, Tryz.results60, go_sem, hk_w1_0]
 refine ⟨hp, ?_⟩
 exact bxx
end Go.Proofs.YtighahcllmoajaaGreat

set_option maxHeartbeats 1000000
set_option maxRecDepth 100000
namespace Go.Proofs.YtighahcllmoajaaGreat
open Go.RowKit
def I64 (x : Int) : Prop := -9223372036854775808 <= x /\ x <= 9223372036854775807
def coordB (x y : Int) : Bool := decide (-67108864 <= x) && decide (x <= 67108864) && decide (-67108864 <= y) && decide (y <= 67108864)
theorem vec_Sub (ax ay bx by' : Int) (w : World) (h1 : I64 (ax - bx)) (h2 : I64 (ay - by')) :
  Calls Tryz.prog 76 #[.agg #[.int .i64 ax, .int .i64 ay], .agg #[.int .i64 bx, .int .i64 by']] w fun e w' => e = .returned (.agg #[.int .i64 (ax-bx), .int .i64 (ay-by')]) /\ Ext w w' := by
 obtain ⟨h1a, h1b⟩ := h1
 obtain ⟨h2a, h2b⟩ := h2
 go_enter Tryz.func76, Tryz.ntmps76
 go_wp2
 exact bodyPost_ret (v := .agg #[.int .i64 (ax-bx), .int .i64 (ay-by')]) (by simp [results, Tryz.results76, go_sem]) rfl ⟨rfl, bxx⟩
theorem vec_Add (ax ay bx by' : Int) (w : World) (h1 : I64 (ax + bx)) (h2 : I64 (ay + by')) :
  Calls Tryz.prog 125 #[.agg #[.int .i64 ax, .int .i64 ay], .agg #[.int .i64 bx, .int .i64 by']] w fun e w' => e = .returned (.agg #[.int .i64 (ax+bx), .int .i64 (ay+by')]) /\ Ext w w' := by
 obtain ⟨h1a, h1b⟩ := h1
 obtain ⟨h2a, h2b⟩ := h2
 go_enter Tryz.func125, Tryz.ntmps125
 go_wp2
 exact bodyPost_ret (v := .agg #[.int .i64 (ax+bx), .int .i64 (ay+by')]) (by simp [results, Tryz.results125, go_sem]) rfl ⟨rfl, bxx⟩
theorem vec_Cross (ax ay bx by' : Int) (w : World) (h1 : I64 (ax * by')) (h2 : I64 (ay * bx)) (h3 : I64 (ax * by' - ay * bx)) :
  Calls Tryz.prog 88 #[.agg #[.int .i64 ax, .int .i64 ay], .agg #[.int .i64 bx, .int .i64 by']] w fun e w' => e = .returned (.int .i64 (ax * by' - ay * bx)) /\ Ext w w' := by
 obtain ⟨h1a, h1b⟩ := h1
 obtain ⟨h2a, h2b⟩ := h2
 obtain ⟨h3a, h3b⟩ := h3
 go_enter Tryz.func88, Tryz.ntmps88
 go_wp2
 go_ret
 exact ⟨rfl, bxx⟩
theorem vec_Dot (ax ay bx by' : Int) (w : World) (h1 : I64 (ax * bx)) (h2 : I64 (ay * by')) (h3 : I64 (ax * bx + ay * by')) :
  Calls Tryz.prog 83 #[.agg #[.int .i64 ax, .int .i64 ay], .agg #[.int .i64 bx, .int .i64 by']] w fun e w' => e = .returned (.int .i64 (ax * bx + ay * by')) /\ Ext w w' := by
 obtain ⟨h1a, h1b⟩ := h1
 obtain ⟨h2a, h2b⟩ := h2
 obtain ⟨h3a, h3b⟩ := h3
 go_enter Tryz.func83, Tryz.ntmps83
 go_wp2
 go_ret
 exact ⟨rfl, bxx⟩
theorem r05_Sub (ax ay bx by' : Int) (w : World) (h1 : I64 (ax - bx)) (h2 : I64 (ay - by')) :
  Calls Tryz.prog 25 #[.agg #[.int .i64 ax, .int .i64 ay], .agg #[.int .i64 bx, .int .i64 by']] w fun e w' => e = .returned (.agg #[.int .i64 (ax-bx), .int .i64 (ay-by')]) /\ Ext w w' := by
 obtain ⟨h1a, h1b⟩ := h1
 obtain ⟨h2a, h2b⟩ := h2
 go_enter Tryz.func25, Tryz.ntmps25
 go_wp2
 exact bodyPost_ret (v := .agg #[.int .i64 (ax-bx), .int .i64 (ay-by')]) (by simp [results, Tryz.results25, go_sem]) rfl ⟨rfl, bxx⟩
theorem r05_Add (ax ay bx by' : Int) (w : World) (h1 : I64 (ax + bx)) (h2 : I64 (ay + by')) :
  Calls Tryz.prog 50 #[.agg #[.int .i64 ax, .int .i64 ay], .agg #[.int .i64 bx, .int .i64 by']] w fun e w' => e = .returned (.agg #[.int .i64 (ax+bx), .int .i64 (ay+by')]) /\ Ext w w' := by
 obtain ⟨h1a, h1b⟩ := h1
 obtain ⟨h2a, h2b⟩ := h2
 go_enter Tryz.func50, Tryz.ntmps50
 go_wp2
 exact bodyPost_ret (v := .agg #[.int .i64 (ax+bx), .int .i64 (ay+by')]) (by simp [results, Tryz.results50, go_sem]) rfl ⟨rfl, bxx⟩
theorem r05_Cross (ax ay bx by' : Int) (w : World) (h1 : I64 (ax * by')) (h2 : I64 (ay * bx)) (h3 : I64 (ax * by' - ay * bx)) :
  Calls Tryz.prog 91 #[.agg #[.int .i64 ax, .int .i64 ay], .agg #[.int .i64 bx, .int .i64 by']] w fun e w' => e = .returned (.int .i64 (ax * by' - ay * bx)) /\ Ext w w' := by
 obtain ⟨h1a, h1b⟩ := h1
 obtain ⟨h2a, h2b⟩ := h2
 obtain ⟨h3a, h3b⟩ := h3
 go_enter Tryz.func91, Tryz.ntmps91
 go_wp2
 go_ret
 exact ⟨rfl, bxx⟩
theorem r05_Dot (ax ay bx by' : Int) (w : World) (h1 : I64 (ax * bx)) (h2 : I64 (ay * by')) (h3 : I64 (ax * bx + ay * by')) :
  Calls Tryz.prog 27 #[.agg #[.int .i64 ax, .int .i64 ay], .agg #[.int .i64 bx, .int .i64 by']] w fun e w' => e = .returned (.int .i64 (ax * bx + ay * by')) /\ Ext w w' := by
 obtain ⟨h1a, h1b⟩ := h1
 obtain ⟨h2a, h2b⟩ := h2
 obtain ⟨h3a, h3b⟩ := h3
 go_enter Tryz.func27, Tryz.ntmps27
 go_wp2
 go_ret
 exact ⟨rfl, bxx⟩
theorem vec_Right (x y : Int) (w : World) :
  Calls Tryz.prog 42 #[.agg #[.int .i64 x, .int .i64 y]] w fun e w' => e = .returned (.bool (coordB x y)) /\ Ext w w' := by
 go_enter Tryz.func42, Tryz.ntmps42
 go_wp2
 all_goals
  go_ret
  exact ⟨ret_bool (Bool.eq_iff_iff.2 (by simp [coordB]; omega)), bxx⟩
theorem r05_Right (x y : Int) (w : World) :
  Calls Tryz.prog 45 #[.agg #[.int .i64 x, .int .i64 y]] w fun e w' => e = .returned (.bool (coordB x y)) /\ Ext w w' := by
 go_enter Tryz.func45, Tryz.ntmps45
 go_wp2
 all_goals
  go_ret
  exact ⟨ret_bool (Bool.eq_iff_iff.2 (by simp [coordB]; omega)), bxx⟩
def sideI (n : Int) : Int := if 0 < n then 1 else if n < 0 then -1 else 0
attribute [local go_sem] Gives givesU
theorem vec_Side (ax ay bx by' px py : Int) (w : World) (h1 : I64 (bx - ax)) (h2 : I64 (by' - ay)) (h3 : I64 (px - ax)) (h4 : I64 (py - ay))
  (h5 : I64 ((bx - ax) * (py - ay))) (h6 : I64 ((by' - ay) * (px - ax))) (h7 : I64 ((bx - ax) * (py - ay) - (by' - ay) * (px - ax))) :
  Calls Tryz.prog 141 #[.agg #[.int .i64 ax, .int .i64 ay], .agg #[.int .i64 bx, .int .i64 by'], .agg #[.int .i64 px, .int .i64 py]] w fun e w' => e = .returned (.int .i64 (sideI ((bx - ax) * (py - ay) - (by' - ay) * (px - ax)))) /\ Ext w w' := by
 go_enter Tryz.func141, Tryz.ntmps141
 go_wp2
 refine wp_FSc (fun W => ck W w.heap.size 0 [ax, ay] /\ ck W (w.heap.size + 1) 0 [bx, by'] /\ ck W (w.heap.size + 1 + 1) 0 [px, py]) ?_
 repeat (first | refine F_s ?_ | refine F_r ?_)
 refine F_c (.agg #[.int .i64 (bx-ax), .int .i64 (by'-ay)]) (fun W hW => vec_Sub _ _ _ _ _ h1 h2) ?_
 repeat (first | refine F_s ?_ | refine F_r ?_)
 refine F_c (.agg #[.int .i64 (px-ax), .int .i64 (py-ay)]) (fun W hW => vec_Sub _ _ _ _ _ h3 h4) ?_
 refine F_c (.int .i64 ((bx - ax) * (py - ay) - (by' - ay) * (px - ax))) (fun W hW => vec_Cross _ _ _ _ _ h5 h6 h7) ?_
 repeat (first | refine F_s ?_ | refine F_r ?_)
 rintro W ⟨hx, hc⟩
 have hx0 : Ext w W := Ext.step bxx hx
 clear hx hc
 obtain ⟨h7a, h7b⟩ := h7
 go_wp2
 all_goals
  go_ret
  exact ⟨ret_int (by unfold sideI; (repeat' split) <;> omega), hx0⟩
end Go.Proofs.YtighahcllmoajaaGreat
