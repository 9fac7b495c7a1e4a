import Derived.Test.YtceemiodpccbhaaGreatR34
set_option linter.unusedVariables false
set_option linter.unusedSimpArgs false


set_option maxHeartbeats 1000000
set_option maxRecDepth 100000
namespace Go.Proofs.YtceemiodpccbhaaGreat
open Go.RowKit
def rowL (e : Nat -> Ed) : Nat -> List Value
 | 0 => []
 | n + 1 => rowL e n ++ edL (e n)
theorem edL_len (e : Ed) : (edL e).length = 7 := rfl
theorem rowL_len (e : Nat -> Ed) : ∀ n, (rowL e n).length = n * 7
 | 0 => rfl
 | n + 1 => by rw [rowL, List.length_append, rowL_len e n, edL_len, Nat.succ_mul]
theorem rowL_at (e : Nat -> Ed) : ∀ (n i t : Nat), i < n -> t < 7 -> (rowL e n)[i * 7 + t]? = (edL (e i))[t]?
 | 0, _, _, h, _ => absurd h (Nat.not_lt_zero _)
 | n + 1, i, t, h, ht => by
  rw [rowL]
  by_cases hi : i < n
  ·rw [List.getElem?_append_left (by rw [rowL_len]; omega)]
   exact rowL_at e n i t hi ht
  ·obtain rfl : i = n := by omega
   rw [List.getElem?_append_right (by rw [rowL_len]; omega), rowL_len]
   congr 1
   omega
theorem rowL_one (e : Nat -> Ed) : ∀ n, ∀ v ∈ rowL e n, v.oneCell' = true
 | 0, v, h => by cases h
 | n + 1, v, h => by
  rw [rowL] at h
  rcases List.mem_append.1 h with h | h
  ·exact rowL_one e n v h
  ·exact edL_one (e n) v h
theorem edAt_cell {w : World} {g o t : Nat} {e : Ed} {u : Value} (h : EdAt w g o e) (hu : (edL e)[t]? = some u) : w.cell? ⟨g, o + t, none⟩ = some u := by
 obtain ⟨h0, h1, h2, h3, h4, h5, h6⟩ := h
 have ht : t < 7 := by have := (List.getElem?_eq_some_iff.1 hu).1; simpa [edL] using this
 obtain rfl | rfl | rfl | rfl | rfl | rfl | rfl : t = 0 \/ t = 1 \/ t = 2 \/ t = 3 \/ t = 4 \/ t = 5 \/ t = 6 := by omega
 all_goals (simp only [edL, List.getElem?_cons_succ, List.getElem?_cons_zero, Option.some.injEq] at hu; subst hu; assumption)
theorem infoEd : (Tryz.prog.info? 70).map (fun i => (i.zero, i.size, i.bytes)) = some (some (.agg #[.int .i64 0, .int .i64 0, .int .i64 0, .int .i64 0, .int .i64 0, .int .i64 0, .int .i64 0]), 7, 56) := by kernel_rfl
def NewE (w : World) (e : Nat -> Ed) (n : Nat) (v : Value) (w' : World) : Prop := ∃ g c cur, v = .slice (some ⟨g, 0, none⟩) n c /\ w.heap.size <= g /\ w'.heap[g]? = some (.cells cur 70) /\ n <= c /\ c <= maxLen /\ cur.toList.take (n * 7) = rowL e n /\ Ext w w'
theorem cloneEd (n : Nat) (e : Nat -> Ed) (p : Option Addr) (c : Nat) (w : World) (hR : EdRow w.heap.size w p n e) (h1 : 1 <= n) (hn : n <= 1000) :
  Calls Tryz.prog 54 #[.slice p n c] w fun x w' => ∃ v, x = .returned v /\ NewE w e n v w' := by
 obtain ⟨b, o, rfl, hb, _⟩ := hR 0 (by omega)
 obtain ⟨i, hi, hz0, hz1, hz2⟩ := info_parts infoEd
 have qT : ∀ (w : World) (a : Option Addr) (n c n' c' : Nat), (binOp .eql 22 (.slice a n c) (.slice none n' c')).run Tryz.prog w = .ok (.bool a.isNone) w :=
  fun w a n c n' c' => Lib.run_eql_slice_nil w _ _ a n c n' c' Tryz.underlying22
 have hnews : ∀ j u, (rowL e n)[j]? = some u -> w.cell? ⟨b, o + j, none⟩ = some u := by
  intro j u hu
  have hj : j < n * 7 := by have := (List.getElem?_eq_some_iff.1 hu).1; rwa [rowL_len] at this
  obtain ⟨g, o', hp, hg, hE⟩ := hR (j / 7) (by omega)
  cases hp
  have hd : j / 7 * 7 + j % 7 = j := by omega
  rw [<- hd] at hu
  rw [rowL_at e n _ _ (by omega) (by omega)] at hu
  have := edAt_cell hE hu
  rw [Nat.add_assoc, hd] at this
  exact this
 have HN := Lib.hid hnews
 have H1 := Lib.hid h1
 have HR := Lib.hid hR
 clear hnews hR h1
 go_enter Tryz.func54, Tryz.ntmps54
 go_wp2_with (at_builtin; refine wpList_append_own _ rfl _ _ 22 rfl w.heap.size 70 i (.agg #[.int .i64 0, .int .i64 0, .int .i64 0, .int .i64 0, .int .i64 0, .int .i64 0, .int .i64 0]) 7 56 Tryz.underlying22 hi hz0 hz1 hz2 rfl (by decide) _ _ _ rfl (World.ownsRow_made w #[] 0 (Nat.le_refl _) (by decide) rfl) ⟨b, o, none⟩ n c (rowL e n) rfl (rowL_len e n) ?c2 (rowL_one e n) ?c3 ?c4 ?c5 ?_)
 case c2 => exact fun j u hu => by rw [add_none]; exact (cell_later ((Below.refl _ _).alloc (Nat.le_refl _) _) (HN.out j u hu))
 case c3 => unfold maxLen; omega
 case c4 => omega
 case c5 => simp
 intro v' w1 hown hgr _
 obtain ⟨_, ⟨_, h0⟩ | ⟨g, cp, cur, rfl, hbg, hc, hcp, hmx, hsz, htk⟩⟩ := hown
 ·have := H1.out; omega
 have fin : Hid (NewE w e n (.slice (some ⟨g, 0, none⟩) n cp) w1) := Lib.hid ⟨g, cp, cur, rfl, hbg, hc, by omega, hmx, by simpa using htk, ((Below.refl _ _).alloc (Nat.le_refl _) _).grown hgr (by simp) (fun k hk => by simp [Value.ownBlock] at hk; omega)⟩
 go_wp2
 go_ret
 exact ⟨_, rfl, fin.out⟩
end Go.Proofs.YtceemiodpccbhaaGreat

namespace Go.Proofs.YtceemiodpccbhaaGreat
open Go.RowKit
attribute [local go_sem] Gives givesU
def movS (s : Sh) (x y t : Int) (m : Bool) : Sh := ⟨s.k, s.n, fun i => moveE (s.e i) x y (modZ t 4) m, s.r⟩
def ptE (e f : Nat -> Ed) (k i : Nat) : Ed := if i < k then f i else e i
theorem rowL_congr {e e' : Nat -> Ed} : ∀ {n : Nat}, (∀ i, i < n -> e i = e' i) -> rowL e n = rowL e' n
 | 0, _ => rfl
 | n + 1, h => by rw [rowL, rowL, rowL_congr fun i hi => h i (by omega), h n (by omega)]
theorem rowL_split (e : Nat -> Ed) {k : Nat} : ∀ {n : Nat}, k < n -> rowL e n = rowL e k ++ (edL (e k) ++ rowL (fun i => e (k + 1 + i)) (n - k - 1))
 | 0, h => absurd h (Nat.not_lt_zero _)
 | n + 1, h => by
  by_cases hk : k = n
  ·subst hk
   rw [show k + 1 - k - 1 = 0 by omega]
   simp [rowL]
  ·rw [show n + 1 - k - 1 = (n - k - 1) + 1 by omega, rowL, rowL, rowL_split e (show k < n by omega), show k + 1 + (n - k - 1) = n by omega]
   simp only [List.append_assoc]
theorem row_take (e : Nat -> Ed) {k n : Nat} (h : k < n) (sl : List Value) : (rowL e n ++ sl).take (k * 7) = rowL e k := by
 rw [rowL_split e h, List.append_assoc, <- rowL_len e k, List.take_left]
theorem row_mid (e : Nat -> Ed) {k n : Nat} (h : k < n) (sl : List Value) : ((rowL e n ++ sl).drop (k * 7)).take 7 = edL (e k) := by
 rw [rowL_split e h, List.append_assoc, <- rowL_len e k, List.drop_left, List.append_assoc]
 exact List.take_left' rfl
theorem row_put (e f : Nat -> Ed) {k n : Nat} (h : k < n) (sl : List Value) : (rowL (ptE e f k) n ++ sl).take (k * 7) ++ (edL (f k) ++ (rowL (ptE e f k) n ++ sl).drop (k * 7 + (edL (f k)).length)) = rowL (ptE e f (k + 1)) n ++ sl := by
 rw [row_take _ h, rowL_split (ptE e f (k + 1)) h, rowL_split (ptE e f k) h, edL_len]
 rw [show rowL (ptE e f (k + 1)) k = rowL (ptE e f k) k from rowL_congr fun i hi => by unfold ptE; rw [if_pos (by omega), if_pos hi]]
 rw [show ptE e f (k + 1) k = f k by unfold ptE; rw [if_pos (by omega)]]
 rw [show (fun i => ptE e f (k + 1) (k + 1 + i)) = (fun i => ptE e f k (k + 1 + i)) by funext i; unfold ptE; rw [if_neg (by omega), if_neg (by omega)]]
 simp only [List.append_assoc]
 congr 2
 rw [<- List.drop_drop, <- rowL_len (ptE e f k) k, List.drop_left]
 exact List.drop_left' rfl
theorem row_set {W : World} {B i : Nat} {xs : Array Value} {T : TypeId} (v : Value) (h : W.heap[B]? = some (.cells xs T)) : (W.setCell ⟨B, i, none⟩ v).heap[B]? = some (.cells (xs.setIfInBounds i v) T) := by
 have hB := (Array.getElem?_eq_some_iff.1 h).1
 have e := (Array.getElem?_eq_some_iff.1 h).2
 rw [Array.getElem?_eq_some_iff]
 refine ⟨by simpa [World.setCell] using hB, ?_⟩
 simp only [World.setCell, Array.getElem_modify, if_true, e]
 simp
theorem row_oth {W : World} {B g i : Nat} (v : Value) (h : B ≠ g) : (W.setCell ⟨B, i, none⟩ v).heap[g]? = W.heap[g]? := by
 simp [World.setCell, Array.getElem?_modify, h]
structure MI (w W : World) (s : Sh) (x y t : Int) (m : Bool) (g cp : Nat) (sl : List Value) (k : Nat) : Prop where
 ex : Ext w W
 b2 : W.heap[w.heap.size]? = some (.cells #[.int .i64 s.k, .slice (some ⟨g, 0, none⟩) s.n cp, .int .i64 s.r] 24)
 b3 : W.heap[w.heap.size + 1]? = some (.cells #[.int .i64 x, .int .i64 y, .int .i64 t, .bool m] 59)
 b4 : W.heap[w.heap.size + 1 + 1]? = some (.cells #[.int .i64 0, .slice none 0 0, .int .i64 0] 24)
 bg : W.heap[g]? = some (.cells (rowL (ptE s.e (movS s x y t m).e k) s.n ++ sl).toArray 70)
 lt : w.heap.size + 1 + 1 < g
theorem MI.ext {w W W' : World} {s : Sh} {x y t : Int} {m : Bool} {g cp : Nat} {sl : List Value} {k : Nat} (h : MI w W s x y t m g cp sl k) (hx : Ext W W') : MI w W' s x y t m g cp sl k := ⟨Ext.step h.ex hx, heap_ext h.b2 hx, heap_ext h.b3 hx, heap_ext h.b4 hx, heap_ext h.bg hx, h.lt⟩
theorem MI.cells {w W : World} {s : Sh} {x y t : Int} {m : Bool} {g cp : Nat} {sl : List Value} {k : Nat} (h : MI w W s x y t m g cp sl k) : (W.cell? ⟨w.heap.size, 0, none⟩ = some (.int .i64 s.k) /\ W.cell? ⟨w.heap.size, 1, none⟩ = some (.slice (some ⟨g, 0, none⟩) s.n cp) /\ W.cell? ⟨w.heap.size, 2, none⟩ = some (.int .i64 s.r)) /\
  W.cell? ⟨w.heap.size + 1, 0, none⟩ = some (.int .i64 x) /\ W.cell? ⟨w.heap.size + 1, 1, none⟩ = some (.int .i64 y) /\ W.cell? ⟨w.heap.size + 1, 2, none⟩ = some (.int .i64 t) /\ W.cell? ⟨w.heap.size + 1, 3, none⟩ = some (.bool m) := by
 have e2 := h.b2
 have e3 := h.b3
 have c2 : ∀ i, W.cell? ⟨w.heap.size, i, none⟩ = (#[.int .i64 s.k, .slice (some ⟨g, 0, none⟩) s.n cp, .int .i64 s.r] : Array Value)[i]? := fun i => by rw [cell_of_row _ _ _ _ _ _ e2]
 have c3 : ∀ i, W.cell? ⟨w.heap.size + 1, i, none⟩ = (#[.int .i64 x, .int .i64 y, .int .i64 t, .bool m] : Array Value)[i]? := fun i => by rw [cell_of_row _ _ _ _ _ _ e3]
 exact ⟨⟨(c2 0).trans rfl, (c2 1).trans rfl, (c2 2).trans rfl⟩, (c3 0).trans rfl, (c3 1).trans rfl, (c3 2).trans rfl, (c3 3).trans rfl⟩
theorem MI.edge {w W : World} {s : Sh} {x y t : Int} {m : Bool} {g cp : Nat} {sl : List Value} {k : Nat} (h : MI w W s x y t m g cp sl k) (hk : k < s.n) : EdAt W g (k * 7) (s.e k) := by
 have key : ∀ j u, (edL (s.e k))[j]? = some u -> W.cell? ⟨g, k * 7 + j, none⟩ = some u := fun j u hu => by
  have hj : j < 7 := by have := (List.getElem?_eq_some_iff.1 hu).1; simpa [edL] using this
  rw [cell_of_row _ _ _ _ _ _ h.bg]
  simp only [List.getElem?_toArray]
  rw [List.getElem?_append_left (by rw [rowL_len]; omega), rowL_at _ _ _ _ hk hj]
  unfold ptE
  rw [if_neg (Nat.lt_irrefl _)]
  exact hu
 exact ⟨key 0 _ rfl, key 1 _ rfl, key 2 _ rfl, key 3 _ rfl, key 4 _ rfl, key 5 _ rfl, key 6 _ rfl⟩
end Go.Proofs.YtceemiodpccbhaaGreat

namespace Go.Proofs.YtceemiodpccbhaaGreat
open Go.RowKit
section
variable {P : Program} {ops : Array Oper} {S : World -> Prop} {Q : Act -> World -> Prop} {tail : List Oper} {o : Oper} {l : List Oper} {a : Act} {own : List Nat} {F : World -> Prop}
theorem T_run {v : Value} (hw : Region.wanted o (yielded ops a.tmps) = true) (hr : ∀ w, S w -> (execOp a.eval o).run P w = .ok (.value v) w) (h : WpT P ops S Q tail l (a.put o.dst v) own F) :
  WpT P ops S Q tail (o :: l) a own F := .pure v (.inl ⟨hw, hr⟩) h
theorem T_call {v : Value} (hk : fkind o = 2) (hw : Region.wanted o (yielded ops a.tmps) = true)
  (hg : ∀ w, F w -> Gives P o a w (fun u w' => u = v /\ Below w.heap.size w w')) (h : WpT P ops S Q tail l (a.put o.dst v) own F) : WpT P ops S Q tail (o :: l) a own F := by
 refine .eff hk hw Unit (fun _ => v) (fun _ _ => True) (fun _ _ _ h _ => h) (fun w hf => (hg w hf).imp fun u w' h => ⟨(), h.1, h.2, trivial⟩) (fun t ht => ?_)
 have e : (fun w => F w /\ True) = F := by funext w; simp
 rw [e]
 exact h
theorem T_done (h : WpF P ops (fun _ => True) Q tail a own F) : WpT P ops S Q tail [] a own F := h
end
end Go.Proofs.YtceemiodpccbhaaGreat

set_option maxHeartbeats 4000000
set_option maxRecDepth 100000
namespace Go.Proofs.YtceemiodpccbhaaGreat
open Go.RowKit
attribute [local go_sem] Gives givesU
theorem mvCall {e : Ed} (h : e.ok = true) {x y t : Int} (m : Bool) (hx : x.natAbs <= c26) (hy : y.natAbs <= c26) (ht : -8 <= t /\ t <= 8) (W : World) : Calls Tryz.prog 55 #[edA e, .agg #[.int .i64 x, .int .i64 y, .int .i64 t, .bool m]] W fun e' W' => e' = .returned (edA (moveE e x y (modZ t 4) m)) /\ Ext W W' := by
 have c : c26 <= 9223372036854775807 := by decide
 have c8 : 8 <= c26 := by decide
 refine (move_fok e x y t m h ht W _ (rvs_cons.2 ⟨_, edV_rep h, _, rfl, rvs_cons.2 ⟨_, rv_t.2 ⟨_, rl_i.2 ⟨⟨hx, by unfold I64; omega⟩, _, rfl, rl_i.2 ⟨⟨hy, by unfold I64; omega⟩, _, rfl, rl_i.2 ⟨⟨by omega, by unfold I64; omega⟩, _, rfl, rl_v.2 ⟨rfl, _, rfl, rfl⟩⟩⟩⟩, rfl⟩, _, rfl, rfl⟩⟩)).mono ?_
 rintro e' W' ⟨v, rfl, hv, hx⟩
 refine ⟨?_, hx⟩
 have := toEd_rep (l := edI (moveE e x y (modZ t 4) m)) rfl hv
 rw [this]
 rfl
theorem moveE_I {e : Ed} (h : e.ok = true) {x y t : Int} (m : Bool) (hx : x.natAbs <= c26) (hy : y.natAbs <= c26) : EdI (moveE e x y (modZ t 4) m) := by
 have hk := kind_of h
 obtain ⟨⟨h1, h2⟩, ⟨h3, h4⟩, h5, h6⟩ := ok_right h
 unfold Co at h1 h2 h3 h4 h5 h6
 have b : ∀ u v : Int, u.natAbs <= c26 -> v.natAbs <= c26 -> I64 (applyP x y (modZ t 4) m u v).1 /\ I64 (applyP x y (modZ t 4) m u v).2 := fun u v hu hv => by
  obtain ⟨b1, b2⟩ := applyQ_bd (ax := x) (ay := y) (n := t) (x := u) (y := v) (m := m) hx hy hu hv
  unfold c26 at b1 b2
  unfold applyQ at b1 b2
  unfold I64
  omega
 have c1 := b e.ax e.ay (by unfold c26; omega) (by unfold c26; omega)
 have c2 := b e.bx e.by' (by unfold c26; omega) (by unfold c26; omega)
 have c3 := b e.cx e.cy (by unfold c26; omega) (by unfold c26; omega)
 have k0 : I64 (if m then (fam e.k).k else e.k) := by
  rcases hk with k | k | k <;> rw [k] <;> cases m <;> (unfold I64; decide)
 refine ⟨k0, c1.1, c1.2, c2.1, c2.2, ?_, ?_⟩
 ·show I64 (if e.k = 1 then e.cx else _)
  split
  ·unfold I64; omega
  ·exact c3.1
 ·show I64 (if e.k = 1 then e.cy else _)
  split
  ·unfold I64; omega
  ·exact c3.2
theorem shMove (s : Sh) (x y t : Int) (m : Bool) (p : Option Addr) (c : Nat) (w : World) (h : ShAt w s p c) (h1 : 1 <= s.n) (hn : s.n <= 1000) (hok : ∀ i, i < s.n -> (s.e i).ok = true) (hx : x.natAbs <= c26) (hy : y.natAbs <= c26) (ht : -8 <= t /\ t <= 8) :
  Calls Tryz.prog 22 #[.agg #[.int .i64 s.k, .slice p s.n c, .int .i64 s.r], .agg #[.int .i64 x, .int .i64 y, .int .i64 t, .bool m]] w fun e w' => ∃ g cp, e = .returned (.agg #[.int .i64 s.k, .slice (some ⟨g, 0, none⟩) s.n cp, .int .i64 s.r]) /\ ShAt w' (movS s x y t m) (some ⟨g, 0, none⟩) cp /\ Ext w w' := by
 have CL := Lib.hid (fun W (hW : Ext w W) => cloneEd s.n s.e p c W (h.ext hW).edr h1 hn)
 have MV := Lib.hid (fun k (hk : k < s.n) W => mvCall (hok k hk) m hx hy ht W)
 have OK := Lib.hid (fun i (hi : i < s.n) => moveE_I (hok i hi) m hx hy (t := t))
 have H := Lib.hid h
 have X0 : Ext w (((w.alloc (.cells #[.int .i64 s.k, .slice p s.n c, .int .i64 s.r] 24)).alloc (.cells #[.int .i64 x, .int .i64 y, .int .i64 t, .bool m] 59)).alloc (.cells #[.int .i64 0, .slice none 0 0, .int .i64 0] 24)) := bxx
 have X0 := Lib.hid X0
 clear h hok hx hy ht
 go_enter Tryz.func22, Tryz.ntmps22
 go_wp2_with fail
 refine (CL.out _ X0.out).mono ?_
 rintro e W1 ⟨_, rfl, g, cp, cur, rfl, hg, hc, hcp, hmx, htk, hx1⟩
 have M0 : MI w (W1.setCell ⟨w.heap.size, 1, none⟩ (.slice (some ⟨g, 0, none⟩) s.n cp)) s x y t m g cp (cur.toList.drop (s.n * 7)) 0 := by
  have a0 := World.alloc_heap_new w (.cells #[.int .i64 s.k, .slice p s.n c, .int .i64 s.r] 24)
  have a1 := World.alloc_heap_new (w.alloc (.cells #[.int .i64 s.k, .slice p s.n c, .int .i64 s.r] 24)) (.cells #[.int .i64 x, .int .i64 y, .int .i64 t, .bool m] 59)
  have a2 := World.alloc_heap_new ((w.alloc (.cells #[.int .i64 s.k, .slice p s.n c, .int .i64 s.r] 24)).alloc (.cells #[.int .i64 x, .int .i64 y, .int .i64 t, .bool m] 59)) (.cells #[.int .i64 0, .slice none 0 0, .int .i64 0] 24)
  have b0 := heap_ext (heap_ext (heap_ext a0 (below_alloc _ _)) (below_alloc _ _)) hx1
  have b1 := heap_ext (heap_ext a1 (below_alloc _ _)) hx1
  have b2 := heap_ext a2 hx1
  simp only [World.size_alloc] at b1 b2 hg
  have hlt : w.heap.size + 1 + 1 < g := by omega
  refine ⟨(Ext.step X0.out hx1).setCell (p := ⟨w.heap.size, 1, none⟩) (Nat.le_refl _) _, ?_, ?_, ?_, ?_, hlt⟩
  ·exact row_set _ b0
  ·exact (row_oth _ (by omega)).trans b1
  ·exact (row_oth _ (by omega)).trans b2
  ·refine (row_oth _ (by omega)).trans ?_
   rw [hc, show rowL (ptE s.e (movS s x y t m).e 0) s.n = rowL s.e s.n from rowL_congr fun i _ => if_neg (Nat.not_lt_zero _), <- htk, List.take_append_drop]
 have HM := Lib.hid M0
 have FN := Lib.hid hcp
 have FX := Lib.hid hmx
 clear M0 hc hcp hmx htk hg
 obtain ⟨sl, hsl⟩ : ∃ sl, cur.toList.drop (s.n * 7) = sl := ⟨_, rfl⟩
 rw [hsl] at HM
 clear hsl
 rename_i K1 HK1 K2 HK2
 have hp1 : w.heap.size + 1 + 1 < W1.heap.size := by have := hx1.size; simp at this; omega
 have c1 : W1.heap[w.heap.size]? = some (.cells #[.int .i64 s.k, .slice p s.n c, .int .i64 s.r] 24) := heap_ext (heap_ext (heap_ext (World.alloc_heap_new w _) (below_alloc _ _)) (below_alloc _ _)) hx1
 have fz : W1.frozen? ⟨w.heap.size, 1, none⟩ = false := by simp [World.frozen?, c1]
 have k1 : W1.cell? ⟨w.heap.size, 1, none⟩ = some (.slice p s.n c) := by rw [cell_of_row _ _ _ _ _ _ c1]; simp
 clear c1
 clear hx1 X0
 go_wp2
 go_loopw [13] (fun i wr => ∃ k : Nat, i = .int .i64 (k : Int) /\ k <= s.n /\ MI w wr s x y t m g cp sl k) (fun i _ => s.n - (intOf i).toNat)
 case atStart => exact ⟨0, rfl, Nat.zero_le _, HM.out⟩
 case round =>
  obtain ⟨k, rfl, hk, hM⟩ := hrel
  clear HM fz k1 hp1
  by_cases hlt : k < s.n
  ·obtain ⟨⟨a0, a1, a2⟩, a3, a4, a5, a6⟩ := hM.cells
   have hE := hM.edge hlt
   have ix0 : 0 <= (k : Int) := by omega
   have ix2 : (k : Int) < (s.n : Int) := by omega
   have HM := Lib.hid hM
   clear hM
   have CC := Lib.hid (fun W (hW : Ext wr W) => And.intro (HM.out.ext hW).cells ((HM.out.ext hW).edge hlt))
   obtain ⟨mv, hmv⟩ : ∃ mv, moveE (s.e k) x y (modZ t 4) m = mv := ⟨_, rfl⟩
   have MVk := MV.out k hlt
   rw [hmv] at MVk
   unfold edA at MVk
   have MVk := Lib.hid MVk
   have EM := Lib.hid hmv
   clear hmv
   go_upto_region 5 with (fail)
   refine wp_region_T 11 (fun W => Ext wr W) (by kernel_rfl) (by kernel_rfl) (by kernel_rfl) (Below.refl _ _) (fun W W' h hb => Ext.step h hb) (fun W h => h.size) ?_
   simp only [List.take_succ_cons, List.take_zero, List.drop_succ_cons, List.drop_zero]
   repeat (refine T_run (v := ?_) (by rfl) ?_ ?_; rotate_left; (· (intro W hW; obtain ⟨⟨⟨a0, a1, a2⟩, a3, a4, a5, a6⟩, e0, e1, e2, e3, e4, e5, e6⟩ := CC.out W hW; go_simp; try with_reducible rfl)); simp only [Act.put, List.setIfInBounds_toArray, List.set_cons_zero, List.set_cons_succ])
   (refine T_call (v := .agg #[.int .i64 mv.k, .int .i64 mv.ax, .int .i64 mv.ay, .int .i64 mv.bx, .int .i64 mv.by', .int .i64 mv.cx, .int .i64 mv.cy]) (by rfl) (by rfl) ?_ ?_; (· (intro W hW; (try dsimp only at hW); go_simp; refine (MVk.out _).mono ?_; rintro e w' ⟨rfl, hx⟩; exact ⟨_, rfl, rfl, hx⟩))); simp only [Act.put, List.setIfInBounds_toArray, List.set_cons_zero, List.set_cons_succ]
   repeat (refine T_run (v := ?_) (by rfl) ?_ ?_; rotate_left; (· (intro W hW; obtain ⟨⟨⟨a0, a1, a2⟩, a3, a4, a5, a6⟩, e0, e1, e2, e3, e4, e5, e6⟩ := CC.out W hW; go_simp; try with_reducible rfl)); simp only [Act.put, List.setIfInBounds_toArray, List.set_cons_zero, List.set_cons_succ])
   refine T_done ?_
   refine F_store (fun W => MI w W s x y t m g cp sl (k + 1)) (fun W W' h hb => h.ext hb) (fun _ _ => trivial) (by rfl) (by rfl) (fun W hW => ?_) ?_
   ·have M := HM.out.ext hW
    have hb := M.bg
    have hf : (movS s x y t m).e k = mv := EM.out
    have hp := row_put s.e (movS s x y t m).e hlt sl
    rw [hf] at hp
    obtain ⟨o1, o2⟩ := onlyB_setRow (cs' := ((rowL (ptE s.e (movS s x y t m).e k) s.n ++ sl).take (k * 7) ++ (edL mv ++ (rowL (ptE s.e (movS s x y t m).e k) s.n ++ sl).drop (k * 7 + (edL mv).length))).toArray) hb
    refine gives_skip (W := W.setRow g ((rowL (ptE s.e (movS s x y t m).e k) s.n ++ sl).take (k * 7) ++ (edL mv ++ (rowL (ptE s.e (movS s x y t m).e k) s.n ++ sl).drop (k * 7 + (edL mv).length))).toArray) (ex_store (vs := edL mv) rfl (by rfl) hb (by rfl) (n := 7) (by kernel_rfl) rfl (by rw [List.length_append, rowL_len, edL_len]; omega) (edL_one mv)) ⟨rfl, by rw [o1.size]; exact Nat.le_refl _, ?_⟩
    have hl := M.lt
    exact ⟨M.ex.trans (o1.below (by omega)), (o1.block _ (by omega)).trans M.b2, (o1.block _ (by omega)).trans M.b3, (o1.block _ (by omega)).trans M.b4, o2.trans (by rw [hp]), hl⟩
   ·rintro W ⟨hM', _⟩
    have HM2 := Lib.hid hM'
    clear hM'
    have wk : IntKind.i64.wrap ((k : Int) + 1) = ((k + 1 : Nat) : Int) := by rw [wrap_in (by unfold I64; omega)]; omega
    go_wp2
    exact ⟨⟨k + 1, by simp, by omega, HM2.out⟩, by simp [intOf]; omega⟩
  ·obtain rfl : k = s.n := by omega
   have ix : ¬ ((s.n : Int) < (s.n : Int)) := by omega
   obtain ⟨⟨a0, a1, a2⟩, a3, a4, a5, a6⟩ := hM.cells
   have e4 := hM.b4
   have d0 : wr.cell? ⟨w.heap.size + 1 + 1, 0, none⟩ = some (.int .i64 0) := by rw [cell_of_row _ _ _ _ _ _ e4]; rfl
   have d1 : wr.cell? ⟨w.heap.size + 1 + 1, 1, none⟩ = some (.slice none 0 0) := by rw [cell_of_row _ _ _ _ _ _ e4]; rfl
   have d2 : wr.cell? ⟨w.heap.size + 1 + 1, 2, none⟩ = some (.int .i64 0) := by rw [cell_of_row _ _ _ _ _ _ e4]; rfl
   have f4 : ∀ o, wr.frozen? ⟨w.heap.size + 1 + 1, o, none⟩ = false := fun o => by simp [World.frozen?, e4]
   have HM := Lib.hid hM
   clear hM e4
   go_wp2
   refine bodyPost_ret (v := .agg #[.int .i64 s.k, .slice (some ⟨g, 0, none⟩) s.n cp, .int .i64 s.r]) (by simp only [results, Tryz.results22]; go_simp) rfl ?_
   have M := HM.out
   have hl := M.lt
   refine ⟨g, cp, rfl, ?_, ?_⟩
   ·have hs := H.out
    refine ⟨hs.k, hs.r, FN.out, FX.out, _, cp, rfl, FN.out, FX.out, fun i hi => ?_⟩
    have hi : i < s.n := hi
    have hb : (((wr.setCell ⟨w.heap.size + 1 + 1, 0, none⟩ (.int .i64 s.k)).setCell ⟨w.heap.size + 1 + 1, 1, none⟩ (.slice (some ⟨g, 0, none⟩) s.n cp)).setCell ⟨w.heap.size + 1 + 1, 2, none⟩ (.int .i64 s.r)).heap[g]? = some (.cells (rowL (ptE s.e (movS s x y t m).e s.n) s.n ++ sl).toArray 70) := by
     rw [row_oth _ (by omega), row_oth _ (by omega), row_oth _ (by omega)]; exact M.bg
    refine ⟨g, 0, _, _, rfl, hb, by simp only [List.size_toArray, List.length_append, rowL_len]; have := Nat.mul_le_mul_right 7 (show i <= s.n by omega); omega, edL ((movS s x y t m).e i), ((rowL (ptE s.e (movS s x y t m).e s.n) s.n ++ sl).drop (i * 7)).drop 7, ?_, ?_⟩
    ·have := row_mid (ptE s.e (movS s x y t m).e s.n) hi sl
     rw [show ptE s.e (movS s x y t m).e s.n i = (movS s x y t m).e i from if_pos hi] at this
     show (rowL (ptE s.e (movS s x y t m).e s.n) s.n ++ sl).drop (0 + i * 7) = _
     rw [Nat.zero_add, <- this]
     exact (List.take_append_drop 7 _).symm
    ·exact (OK.out i hi).rep _
   ·exact (((M.ex.setCell (p := ⟨w.heap.size + 1 + 1, 0, none⟩) (by show w.heap.size <= w.heap.size + 1 + 1; omega) _).setCell (p := ⟨w.heap.size + 1 + 1, 1, none⟩) (by show w.heap.size <= w.heap.size + 1 + 1; omega) _).setCell (p := ⟨w.heap.size + 1 + 1, 2, none⟩) (by show w.heap.size <= w.heap.size + 1 + 1; omega) _)
end Go.Proofs.YtceemiodpccbhaaGreat

namespace Go.Proofs.YtceemiodpccbhaaGreat
open Go.RowKit
noncomputable def tailF (X : List Eff) (K : List Con) (f : FuncId) (m : Nat) (c : Code) (d : Ds) (q : List Bool) : Option (AV × List Prop) :=
 match Tryz.prog.funcs[f]? with
 | none => none
 | some fn => match aCodeL Tryz.prog (env X) (callK X K) [] c (mkS m d) q with
  | some (e, s, ps, []) => (match e with
   | .ex _ => none
   | _ => match aRess Tryz.prog s fn.results.toList with
    | some l => (match outVs (blI (l.map V1.l).flatten) l, outB s.m (blI (l.map V1.l).flatten) with
     | some l', some [] => some (oneA l', ps)
     | _, _ => none)
    | none => none)
  | _ => none
theorem tail_wp {X : List Eff} {K : List Con} {f : FuncId} {fn : Func} {m : Nat} {c : Code} {d : Ds} {res : AV} (q : List Bool) (pf : List Pf) (h : tailF X K f m c d q = some (res, pf.map Pf.p)) (hf : Tryz.prog.funcs[f]? = some fn) {V w : World} {a : Act} {R : Ending -> World -> Prop} (hJ : JJ V (mkS m d) a w) (hR : ∀ v w', RepA w' w' (fun _ => 0) 0 res v -> Ext V w' -> R (.returned v) w') :
  c.wp Tryz.prog (bodyPost Tryz.prog fn R) a w := by
 have hp := all_pf pf
 generalize pf.map Pf.p = ps at h hp
 unfold tailF at h
 rw [hf] at h
 simp only at h
 split at h
 ·rename_i e s ps1 hc
  split at h
  ·cases h
  ·rename_i hex
   split at h
   ·rename_i l hl
    split at h
    ·rename_i l' hl' hms
     simp only [Option.some.injEq, Prod.mk.injEq] at h
     obtain ⟨h1, rfl⟩ := h
     refine aCodeL_wp (snd_ok X K) LpOk.nil hc hp hJ fun a' W' hJ' => ?_
     have key := fin_ok hl hl' hms (res := (res, [])) (by rw [h1]) hJ'
     obtain ⟨k1, v, k2, v', r, cm, k3, k4, k5⟩ := key
     cases k3
     have post : ∃ v, (results fn a'.tmps).run Tryz.prog W' = .ok v W' /\ R (.returned v) W' := ⟨v, k2, hR _ _ (RepA.none k5) k4.ext⟩
     cases e with
     | nm => exact ⟨k1, post⟩
     | rt => exact ⟨k1, post⟩
     | ex k => exact absurd rfl (hex k)
    ·cases h
   ·cases h
 ·cases h
end Go.Proofs.YtceemiodpccbhaaGreat

set_option maxHeartbeats 4000000
set_option maxRecDepth 100000
namespace Go.Proofs.YtceemiodpccbhaaGreat
open Go.RowKit
attribute [local go_sem] Gives givesU
theorem moveC (s : Sh) {x y t : Int} (m : Bool) (h1 : 1 <= s.n) (hn : s.n <= 1000) (hok : ∀ i, i < s.n -> (s.e i).ok = true) (hx : x.natAbs <= c26) (hy : y.natAbs <= c26) (ht : -8 <= t /\ t <= 8) (v : Value) (W : World) (hv : RepV W W (fun _ => 0) 0 (shpV s) v) :
  Calls Tryz.prog 22 #[v, .agg #[.int .i64 x, .int .i64 y, .int .i64 t, .bool m]] W fun e w' => ∃ v, e = .returned v /\ RepV w' w' (fun _ => 0) 0 (shpV (movS s x y t m)) v /\ Ext W w' := by
 obtain ⟨p, c, rfl, h⟩ := ShAt.of hv
 refine (shMove s x y t m p c W h h1 hn hok hx hy ht).mono ?_
 rintro e w' ⟨g, cp, rfl, h2, hx⟩
 exact ⟨_, rfl, h2.rep, hx⟩
theorem madeC (L : List Int) (v : Value) (W : World) (hv : IntsC W L v) : Calls Tryz.prog 12 #[v] W fun e w' => ∃ v, e = .returned v /\ RepV w' w' (fun _ => 0) 0 (shpV (madeS L)) v /\ Ext W w' :=
 made_fok L W [v] (rvs_cons.2 ⟨_, RepI.val (i := .ds L) ⟨_, rfl, hv⟩, _, rfl, rfl⟩)
theorem ShAt.only {W W' : World} {s : Sh} {p : Option Addr} {c B : Nat} {xs : Array Value} {T : TypeId} (h : ShAt W s p c) (ho : OnlyB B W W') (hB : W.heap[B]? = some (.cells xs T)) (hs : xs.size < 7) : ShAt W' s p c := by
 refine ⟨h.k, h.r, h.le, h.mx, ?_⟩
 obtain ⟨a, c', e, h1, h2, h3⟩ := h.row
 refine ⟨a, c', e, h1, h2, fun i hi => ?_⟩
 obtain ⟨g, o, ys, T', k1, k2, k3, cs, d, k4, k5⟩ := h3 i hi
 have hl : 7 <= ys.size := by
  obtain ⟨_, _, rfl, ⟨rfl, _⟩, _, _, rfl, ⟨rfl, _⟩, _, _, rfl, ⟨rfl, _⟩, _, _, rfl, ⟨rfl, _⟩, _, _, rfl, ⟨rfl, _⟩, _, _, rfl, ⟨rfl, _⟩, _, _, rfl, ⟨rfl, _⟩, rfl⟩ := k5
  have := congrArg List.length k4
  simp only [List.length_drop, Array.length_toList, List.length_append, List.length_cons, List.length_nil] at this
  omega
 have hg : g ≠ B := fun e => by
  subst e
  rw [k2] at hB
  cases hB
  omega
 refine ⟨g, o, ys, T', k1, (ho.block g hg).trans k2, k3, cs, d, k4, ?_⟩
 obtain ⟨c0, d0, e0, a0, c1, d1, e1, a1, c2, d2, e2, a2, c3, d3, e3, a3, c4, d4, e4, a4, c5, d5, e5, a5, c6, d6, e6, a6, e7⟩ := k5
 exact ⟨c0, d0, e0, a0, c1, d1, e1, a1, c2, d2, e2, a2, c3, d3, e3, a3, c4, d4, e4, a4, c5, d5, e5, a5, c6, d6, e6, a6, e7⟩
theorem sto_sh {a : Act} {o : Oper} {x y : Operand} {B : Nat} {W : World} (s : Sh) (p : Option Addr) (c : Nat) (hB : W.heap[B]? = some (.cells #[.int .i64 0, .slice none 0 0, .int .i64 0] 24)) (ho : o.op = .store 24 x y) (hx : a.eval x = .pointer (some ⟨B, 0, none⟩)) (hy : a.eval y = .agg #[.int .i64 s.k, .slice p s.n c, .int .i64 s.r]) :
  ∃ W', (execOp a.eval o).run Tryz.prog W = .ok .skip W' /\ OnlyB B W W' /\ W'.heap[B]? = some (.cells #[.int .i64 s.k, .slice p s.n c, .int .i64 s.r] 24) := by
 obtain ⟨o1, o2⟩ := onlyB_setRow (cs' := (([.int .i64 0, .slice none 0 0, .int .i64 0] : List Value).take 0 ++ (([.int .i64 s.k, .slice p s.n c, .int .i64 s.r] : List Value) ++ ([.int .i64 0, .slice none 0 0, .int .i64 0] : List Value).drop (0 + 3))).toArray) hB
 exact ⟨_, ex_store (vs := [.int .i64 s.k, .slice p s.n c, .int .i64 s.r]) (old := [.int .i64 0, .slice none 0 0, .int .i64 0]) ho hx hB (by rw [hy]; rfl) (n := 3) (by kernel_rfl) rfl (by simp) (fun v hv => by simp only [List.mem_cons, List.not_mem_nil, or_false] at hv; rcases hv with rfl | rfl | rfl <;> rfl), o1, o2⟩
theorem giv_sh {a : Act} {o : Oper} {x y : Operand} {B : Nat} {W : World} {R : Value -> World -> Prop} (s : Sh) (p : Option Addr) (c : Nat) (hB : W.heap[B]? = some (.cells #[.int .i64 0, .slice none 0 0, .int .i64 0] 24)) (ho : o.op = .store 24 x y) (hx : a.eval x = .pointer (some ⟨B, 0, none⟩)) (hy : a.eval y = .agg #[.int .i64 s.k, .slice p s.n c, .int .i64 s.r])
  (hR : ∀ W', OnlyB B W W' -> W'.heap[B]? = some (.cells #[.int .i64 s.k, .slice p s.n c, .int .i64 s.r] 24) -> R undef W') : Gives Tryz.prog o a W R := by
 obtain ⟨W', h1, h2, h3⟩ := sto_sh s p c hB ho hx hy
 exact gives_skip h1 (hR _ h2 h3)
theorem mod_bd (z : Int) : (z.tmod 60).natAbs <= c26 := by
 obtain ⟨h1, h2⟩ := tmod_bd z (show (0 : Int) < 60 by decide)
 generalize z.tmod 60 = u at *
 unfold c26
 omega
theorem shapesC (L M : List Int) (bx by' : Int) (v1 v2 : Value) (w : World) (h1 : IntsC w L v1) (h2 : IntsC w M v2) (hm : 1 <= (madeS M).n /\ (madeS M).n <= 1000) (hok : ∀ i, i < (madeS M).n -> ((madeS M).e i).ok = true) :
  Calls Tryz.prog 20 #[v1, v2, .agg #[.int .i64 bx, .int .i64 by']] w fun e w' => ∃ u1 u2, e = .returned (.tuple #[u1, u2]) /\ RepV w' w' (fun _ => 0) 0 (shpV (madeS L)) u1 /\ RepV w' w' (fun _ => 0) 0 (shpV (movS (madeS M) (bx.tmod 60) (by'.tmod 60) 0 false)) u2 /\ Ext w w' := by
 have C1 := Lib.hid (fun W (hW : Ext w W) => madeC L v1 W (h1.ext hW))
 have C2 := Lib.hid (fun W (hW : Ext w W) => madeC M v2 W (h2.ext hW))
 clear h1 h2
 have X0 : Ext w (((w.alloc (.cells #[.int .i64 bx, .int .i64 by'] 32)).alloc (.cells #[.int .i64 0, .slice none 0 0, .int .i64 0] 24)).alloc (.cells #[.int .i64 0, .slice none 0 0, .int .i64 0] 24)) := bxx
 have X0 := Lib.hid X0
 go_enter Tryz.func20, Tryz.ntmps20
 go_wp2_with fail
 refine (C2.out _ X0.out).mono ?_
 rintro e W1 ⟨v, rfl, hv, hx⟩
 obtain ⟨p, c, rfl, hS⟩ := ShAt.of hv
 have b5 := heap_ext (heap_ext (heap_ext (World.alloc_heap_new w (.cells #[.int .i64 bx, .int .i64 by'] 32)) (below_alloc _ (.cells #[.int .i64 0, .slice none 0 0, .int .i64 0] 24))) (below_alloc _ (.cells #[.int .i64 0, .slice none 0 0, .int .i64 0] 24))) hx
 have b6 := heap_ext (heap_ext (World.alloc_heap_new (w.alloc (.cells #[.int .i64 bx, .int .i64 by'] 32)) (.cells #[.int .i64 0, .slice none 0 0, .int .i64 0] 24)) (below_alloc _ (.cells #[.int .i64 0, .slice none 0 0, .int .i64 0] 24))) hx
 have b7 := heap_ext (World.alloc_heap_new ((w.alloc (.cells #[.int .i64 bx, .int .i64 by'] 32)).alloc (.cells #[.int .i64 0, .slice none 0 0, .int .i64 0] 24)) (.cells #[.int .i64 0, .slice none 0 0, .int .i64 0] 24)) hx
 simp only [World.size_alloc] at b6 b7
 have B5 := Lib.hid b5
 have B6 := Lib.hid b6
 have B7 := Lib.hid b7
 have X1 := Lib.hid (Ext.step X0.out hx)
 have HS := Lib.hid hS
 clear b5 b6 b7 hx hv hS X0 C2
 generalize hs : madeS M = s at *
 obtain ⟨k, r, n, hk, hr, hn⟩ : ∃ k r n, s.k = k /\ s.r = r /\ s.n = n := ⟨_, _, _, rfl, rfl, rfl⟩
 have KRN := Lib.hid (And.intro hk (And.intro hr hn))
 rw [hk, hr, hn]
 clear hk hr hn
 go_upto_region 2 with (fail)
 have b8 := World.alloc_heap_new W1 (.cells #[.int .i64 k, .slice p n c, .int .i64 r] 24)
 have zB := (Array.getElem?_eq_some_iff.1 B7.out).1
 have CC : Hid (∀ W, ((Ext w W /\ W1.heap.size + 1 <= W.heap.size) /\ W.heap[W1.heap.size]? = some (.cells #[.int .i64 k, .slice p n c, .int .i64 r] 24) /\ W.heap[w.heap.size]? = some (.cells #[.int .i64 bx, .int .i64 by'] 32)) ->
   (W.cell? ⟨W1.heap.size, 0, none⟩ = some (.int .i64 k) /\ W.cell? ⟨W1.heap.size, 1, none⟩ = some (.slice p n c) /\ W.cell? ⟨W1.heap.size, 2, none⟩ = some (.int .i64 r)) /\ W.cell? ⟨w.heap.size, 0, none⟩ = some (.int .i64 bx) /\ W.cell? ⟨w.heap.size, 1, none⟩ = some (.int .i64 by')) := Lib.hid fun W h => by
  obtain ⟨_, r8, r5⟩ := h
  refine ⟨⟨?_, ?_, ?_⟩, ?_, ?_⟩
  ·rw [cell_of_row _ _ _ _ _ _ r8]; rfl
  ·rw [cell_of_row _ _ _ _ _ _ r8]; rfl
  ·rw [cell_of_row _ _ _ _ _ _ r8]; rfl
  ·rw [cell_of_row _ _ _ _ _ _ r5]; rfl
  ·rw [cell_of_row _ _ _ _ _ _ r5]; rfl
 refine wp_region_G (fun W => (Ext w W /\ W1.heap.size + 1 <= W.heap.size) /\ W.heap[W1.heap.size]? = some (.cells #[.int .i64 k, .slice p n c, .int .i64 r] 24) /\ W.heap[w.heap.size]? = some (.cells #[.int .i64 bx, .int .i64 by'] 32))
  (fun W => ShAt W s p c /\ W.heap[w.heap.size + 1]? = some (.cells #[.int .i64 0, .slice none 0 0, .int .i64 0] 24) /\ W.heap[w.heap.size + 1 + 1]? = some (.cells #[.int .i64 0, .slice none 0 0, .int .i64 0] 24)) (by kernel_rfl) (by kernel_rfl) ?_ ?_ ?_ ?_
 ·exact ⟨⟨⟨Ext.step X1.out (below_alloc _ _), by simp⟩, b8, heap_ext B5.out (below_alloc _ _)⟩, HS.out.ext (below_alloc _ _), heap_ext B6.out (below_alloc _ _), heap_ext B7.out (below_alloc _ _)⟩
 ·rintro W W' ⟨⟨⟨h1, h2⟩, h3, h4⟩, h5, h6, h7⟩ hb
  exact ⟨⟨⟨Ext.step h1 hb, Nat.le_trans h2 hb.size⟩, heap_ext h3 hb, heap_ext h4 hb⟩, h5.ext hb, heap_ext h6 hb, heap_ext h7 hb⟩
 ·rintro W ⟨⟨h1, h2⟩, _⟩
  simpa using h2
 repeat (refine F_run (v := ?_) (by rfl) ?_ ?_; rotate_left; (· (intro W hW; obtain ⟨⟨c0, c1, c2⟩, c3, c4⟩ := CC.out W hW; go_simp; try with_reducible rfl)); simp only [Act.put, List.setIfInBounds_toArray, List.set_cons_zero, List.set_cons_succ])
 refine F_callE (I := Value) (fun v => v) (fun v W => RepV W W (fun _ => 0) 0 (shpV (madeS L)) v) (shpV_mono _) (by rfl) (by rfl) (fun W hW => ?_) fun u1 hu1 => ?_
 ·refine gives_enter (f := 12) (args := #[v1]) (by go_simp; try with_reducible rfl) ((C1.out W hW.1.1.1).mono ?_)
  rintro e W' ⟨v, rfl, hv, hx⟩
  exact ⟨v, rfl, v, rfl, hx, hv⟩
 simp only [Act.put, List.setIfInBounds_toArray, List.set_cons_zero, List.set_cons_succ]
 repeat (refine F_run (v := ?_) (by rfl) ?_ ?_; rotate_left; (· (intro W hW; obtain ⟨⟨c0, c1, c2⟩, c3, c4⟩ := CC.out W hW; go_simp; try with_reducible rfl)); simp only [Act.put, List.setIfInBounds_toArray, List.set_cons_zero, List.set_cons_succ])
 obtain ⟨rfl, rfl, rfl⟩ := KRN.out
 obtain ⟨X, hX⟩ : ∃ X, bx.tmod 60 = X := ⟨_, rfl⟩
 obtain ⟨Y, hY⟩ : ∃ Y, by'.tmod 60 = Y := ⟨_, rfl⟩
 have bX : X.natAbs <= c26 := hX ▸ mod_bd bx
 have bY : Y.natAbs <= c26 := hY ▸ mod_bd by'
 rw [hX, hY]
 obtain ⟨Wx, _, hux⟩ := hu1
 obtain ⟨p1, c1, rfl, _⟩ := ShAt.of hux
 clear hux
 refine F_callE (I := Value) (fun v => v) (fun v W => RepV W W (fun _ => 0) 0 (shpV (movS s X Y 0 false)) v) (shpV_mono _) (by rfl) (by rfl) (fun W hW => ?_) fun u2 hu2 => ?_
 ·refine gives_enter (f := 22) (args := #[.agg #[.int .i64 s.k, .slice p s.n c, .int .i64 s.r], .agg #[.int .i64 X, .int .i64 Y, .int .i64 0, .bool false]]) (by go_simp; try with_reducible rfl) ((moveC s (x := X) (y := Y) (t := 0) false hm.1 hm.2 hok bX bY (by omega) _ W hW.1.2.1.rep).mono ?_)
  rintro e W' ⟨v, rfl, hv, hx⟩
  exact ⟨v, rfl, v, rfl, hx, hv⟩
 simp only [Act.put, List.setIfInBounds_toArray, List.set_cons_zero, List.set_cons_succ]
 obtain ⟨Wy, _, huy⟩ := hu2
 obtain ⟨p2, c2, rfl, _⟩ := ShAt.of huy
 clear huy
 refine F_store (fun W => (((Ext w W /\ W1.heap.size + 1 <= W.heap.size) /\ W.heap[W1.heap.size]? = some (.cells #[.int .i64 s.k, .slice p s.n c, .int .i64 s.r] 24) /\ W.heap[w.heap.size]? = some (.cells #[.int .i64 bx, .int .i64 by'] 32)) /\ W.heap[w.heap.size + 1]? = some (.cells #[.int .i64 (madeS L).k, .slice p1 (madeS L).n c1, .int .i64 (madeS L).r] 24) /\ W.heap[w.heap.size + 1 + 1]? = some (.cells #[.int .i64 0, .slice none 0 0, .int .i64 0] 24)) /\ ShAt W (madeS L) p1 c1 /\ ShAt W (movS s X Y 0 false) p2 c2)
  ?_ ?_ (by rfl) (by rfl) (fun W hW => ?_) ?_
 ·rintro W W' ⟨⟨⟨⟨h1, h2⟩, h3, h4⟩, h5, h6⟩, h7, h8⟩ hb
  exact ⟨⟨⟨⟨Ext.step h1 hb, Nat.le_trans h2 hb.size⟩, heap_ext h3 hb, heap_ext h4 hb⟩, heap_ext h5 hb, heap_ext h6 hb⟩, h7.ext hb, h8.ext hb⟩
 ·exact fun W h => h.1.1
 ·obtain ⟨⟨⟨⟨⟨x1, z1⟩, r8, r5⟩, _, r6, r7⟩, q1⟩, q2⟩ := hW
  obtain ⟨p', c', e', q1⟩ := ShAt.of q1
  cases e'
  obtain ⟨p', c', e', q2⟩ := ShAt.of q2
  cases e'
  refine giv_sh (madeS L) p1 c1 r6 rfl (by rfl) (by rfl) fun W2 o1 o2 => ⟨rfl, by rw [o1.size]; exact Nat.le_refl _, ⟨⟨⟨x1.trans (o1.below (by omega)), by rw [o1.size]; exact z1⟩, (o1.block _ (by omega)).trans r8, (o1.block _ (by omega)).trans r5⟩, o2, (o1.block _ (by omega)).trans r7⟩, q1.only o1 r6 (by simp), q2.only o1 r6 (by simp)⟩
 simp only [Act.put, List.setIfInBounds_toArray, List.set_cons_zero, List.set_cons_succ]
 refine F_store (fun W => (((Ext w W /\ W1.heap.size + 1 <= W.heap.size) /\ W.heap[W1.heap.size]? = some (.cells #[.int .i64 s.k, .slice p s.n c, .int .i64 s.r] 24) /\ W.heap[w.heap.size]? = some (.cells #[.int .i64 bx, .int .i64 by'] 32)) /\ W.heap[w.heap.size + 1]? = some (.cells #[.int .i64 (madeS L).k, .slice p1 (madeS L).n c1, .int .i64 (madeS L).r] 24) /\ W.heap[w.heap.size + 1 + 1]? = some (.cells #[.int .i64 (movS s X Y 0 false).k, .slice p2 (movS s X Y 0 false).n c2, .int .i64 (movS s X Y 0 false).r] 24)) /\ ShAt W (madeS L) p1 c1 /\ ShAt W (movS s X Y 0 false) p2 c2)
  ?_ ?_ (by rfl) (by rfl) (fun W hW => ?_) ?_
 ·rintro W W' ⟨⟨⟨⟨h1, h2⟩, h3, h4⟩, h5, h6⟩, h7, h8⟩ hb
  exact ⟨⟨⟨⟨Ext.step h1 hb, Nat.le_trans h2 hb.size⟩, heap_ext h3 hb, heap_ext h4 hb⟩, heap_ext h5 hb, heap_ext h6 hb⟩, h7.ext hb, h8.ext hb⟩
 ·exact fun W h => h.1.1
 ·obtain ⟨⟨⟨⟨⟨x1, z1⟩, r8, r5⟩, r6, r7⟩, q1, q2⟩, _⟩ := hW
  refine giv_sh (movS s X Y 0 false) p2 c2 r7 rfl (by rfl) (by rfl) fun W2 o1 o2 => ⟨rfl, by rw [o1.size]; exact Nat.le_refl _, ⟨⟨⟨x1.trans (o1.below (by omega)), by rw [o1.size]; exact z1⟩, (o1.block _ (by omega)).trans r8, (o1.block _ (by omega)).trans r5⟩, (o1.block _ (by omega)).trans r6, o2⟩, q1.only o1 r7 (by simp), q2.only o1 r7 (by simp)⟩
 simp only [Act.put, List.setIfInBounds_toArray, List.set_cons_zero, List.set_cons_succ]
 rintro W ⟨⟨⟨⟨⟨x1, _⟩, _, _⟩, r6, r7⟩, q1, q2⟩, _⟩
 have e0 : W.cell? ⟨w.heap.size + 1, 0, none⟩ = some (.int .i64 (madeS L).k) := by rw [cell_of_row _ _ _ _ _ _ r6]; rfl
 have e1 : W.cell? ⟨w.heap.size + 1, 1, none⟩ = some (.slice p1 (madeS L).n c1) := by rw [cell_of_row _ _ _ _ _ _ r6]; rfl
 have e2 : W.cell? ⟨w.heap.size + 1, 2, none⟩ = some (.int .i64 (madeS L).r) := by rw [cell_of_row _ _ _ _ _ _ r6]; rfl
 have e3 : W.cell? ⟨w.heap.size + 1 + 1, 0, none⟩ = some (.int .i64 (movS s X Y 0 false).k) := by rw [cell_of_row _ _ _ _ _ _ r7]; rfl
 have e4 : W.cell? ⟨w.heap.size + 1 + 1, 1, none⟩ = some (.slice p2 (movS s X Y 0 false).n c2) := by rw [cell_of_row _ _ _ _ _ _ r7]; rfl
 have e5 : W.cell? ⟨w.heap.size + 1 + 1, 2, none⟩ = some (.int .i64 (movS s X Y 0 false).r) := by rw [cell_of_row _ _ _ _ _ _ r7]; rfl
 have Q1 := Lib.hid q1
 have Q2 := Lib.hid q2
 have XX := Lib.hid x1
 have HXY := Lib.hid (And.intro hX hY)
 clear q1 q2 x1 r6 r7 hX hY bX bY
 go_wp2
 refine bodyPost_ret (v := .tuple #[.agg #[.int .i64 (madeS L).k, .slice p1 (madeS L).n c1, .int .i64 (madeS L).r], .agg #[.int .i64 (movS s X Y 0 false).k, .slice p2 (movS s X Y 0 false).n c2, .int .i64 (movS s X Y 0 false).r]]) (by simp only [results, Tryz.results20]; go_simp) rfl ?_
 obtain ⟨hX, hY⟩ := HXY.out
 exact ⟨_, _, rfl, Q1.out.rep, by rw [hX, hY]; exact Q2.out.rep, XX.out⟩
end Go.Proofs.YtceemiodpccbhaaGreat
