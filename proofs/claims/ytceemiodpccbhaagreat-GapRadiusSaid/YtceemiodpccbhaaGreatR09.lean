import Derived.Test.YtceemiodpccbhaaGreatR08
import Derived.Great.BuildSlice
set_option linter.unusedVariables false
set_option linter.unusedSimpArgs false


namespace Go.Proofs.YtceemiodpccbhaaGreat
open Go.RowKit
section
variable {P : Program} {V : World} {r r' : Nat -> Nat} {k k' : Nat} {s s1 : St} {a : Act} {F S : World -> Prop} {o : Oper} {W W' w : World} {cm cm' : Nat -> List Value} {m : List (Option Mb)} {q q' : List Bool} {v : AV} {ob : Ob}
theorem rep_flat {zs : List It} {c : List Value} : ∀ n : Nat, RepL V W r k zs c -> RepL V W r k (List.replicate n zs).flatten (List.replicate n c).flatten
 | 0, _ => rfl
 | n + 1, h => by
  rw [List.replicate_succ, List.replicate_succ, List.flatten_cons, List.flatten_cons]
  exact h.app (rep_flat n h)
theorem range_flat (z : Array Value) (hz : 0 < z.size) : ∀ n : Nat, ((Array.range (n * z.size)).map (z[· % z.size]!)).toList = (List.replicate n z.toList).flatten
 | 0 => by simp
 | n + 1 => by
  rw [List.replicate_succ', List.flatten_append, <- range_flat z hz n]
  apply List.ext_getElem?
  intro i
  simp only [Array.toList_map, Array.toList_range, List.getElem?_map, List.getElem?_append, List.length_map, List.length_range, List.flatten_cons, List.flatten_nil, List.append_nil]
  by_cases h1 : i < n * z.size
  ·rw [if_pos h1, List.getElem?_range (by rw [Nat.succ_mul]; omega), List.getElem?_range h1]
  ·rw [if_neg h1]
   by_cases h2 : i < (n + 1) * z.size
   ·rw [List.getElem?_range h2]
    rw [Nat.succ_mul] at h2
    have h3 : i - n * z.size < z.size := by omega
    have h4 : i % z.size = i - n * z.size := by
     have : i = (i - n * z.size) + z.size * n := by rw [Nat.mul_comm z.size n]; omega
     rw [this, Nat.add_mul_mod_self_left, Nat.mod_eq_of_lt h3, Nat.mul_comm z.size n, Nat.add_sub_cancel]
    have h5 : z[i - n * z.size]! = z[i - n * z.size] := getElem!_pos z _ h3
    simp only [Option.map_some, h4, h5]
    simp [h3]
   ·rw [List.getElem?_eq_none (by simpa using h2)]
    rw [Nat.succ_mul] at h2
    simp; omega
theorem exec_val' {m : Sem Value} {x : Value} {w W : World} (he : execOp a.eval o = do pure (.value (<- m))) (h : m.run P w = .ok x W) : (execOp a.eval o).run P w = .ok (.value x) W := by
 rw [he, Sem.run_bind, h]; rfl
theorem fill_len {pl : Nat -> Option (Nat × Nat)} : ∀ {ps : List (Nat × Value)} {cs ds : List Value}, Instr.fill pl cs.toArray ps = some ds.toArray -> ds.length = cs.length
 | [], cs, ds, h => by rw [Instr.fill] at h; simp at h; rw [h]
 | (f, v) :: ps, cs, ds, h => by
  rw [Instr.fill] at h
  split at h
  ·cases h
  ·rename_i o n _
   split at h
   ·cases h
   ·have key : ∀ (l : List (Value × Nat)) (c : Array Value), (l.foldl (fun cs (x : Value × Nat) => cs.setIfInBounds (o + x.2) x.1) c).size = c.size := by
     intro l
     induction l with
     | nil => intro c; rfl
     | cons x l ih => intro c; rw [List.foldl_cons, ih]; simp
    have h2 : ∀ c : Array Value, (v.cells.zipIdx.foldl (fun cs (x : Value × Nat) => cs.setIfInBounds (o + x.2) x.1) c) = (v.cells.zipIdx.foldl (fun cs (x : Value × Nat) => cs.setIfInBounds (o + x.2) x.1) c).toList.toArray := fun c => by simp
    rw [h2] at h
    rw [fill_len h, Array.length_toList, <- Array.foldl_toList, key]
    simp
theorem D_build (h : HT V r k s a F) {t e : TypeId} {len z : Nat} {ps : Array (Nat × Operand)} {l : List (Nat × V1)} {zs c : List It} (ho : o.op = .buildSlice t len ps) (hu : P.underlying t = some (.slice e)) (hl : evPs s ps.toList = some l) (hz : szT P e = some z) (hzs : zeroT P e = some zs)
  (hb : (0 < len * z /\ len * z <= 16777216 /\ len <= 1000) /\ (zs.map It.n).sum = z) (hf : fills (fun i => some (i * z, z)) (List.replicate len zs).flatten l = some c) :
  ∃ cs : List Value, (∀ w, (execOp a.eval o).run P w = .ok (.value (.slice (some ⟨w.heap.size, 0, none⟩) len len)) (w.alloc (.cells cs.toArray e))) /\ (∀ W, F W -> RepL V W r k c cs) /\ cs.length = len * z := by
 obtain ⟨ie, zv, i1, i2, i3⟩ := zeroT_zero hzs
 have hsz : ie.size = z := by unfold szT at hz; rw [i1] at hz; simpa using hz
 obtain ⟨W0, h0⟩ := h.ex
 have hzl : zv.cells.size = z := by
  have := (toIts_rep (V := V) (W := W0) (r := r) (k := k) i3).cells.1
  rw [hb.2] at this
  simpa using this
 have hz0 : 0 < z := Nat.pos_of_mul_pos_left hb.1.1 |> fun h => by
  rcases Nat.eq_zero_or_pos z with e | e
  ·rw [e] at hb; omega
  ·exact e
 obtain ⟨ds, k1, k2⟩ := h.evPs hl hf (cs := (List.replicate len zv.cells.toList).flatten) (fun W _ => rep_flat len (toIts_rep i3))
 refine ⟨ds, fun w => ?_, k2, ?_⟩
 rotate_left
 ·rw [fill_len k1]
  simp [hzl]
 have e1 : (Array.range (len * ie.size)).map (zv.cells[· % zv.cells.size]!) = ((List.replicate len zv.cells.toList).flatten).toArray := by
  apply Array.toList_inj.1
  rw [hsz, <- hzl, range_flat zv.cells (by omega) len]
 have := run_buildSlice (P := P) w t e len (ps.map fun (i, x) => (i, a.eval x)) ds.toArray ie zv hu i1 i2 (by rw [hsz]; omega) (by rw [hsz]; omega) (by
  rw [e1, hsz]
  have e2 : (ps.map fun (i, x) => (i, a.eval x)).toList = ps.toList.map fun x => (x.1, a.eval x.2) := by simp
  rw [e2]
  exact k1)
 exact exec_val' (by unfold execOp; rw [ho]) this
theorem grow_I {B : Nat} {E : TypeId} {size n c : Nat} {p : Option Addr} {xs : List Value} (hp : PO w B E size p n c xs) (hg : w.grownBy W' (blkO p)) (hs : ∀ g0 cur T, p = some ⟨g0, 0, none⟩ -> w.heap[g0]? = some (.cells cur T) -> ∃ cur', W'.heap[g0]? = some (.cells cur' T) /\ cur'.size = cur.size)
  (i : It) (cs : List Value) : RepI V w r k i cs -> RepI V W' r k i cs := by
 cases i with
 | d D =>
  cases D with
  | num x => exact fun ⟨n, q, l, c, e, h⟩ => ⟨n, q, l, c, e, h.grow hp hg⟩
  | zi x B => exact fun ⟨⟨n, q, l, c, e, h⟩, hb⟩ => ⟨⟨n, q, l, c, e, h.grow hp hg⟩, hb⟩
 | sl b n z =>
  refine fun ⟨h0, c, ys, T, h1, h2, h3, h4⟩ => ?_
  by_cases e : blkO p = some (r b)
  ·have hpe : p = some ⟨r b, 0, none⟩ := by
    rcases hp.2 with ⟨rfl, _⟩ | ⟨g, cur, rfl, _⟩
    ·cases e
    ·simp only [blkO, Option.map_some, Option.some.injEq] at e; rw [e]
   obtain ⟨cur', k1, k2⟩ := hs (r b) ys T hpe h2
   exact ⟨h0, c, cur', T, h1, k1, by rw [h3, k2], h4⟩
  ·exact ⟨h0, c, ys, T, h1, by rw [hg.block _ (Array.getElem?_eq_some_iff.1 h2).1 (fun h => e h.symm)]; exact h2, h3, h4⟩
 | _ => exact id
theorem RM.grown {p : Option Addr} (h : RM V r cm m w) (hx : Ext V W') (hne : ∀ b x, mb m b = some x -> some (r b) ≠ blkO p) (hg : w.grownBy W' (blkO p)) (hI : ∀ i cs, RepI V w r m.length i cs -> RepI V W' r m.length i cs) : RM V r cm m W' :=
 ⟨hx, fun b x hb => ⟨by rw [hg.block _ (Array.getElem?_eq_some_iff.1 (h.blk b x hb).1).1 (hne b x hb)]; exact (h.blk b x hb).1, (h.blk b x hb).2.imp hI⟩, h.lo, h.inj⟩
theorem D_app {t : TypeId} {x : It} {b' m z' : Nat} {u1 u2 : Value} (hM : RM V r cm s.m w) (h1 : RepI V w r s.m.length x [u1]) (h2 : RepI V w r s.m.length (.sl b' m z') [u2]) (hd : aApp P s t x b' m z' q = some (v, s1, ob, q')) (ty : TypeId) :
  q' = q /\ s1.al = noB s.al /\ ob.ld = [] /\ s1.t = s.t /\ ∃ n z y m1, v = on1 (.sl s.m.length n z) /\ s1.m = m1 ++ [some y] /\ m1.length = s.m.length /\
   (∀ b x, mb m1 b = some x -> mb s.m b = some x) /\ (∀ b, b ∉ ob.st -> m1[b]? = s.m[b]?) /\
   ∃ g c cs W', (Builtin.append_ #[t, t] ty #[u1, u2]).run P w = .ok (.slice (some ⟨g, 0, none⟩) n c) W' /\ w.heap.size <= W'.heap.size /\ RM V (up r s.m.length g) (upM cm s.m.length cs) s1.m W' /\
    RepI V W' (up r s.m.length g) s1.m.length (.sl s.m.length n z) [.slice (some ⟨g, 0, none⟩) n c] /\
    (∀ i cs, RepI V w r s.m.length i cs -> RepI V W' (up r s.m.length g) s1.m.length i cs) := by
 unfold aApp at hd
 split at hd
 rotate_left
 ·cases hd
 rename_i e y hu hy
 split at hd
 rotate_left
 ·cases hd
 rename_i i zs new rest hi hz hc
 split at hd
 rotate_left
 ·cases hd
 rename_i hb
 obtain ⟨⟨b1, b6⟩, b2, b3, b4, b5⟩ := hb
 obtain ⟨i', zv, j1, j2, j3⟩ := zeroT_zero hz
 rw [hi] at j1
 cases j1
 obtain ⟨y1, y2⟩ := hM.blk b' y hy
 obtain ⟨n1, n2, n3⟩ := cutI_repP hc y2
 obtain ⟨_, q2, xs2, T2, e2, _⟩ := h2
 obtain rfl : u2 = .slice (some ⟨r b', 0, none⟩) m q2 := by simpa using e2
 have hz0 := (toIts_rep (V := V) (W := w) (r := r) (k := s.m.length) j3).cells
 have hzc : zv.cells.size = z' := by have := hz0.1; rw [b6] at this; simpa using this
 have news := n1.cells
 have hnl : ((cm b').take (m * z')).length = m * z' := by rw [List.length_take]; omega
 have hnews : ∀ j u, ((cm b').take (m * z'))[j]? = some u -> w.cell? ((⟨r b', 0, none⟩ : Addr).add j) = some u := by
  intro j u hj
  rw [Addr.add_mid, Nat.zero_add, cell_of_row _ _ _ _ _ _ y1]
  rw [List.getElem?_take] at hj
  split at hj
  ·simpa using hj
  ·cases hj
 have step : ∀ (p : Option Addr) (n c : Nat) (old : List It) (xs0 : List Value) (m1 : List (Option Mb)), PO w V.heap.size e z' p n c xs0 -> RepL V w r s.m.length old xs0 -> n + m <= 1000 -> RM V r cm m1 w -> m1.length = s.m.length -> (∀ b x, mb m1 b = some x -> some (r b) ≠ blkO p) -> (∀ g, blkO p = some g -> V.heap.size <= g) ->
   ∃ g c2 cs W', (Builtin.append_ #[t, t] ty #[.slice p n c, .slice (some ⟨r b', 0, none⟩) m q2]).run P w = .ok (.slice (some ⟨g, 0, none⟩) (n + m) c2) W' /\ w.heap.size <= W'.heap.size /\ RM V (up r s.m.length g) (upM cm s.m.length cs) (m1 ++ [some ⟨e, old ++ new⟩]) W' /\
    RepI V W' (up r s.m.length g) (m1 ++ [some (⟨e, old ++ new⟩ : Mb)]).length (.sl s.m.length (n + m) z') [.slice (some ⟨g, 0, none⟩) (n + m) c2] /\
    (∀ i cs, RepI V w r s.m.length i cs -> RepI V W' (up r s.m.length g) (m1 ++ [some (⟨e, old ++ new⟩ : Mb)]).length i cs) := by
  intro p n c old xs0 m1 hPO hold hn hM1 hlen hne hlo
  obtain ⟨g, c2, W', k1, k2, k3, k4, k5⟩ := append_PO (P := P) w (t := t) (ty := ty) hu hi j2 b1 rfl hzc b2 (fun v hv => (hz0.2 v hv).1) hPO ⟨r b', 0, none⟩ m q2 _ hnl hnews (fun v hv => (news.2 v hv).2) (fun v hv => (news.2 v hv).1) b3 hn b4 hM.ext.size
  have hI := fun i cs => grow_I (V := V) (r := r) (k := s.m.length) hPO k3 k5 i cs
  have hx : Ext V W' := ext_grow (B := 0) hM.ext k3 hlo
  have hM2 : RM V r cm m1 W' := hM1.grown hx hne k3 (by rw [hlen]; exact hI)
  obtain ⟨l1, hk⟩ := k2
  rcases hk with ⟨hk, _⟩ | ⟨g', cur, hk, l2, l3, l4, l5, l6, l7, l8⟩
  ·cases hk
  cases hk
  have hlen2 : (m1 ++ [some (⟨e, old ++ new⟩ : Mb)]).length = s.m.length + 1 := by rw [List.length_append, hlen]; rfl
  refine ⟨g, c2, cur.toList, W', k1, k3.size, ?_, ?_, fun i cs h => ?_⟩
  ·rw [<- hlen]
   refine hM2.new (c := cur.toList) (by simpa using l3) ?_ l2 (fun b x hb e => ?_)
   ·refine ⟨xs0 ++ (cm b').take (m * z'), cur.toList.drop ((n + m) * z'), ?_, ?_, fun v hv => l8 v (List.mem_of_mem_drop hv)⟩
    ·rw [<- l7, List.take_append_drop]
    ·rw [hlen]
     exact (hold.imp hI).app (n1.imp hI)
   ·have h3 := hne b x hb
    rcases k4 with h4 | h4
    ·rw [<- h4, e] at h3; exact h3 rfl
    ·have := (Array.getElem?_eq_some_iff.1 (hM1.blk b x hb).1).1
     omega
  ·rw [hlen2]
   refine ⟨Nat.lt_succ_self _, c2, cur, _, by rw [up_at], by rw [up_at]; exact l3, l6.symm, l4, l5⟩
  ·rw [hlen2]
   exact RepI.grow (Nat.le_succ _) (fun b hb => up_old hb) i cs (hI i cs h)
 split at hd
 ·
  simp only [Option.some.injEq, Prod.mk.injEq] at hd
  obtain ⟨rfl, rfl, rfl, rfl⟩ := hd
  obtain rfl : u1 = .slice none 0 0 := by simpa using h1.1
  obtain ⟨g, c2, cs, W', s1, s2, s3, s4, s5⟩ := step none 0 0 [] [] s.m (PO.nil _ _ _ _) rfl (by omega) hM rfl (fun b x _ h => by cases h) (fun g h => by cases h)
  simp only [Nat.zero_add, List.nil_append] at s1 s2 s3 s4 s5
  exact ⟨rfl, rfl, rfl, rfl, m, z', _, s.m, rfl, rfl, rfl, fun _ _ h => h, fun _ _ => rfl, g, c2, cs, W', s1, s2, s3, s4, s5⟩
 ·
  rename_i b n z
  split at hd
  rotate_left
  ·cases hd
  rename_i wb hwb
  split at hd
  rotate_left
  ·cases hd
  rename_i old _ hold
  split at hd
  rotate_left
  ·cases hd
  rename_i hcond
  obtain ⟨c1, c2, c3, c4⟩ := hcond
  subst c1
  simp only [Option.some.injEq, Prod.mk.injEq] at hd
  obtain ⟨rfl, rfl, rfl, rfl⟩ := hd
  obtain ⟨_, qq, ys, T, d1, d2, d3, d4, d5⟩ := h1
  obtain rfl : u1 = .slice (some ⟨r b, 0, none⟩) n qq := by simpa using d1
  obtain ⟨w1, w2⟩ := hM.blk b wb hwb
  obtain ⟨o1, o2, o3⟩ := cutI_repP hold w2
  rw [w1] at d2
  cases d2
  have hPO : PO w V.heap.size e z (some ⟨r b, 0, none⟩) n qq ((cm b).take (n * z)) := by
   refine ⟨by rw [List.length_take]; omega, .inr ⟨r b, (cm b).toArray, rfl, hM.lo b wb hwb, by rw [w1, c3], d4, d5, d3.symm, rfl, by simpa using w2.nd⟩⟩
  obtain ⟨g, c2, cs, W', s1, s2, s3, s4, s5⟩ := step (some ⟨r b, 0, none⟩) n qq old _ (s.m.set b none) hPO o1 c2 hM.drop (List.length_set ..) (fun b2 x hb2 h => by
   rw [mb_at, List.getElem?_set] at hb2
   split at hb2
   ·first | (cases hb2; done) | (split at hb2 <;> cases hb2)
   ·rename_i hne
    simp only [blkO, Option.map_some, Option.some.injEq] at h
    exact hne (hM.inj b2 b x wb (mb_at.2 hb2) hwb h).symm) (fun g h => by simp only [blkO, Option.map_some, Option.some.injEq] at h; rw [<- h]; exact hM.lo b wb hwb)
  refine ⟨rfl, rfl, rfl, rfl, n + m, z, _, s.m.set b none, rfl, rfl, List.length_set .., fun b2 x hb2 => ?_, fun b2 hb2 => ?_, g, c2, cs, W', s1, s2, s3, s4, s5⟩
  ·rw [mb_at, List.getElem?_set] at hb2
   split at hb2
   ·first | (cases hb2; done) | (split at hb2 <;> cases hb2)
   ·exact mb_at.2 hb2
  ·rw [List.getElem?_set, if_neg (fun e => hb2 (by simp [e]))]
 ·cases hd
theorem D_ap0 {t : TypeId} {x : It} {u : Value} (h1 : ∃ W, RepI V W r k x [u]) (hd : aAp0 P t x = some v) (ty : TypeId) : v = on1 x /\ ∀ w, (Builtin.append_ #[t, t] ty #[u, .slice none 0 0]).run P w = .ok u w := by
 obtain ⟨W, h1⟩ := h1
 unfold aAp0 at hd
 split at hd <;> (try (cases hd; done))
 rename_i e hu
 split at hd
 ·rename_i i b n z hi
  split at hd <;> cases hd
  obtain ⟨_, c, xs, T, k1, k2, k3, k4, k5⟩ := h1
  obtain rfl : u = _ := by simpa using k1
  exact ⟨rfl, fun w => by simp [Builtin.append_, run_underlying hu, sizeOf, typeInfo, hi, Builtin.lenOf, k4, Builtin.firstCells, loadCells, loadCellsFrom, storeCells]⟩
 ·rename_i i hi
  cases hd
  obtain rfl : u = _ := by simpa using h1.1
  exact ⟨rfl, fun w => by simp [Builtin.append_, run_underlying hu, sizeOf, typeInfo, hi, Builtin.lenOf, Builtin.firstCells, loadCells, loadCellsFrom, storeCells]⟩
 ·cases hd
end
end Go.Proofs.YtceemiodpccbhaaGreat

namespace Go.Proofs.YtceemiodpccbhaaGreat
open Go.RowKit
section
variable {P : Program} {V : World} {r r' : Nat -> Nat} {k k' : Nat} {s s1 : St} {a : Act} {S : World -> Prop} {o : Oper} {w : World} {cm cm' : Nat -> List Value} {E : Env} {call : CallF} {q q' q1 : List Bool} {v : AV} {ob : Ob} {ops : Array Oper}
def EffOk (P : Program) (f : FuncId) (g : EffF) : Prop :=
 ∀ L k args res k' ps, g L k args = some (res, k', ps) -> All ps -> ∀ (W : World) (B : Nat) (v : Value) (d : List Value) (T : TypeId) (vals : List Value), W.heap[B]? = some (.cells (v :: .int .i64 (k : Nat) :: d).toArray T) -> IntsC W L v -> (∀ a len c, v = .slice a len c -> 0 < len -> ∀ x, a = some x -> x.block ≠ B) -> k <= L.length ->
  RepVs W W (fun _ => 0) 0 args vals -> Calls P f (Value.pointer (some ⟨B, 0, none⟩) :: vals).toArray W fun e w' => ∃ x, e = .returned x /\ RepV w' w' (fun _ => 0) 0 res x /\ w'.heap[B]? = some (.cells (v :: .int .i64 (k' : Nat) :: d).toArray T) /\ k' <= L.length /\ Past B W w'
def MtOk (P : Program) (T : TypeId) (name : String) (n : Int) (wd : Nat) : Prop := I64 n /\ ∀ (o : Oper) (c : Call) (x : Operand) (l : List (Int × Nat)) (a : Act) (w : World), o.op = .call c -> c.callee = .invoke x name -> c.args.size = 0 -> FcC T l (a.eval x) -> l.length = wd -> Gives P o a w fun v w' => v = .int .i64 n /\ Ext w w'
structure Sound (P : Program) (E : Env) (call : CallF) : Prop where
 nm : ∀ (f : FuncId) (fn : Func), P.funcs[f]? = some fn -> (fn.name == "runtime.NumGoroutine") = false
 eq : ∀ t n, E.eq.lookup t = some n -> EqOk P t n
 eff : ∀ f g, E.eff.lookup f = some g -> EffOk P f g
 mt : ∀ T name n wd, E.mt.lookup (T, name) = some (n, wd) -> MtOk P T name n wd
 wr : ∀ f, E.wr.contains f = true -> WrapOk P f
 ok : ∀ f args q res ps q', call f args q = some (res, ps, q') -> All ps -> FokB P f args res.1 res.2
theorem evFc {T : TypeId} {l : List (Int × Nat)} {x : Operand} (hT : RT V w r s.m.length s.t a) (hx : evI s x = some (.fc T l)) : FcC T l (a.eval x) := by
 obtain ⟨v, e, hv⟩ := evI_rep hT hx
 cases e
 exact hv
theorem gives_val {W : World} {x : Value} {R : Value -> World -> Prop} (h : (execOp a.eval o).run P w = .ok (.value x) W) (hR : R x W) : Gives P o a w R := by unfold Gives; rw [h]; exact hR
theorem gives_skip {W : World} {R : Value -> World -> Prop} (h : (execOp a.eval o).run P w = .ok .skip W) (hR : R undef W) : Gives P o a w R := by unfold Gives; rw [h]; exact hR
theorem J.ht (h : J V r cm s a w) : HT V r s.m.length s a (fun W => W = w) := ⟨⟨w, rfl⟩, fun W e => e ▸ h.2⟩
theorem exec_val {m : Sem Value} {x : Value} (he : execOp a.eval o = do pure (.value (<- m))) {W : World} (h : m.run P w = .ok x W) : (execOp a.eval o).run P w = .ok (.value x) W := by
 rw [he, Sem.run_bind, h]; rfl
theorem below_alloc (w : World) (obj : Obj) : Ext w (w.alloc obj) := below_push w obj
theorem D_store {t : TypeId} {x y : Operand} {b j n : Nat} {u : V1} {m : Mb} {c : List It} (ho : o.op = .store t x y) (hx : evI s x = some (.p b j)) (hy : evV s y = some u) (hn : szT P t = some n) (hb : mb s.m b = some m) (hc : putI m.l j n u.l = some c) (hl : ((u.l.map It.n).sum == n) = true) (hT : RT V w r s.m.length s.t a) (hM : RM V r cm s.m w) :
  ∃ cs W', (execOp a.eval o).run P w = .ok .skip W' /\ OnlyB (r b) w W' /\ RM V r (upM cm b cs) (s.m.set b (some ⟨m.T, c⟩)) W' /\ RT V W' r s.m.length s.t a := by
 obtain ⟨vs, e1, e2, e3⟩ := evV_rep hT hy
 obtain ⟨l1, l2⟩ := e1.cells
 have hvn : vs.length = n := by rw [l1]; simpa using hl
 obtain ⟨hg, hr⟩ := hM.blk b m hb
 obtain ⟨k1, k2⟩ := putI_repP hc hr e1 hvn
 have hp := evI_rep hT hx
 have hp2 : a.eval x = .pointer (some ⟨r b, j, none⟩) := by simpa using hp.2
 obtain ⟨o1, o2⟩ := onlyB_setRow (cs' := (((cm b).take j ++ (vs ++ (cm b).drop (j + vs.length))).toArray)) hg
 have hlen : ((cm b).take j ++ (vs ++ (cm b).drop (j + vs.length))).length = (cm b).length := by simp; omega
 refine ⟨_, _, ?_, o1, hM.set hb k1 o1 o2 hlen, hT.keep hg hr.nd o1 o2 hlen⟩
 have := run_storeA (P := P) (w := w) (x := a.eval y) hg (by rw [e2]; exact cellsV_cells e3 (fun v hv => (l2 v hv).2)) hn hvn k2 (fun v hv => (l2 v hv).2)
 unfold execOp
 simp only [ho, hp2, Sem.run_bind, this, Result.andThen_ok, Sem.run_pure]
theorem run_callF {f : FuncId} {fn : Func} {c : Code} (hN : ∀ (f : FuncId) (fn : Func), P.funcs[f]? = some fn -> (fn.name == "runtime.NumGoroutine") = false) (hf : P.funcs[f]? = some fn) (hb : fn.body = some c) (args : Array Value) (w : World) : (callFunc f args).run P w = .ok (.enter f args) w := by
 have h1 : fn.name ≠ "runtime.NumGoroutine" := by simpa using hN f fn hf
 simp only [callFunc, program, Sem.run_bind, Sem.run_pure, Result.andThen_ok, Sem.run, hf]
 simp [h1, hb]
theorem up_i {w0 : World} {i : It} {cs : List Value} (hx : Ext w w0) (h : RepI w w (fun _ => 0) 0 i cs) : RepI w0 w0 (fun _ => 0) 0 i cs := by
 cases i with
 | d D => exact Dat.ext hx h
 | o D => exact Dat.ext hx h
 | sl b n z => exact absurd h.1 (Nat.not_lt_zero _)
 | fp l => obtain ⟨g, o, xs, T, e, h1, h2, c, d, h3, h4⟩ := h; exact ⟨g, o, xs, T, e, heap_ext h1 hx, h2, c, d, h3, h4.ext hx⟩
 | fs o l n z => obtain ⟨g, q, xs, T, e, h1, h2, h3, h4, c, d, h5, h6, h7⟩ := h; exact ⟨g, q, xs, T, e, heap_ext h1 hx, h2, h3, h4, c, d, h5, h6.ext hx, h7⟩
 | ds L => obtain ⟨v, e, h1⟩ := h; exact ⟨v, e, h1.ext hx⟩
 | ro z n f => obtain ⟨v, e, h1⟩ := h; exact ⟨v, e, h1.imp hx fun _ _ h => h.ext hx⟩
 | dr L k => obtain ⟨v, e, h1, h2⟩ := h; exact ⟨v, e, h1.ext hx, h2⟩
 | _ => exact h
theorem up_l {w0 : World} (hx : Ext w w0) : ∀ {l : List It} {cs : List Value}, RepL w w (fun _ => 0) 0 l cs -> RepL w0 w0 (fun _ => 0) 0 l cs
 | [], _, e => e
 | _ :: _, _, ⟨c, d, e, h1, h2⟩ => ⟨c, d, e, up_i hx h1, up_l hx h2⟩
theorem up_vs {w0 : World} (hx : Ext w w0) : ∀ {l : List V1} {xs : List Value}, RepVs w w (fun _ => 0) 0 l xs -> RepVs w0 w0 (fun _ => 0) 0 l xs
 | [], _, e => e
 | _ :: _, _, ⟨x, ys, e, ⟨cs, h1, h2⟩, h4⟩ => ⟨x, ys, e, ⟨cs, up_l hx h1, h2⟩, up_vs hx h4⟩
theorem wrA_cases (E : Env) (f : FuncId) (cap : List (Nat × Nat)) (l : List V1) : wrA E f cap l = (false, f, l ++ cap.map fun p => ⟨false, [.p p.1 p.2]⟩) \/
  ∃ g c, l = [⟨false, [.fn g c]⟩] /\ (E.wr.contains f = true /\ cap = []) /\ wrA E f cap l = (true, g, c.map fun p => ⟨false, [.p p.1 p.2]⟩) := by
 unfold wrA
 split
 ·split
  ·rename_i h
   simp only [Bool.and_eq_true, List.isEmpty_iff] at h
   exact .inr ⟨_, _, rfl, h, rfl⟩
  ·exact .inl rfl
 ·exact .inl rfl
theorem D_call {c : Call} {x : Operand} {f : FuncId} {cap : List (Nat × Nat)} {l l' : List V1} {res : AV × List Mb} {ps : List Prop} {cb : Code} (hs : Sound P E call) (ho : o.op = .call c) (hc : c.callee = .value x) (hfn : fnA s x = some (f, cap)) (hl : evVs s c.args.toList = some l) (hb : (P.funcs[f]?).bind (·.body) = some cb)
  (hn : argVs s.m (wrA E f cap l).2.2 = some l') (hq : call (wrA E f cap l).2.1 l' q = some (res, ps, q')) (hw : (!(wrA E f cap l).1 || wrB res && ((P.funcs[(wrA E f cap l).2.1]?).bind (·.body)).isSome) = true) (hp : All ps) (hM : RM V r cm s.m w) (hT : RT V w r s.m.length s.t a) : Gives P o a w fun x w' => ∃ r2 cm2, RM w r2 cm2 (res.2.map some) w' /\ RepA w' w' r2 res.2.length res.1 x := by
 obtain ⟨fn, h1, h2⟩ := call_body hb
 have hr := evVs_rep hT hl
 obtain ⟨h3, h4⟩ := fnA_rep hT hfn
 have plain : ∀ {l' : List V1}, argVs s.m (l ++ cap.map fun p => ⟨false, [.p p.1 p.2]⟩) = some l' -> call f l' q = some (res, ps, q') -> Gives P o a w fun x w' => ∃ r2 cm2, RM w r2 cm2 (res.2.map some) w' /\ RepA w' w' r2 res.2.length res.1 x := fun hn hq => by
  refine gives_enter (run_enter hs.nm h1 h2 ho hc h4 w) ?_
  have := hs.ok f _ q res ps q' hq hp w _ (argVs_rep hM hn (hr.app (caps_rep h3)))
  have e : c.args.map a.eval ++ (cap.map fun p => Value.pointer (some ⟨r p.1, p.2, none⟩)).toArray = (c.args.toList.map a.eval ++ cap.map fun p => Value.pointer (some ⟨r p.1, p.2, none⟩)).toArray := by
   apply Array.toList_inj.1; simp
  rw [e]
  exact this.mono fun e w' ⟨v, r, cm, h1, h2, h3⟩ => ⟨v, h1, r, cm, h2, h3⟩
 rcases wrA_cases E f cap l with h | ⟨g, cc, rfl, ⟨hwf, rfl⟩, h⟩
 ·rw [h] at hn hq
  exact plain hn hq
 ·rw [h] at hn hq hw
  simp only [Bool.not_true, Bool.false_or, Bool.and_eq_true] at hw hn hq
  obtain ⟨hwB, hgb⟩ := hw
  obtain ⟨cg, hcg⟩ := Option.isSome_iff_exists.1 hgb
  obtain ⟨gn, g1, g2⟩ := call_body hcg
  obtain ⟨x1, _, e1, p1, p2⟩ := hr
  cases p2
  obtain ⟨p3, p4⟩ := p1.scal
  obtain rfl : x1 = _ := by simpa using p4
  obtain ⟨res1, res2⟩ := res
  unfold wrB at hwB
  split at hwB <;> (try (cases hwB; done))
  rename_i z B hz1 hz2
  simp only at hz1 hz2
  subst hz1 hz2
  have hv := argVs_rep hM hn (caps_rep p3)
  refine gives_enter (run_enter hs.nm h1 h2 ho hc h4 w) ?_
  have e : c.args.map a.eval ++ (([] : List (Nat × Nat)).map fun p => Value.pointer (some ⟨r p.1, p.2, none⟩)).toArray = #[.func (.func g) #[] (cc.map fun p => Value.pointer (some ⟨r p.1, p.2, none⟩)).toArray] := by
   apply Array.toList_inj.1
   simp only [List.map_nil, Array.append_empty, Array.toList_map, e1]
  rw [e]
  refine (hs.wr f hwf g _ z (z.natAbs <= B /\ I64 z) w (run_callF hs.nm g1 g2 _) fun w0 hx => ?_).mono fun e w' ⟨⟨e1, hz⟩, hx⟩ => ⟨_, e1, fun _ => 0, fun _ => [], RM.nil hx, RepI.val (i := .i z B) ⟨rfl, hz⟩⟩
  refine (hs.ok g _ q _ ps q' hq hp w0 _ (up_vs hx hv)).mono fun e w' ⟨v, r3, cm3, k1, k2, k3⟩ => ?_
  obtain ⟨k4, k5⟩ := RepV.scal k3
  obtain rfl : v = .int .i64 z := by simpa using k4
  exact ⟨⟨k1, k5⟩, k2.ext⟩
theorem nrm_i {W : World} {r : Nat -> Nat} {k : Nat} {i : It} {cs : List Value} (h1 : RepI W W r k i cs) : RepI W W r k (nrmI i) cs := by
 cases i with
 | k n => exact ⟨h1.1, Nat.le_refl _, h1.2⟩
 | b k => exact ⟨h1, rfl⟩
 | _ => exact h1
theorem nrm_l {W : World} {r : Nat -> Nat} {k : Nat} : ∀ {l : List It} {cs : List Value}, RepL W W r k l cs -> RepL W W r k (nrmL l) cs
 | [], _, e => e
 | i :: l, _, ⟨c, d, e, h1, h2⟩ => by
  unfold nrmL
  split
  ·obtain ⟨c2, d2, e2, h3, h4⟩ := h2
   subst e2 e
   cases h1
   rw [h3.1]
   exact ⟨[_, _], d2, rfl, ⟨_, _, _, _, rfl, ⟨rfl, rfl, Row.nil _⟩⟩, nrm_l h4⟩
  ·exact ⟨c, d, e, nrm_i h1, nrm_l h2⟩
theorem nrm_vs {W : World} {r : Nat -> Nat} {k : Nat} : ∀ {l : List V1} {xs : List Value}, RepVs W W r k l xs -> RepVs W W r k (l.map nrmV) xs
 | [], _, e => e
 | _ :: _, _, ⟨x, ys, e, ⟨cs, h1, h2, h3⟩, h4⟩ => ⟨x, ys, e, ⟨cs, nrm_l h1, h2, h3⟩, nrm_vs h4⟩
theorem rk0_v {VA VB W : World} {v : V1} {x : Value} (hl : v.l.all (It.rk 0) = true) : RepV VA W r k v x -> RepV VB W r' k' v x
 | ⟨cs, h1, h2⟩ => ⟨cs, rk0_l hl h1, h2⟩
theorem rk0_vs {VA VB W : World} : ∀ {l : List V1} {xs : List Value}, (l.all fun v => v.l.all (It.rk 0)) = true -> RepVs VA W r k l xs -> RepVs VB W r' k' l xs
 | [], _, _, e => e
 | v :: l, _, hl, ⟨x, ys, e, h1, h4⟩ => by
  simp only [List.all_cons, Bool.and_eq_true] at hl
  exact ⟨x, ys, e, rk0_v hl.1 h1, rk0_vs hl.2 h4⟩
theorem drA_rep {l : List It} {L : List Int} {n : Nat} {cs : List Value} (h : drA l = some (L, n)) (hr : RepP V w r k l cs) : ∃ v d, cs = v :: .int .i64 (n : Nat) :: d /\ IntsC V L v /\ n <= L.length /\ ∀ u ∈ d, nd u := by
 obtain ⟨c, d, e, h1, h2⟩ := hr
 unfold drA at h
 split at h
 ·split at h <;> cases h
  rename_i h0
  subst h0
  obtain ⟨_, _, e1, ⟨v, e2, h3⟩, _, _, e3, h4, h5⟩ := h1
  cases h5
  have e4 := h4.1
  subst e e1 e2 e3 e4
  exact ⟨v, d, rfl, h3, Nat.zero_le _, h2⟩
 ·cases h
  obtain ⟨_, _, e1, ⟨v, e2, h3, h4⟩, h5⟩ := h1
  cases h5
  subst e e1 e2
  exact ⟨v, d, rfl, h3, h4, h2⟩
 ·cases h
theorem D_eff {g : EffF} {c : Call} {x : Operand} {f : FuncId} {cap : List (Nat × Nat)} {l : List V1} {s1 : St} (hN : ∀ (f : FuncId) (fn : Func), P.funcs[f]? = some fn -> (fn.name == "runtime.NumGoroutine") = false) (hs : EffOk P f g) (ho : o.op = .call c) (hc : c.callee = .value x) (hfn : fnA s x = some (f, cap)) (hl : evVs s c.args.toList = some l) (hb : (cap.isEmpty && ((P.funcs[f]?).bind (·.body)).isSome) = true)
  (hd : aEff s g l = some (v, s1, ob)) (hp : All ob.ps) : ∃ b m new n, ob.st = [b] /\ ob.ld = [] /\ s.al ≠ 2 /\ mb s.m b = some m /\ s1 = { s with m := s.m.set b (some ⟨m.T, new⟩) } /\
   ∀ w, RM V r cm s.m w -> RT V w r s.m.length s.t a -> Gives P o a w fun x w' => Keep (r b) w w' /\ RM V r (upM cm b ((cm b).set 1 n)) s1.m w' /\ RT V w' r s.m.length s.t a /\ RepA V w' r s.m.length v x := by
 simp only [Bool.and_eq_true, List.isEmpty_iff] at hb
 obtain ⟨rfl, hb2⟩ := hb
 obtain ⟨cb, hb3⟩ := Option.isSome_iff_exists.1 hb2
 obtain ⟨fn, k1, k2⟩ := call_body hb3
 unfold aEff at hd
 split at hd <;> (try (cases hd; done))
 rename_i b j l'
 split at hd <;> (try (cases hd; done))
 rename_i m hm
 split at hd <;> (try (cases hd; done))
 rename_i L n hdr
 split at hd <;> (try (cases hd; done))
 rename_i hcond
 split at hd <;> (try (cases hd; done))
 rename_i res n' ps hg
 split at hd <;> cases hd
 rename_i hres
 obtain ⟨⟨rfl, hal⟩, hl'⟩ := hcond
 refine ⟨b, m, _, .int .i64 (n' : Nat), rfl, rfl, hal, hm, rfl, fun w hM hT => ?_⟩
 obtain ⟨hg1, hr1⟩ := hM.blk b m hm
 obtain ⟨v0, d, e0, h0, hn, hnd⟩ := drA_rep hdr hr1
 have hr := evVs_rep hT hl
 obtain ⟨_, ys, e1, p1, p2⟩ := hr
 have p3 := p1.scal.2
 have h4 := (fnA_rep hT hfn).2
 refine gives_enter (run_enter hN k1 k2 ho hc h4 w) ?_
 have e2 : c.args.map a.eval ++ (([] : List (Nat × Nat)).map fun p => Value.pointer (some ⟨r p.1, p.2, none⟩)).toArray = (Value.pointer (some ⟨r b, 0, none⟩) :: ys).toArray := by
  apply Array.toList_inj.1
  simp only [List.map_nil, Array.append_empty, Array.toList_map, e1]
  simpa using p3
 rw [e2]
 rw [e0] at hg1
 refine (hs L n _ res n' ps hg hp w (r b) v0 d m.T ys hg1 (h0.ext hM.ext) (fun a2 len c2 e3 h5 y e4 => ?_) hn (nrm_vs (rk0_vs hl' p2))).mono ?_
 ·obtain ⟨a3, l3, c3, e5, h6, _⟩ := h0
  rw [e3] at e5
  cases e5
  have h7 := h6.lt h5 y e4
  have h8 := hM.lo b m hm
  omega
 ·rintro e w' ⟨y, rfl, h5, h6, h7, h8⟩
  refine ⟨y, rfl, ⟨h8.size, h8.block⟩, ?_⟩
  have e5 : (cm b).set 1 (.int .i64 (n' : Nat)) = v0 :: .int .i64 (n' : Nat) :: d := by rw [e0]; rfl
  rw [e5]
  have hlen : (v0 :: Value.int .i64 (n' : Nat) :: d).length = (cm b).length := by rw [e0]; rfl
  have hg2 : w.heap[r b]? = some (.cells (cm b).toArray m.T) := by rw [e0]; exact hg1
  obtain ⟨o1, o2⟩ := onlyB_setRow (cs' := (v0 :: Value.int .i64 (n' : Nat) :: d).toArray) hg2
  have hx : Ext (w.setRow (r b) (v0 :: Value.int .i64 (n' : Nat) :: d).toArray) w' := by
   refine ⟨h8.os.trans o1.os.symm, h8.tape.trans o1.tape.symm, h8.output.trans o1.output.symm, by rw [o1.size]; exact h8.size, fun q hq => ?_⟩
   by_cases hqb : q = r b
   ·rw [hqb, h6, o2]
   ·rw [o1.block q hqb, h8.block q (by rw [o1.size] at hq; exact hq) hqb]
  refine ⟨(hM.set hm (l := [.dr L n']) ⟨[v0, .int .i64 (n' : Nat)], d, rfl, ⟨_, [], rfl, ⟨v0, rfl, h0, h7⟩, rfl⟩, hnd⟩ o1 o2 hlen).step hx, (hT.keep hg2 hr1.nd o1 o2 hlen).ext hx, ?_⟩
  exact rk0_v hres h5
theorem rk_l {W : World} {r2 : Nat -> Nat} {n k : Nat} : ∀ {l : List It} {cs : List Value}, l.all (It.rk n) = true -> RepL W W r2 n l cs -> RepL V W (mg r r2 k) (k + n) (l.map (shI k)) cs
 | [], _, _, e => e
 | i :: l, _, hl, ⟨c, d, e, h1, h2⟩ => by
  simp only [List.all_cons, Bool.and_eq_true] at hl
  refine ⟨c, d, e, ?_, rk_l hl.2 h2⟩
  cases i with
  | p b o => exact ⟨by have := h1.1; omega, by rw [h1.2, mg_hi]⟩
  | sl b m z =>
   obtain ⟨h0, q, xs, T, k1, k2, k3⟩ := h1
   exact ⟨by omega, q, xs, T, by rw [k1, mg_hi], by rw [mg_hi]; exact k2, k3⟩
  | _ => first | exact h1 | cases hl.1
theorem rk_v {W : World} {r2 : Nat -> Nat} {n k : Nat} {v : V1} {x : Value} (hl : v.l.all (It.rk n) = true) : RepV W W r2 n v x -> RepV V W (mg r r2 k) (k + n) (shV k v) x
 | ⟨cs, h1, h2⟩ => ⟨cs, rk_l hl h1, h2⟩
theorem rk_vs {W : World} {r2 : Nat -> Nat} {n k : Nat} : ∀ {l : List V1} {xs : List Value}, (∀ v ∈ l, v.l.all (It.rk n) = true) -> RepVs W W r2 n l xs -> RepVs V W (mg r r2 k) (k + n) (l.map (shV k)) xs
 | [], _, _, e => e
 | v :: l, _, hl, ⟨x, ys, e, h1, h4⟩ => ⟨x, ys, e, rk_v (hl v (List.mem_cons_self ..)) h1, rk_vs (fun u hu => hl u (List.mem_cons_of_mem _ hu)) h4⟩
theorem repA_back {res : AV} {x : Value} {W : World} {r2 : Nat -> Nat} {n k : Nat} (ho : resOk n res = true) (h : RepA W W r2 n res x) : RepA V W (mg r r2 k) (k + n) (shA k res) x := by
 cases res with
 | und => cases ho
 | any => cases ho
 | one v => exact rk_v ho h
 | tup l =>
  obtain ⟨xs, e, h⟩ := h
  exact ⟨xs, e, rk_vs (fun v hv => List.all_eq_true.1 ho v hv) h⟩
theorem run_app {c : Call} {x y : Operand} {u v : Value} {w W' : World} {t : TypeId} {z : Value} (ho : o.op = .call c) (hc : c.callee = .builtin .append) (ha : c.args.toList.map a.eval = [u, v]) (ht : c.argTypes.toList = [t, t]) (h : (Builtin.append_ #[t, t] o.type #[u, v]).run P w = .ok z W') :
  (execOp a.eval o).run P w = .ok (.value z) W' := by
 have e1 : c.args.map a.eval = #[u, v] := by apply Array.toList_inj.1; simpa using ha
 have e2 : c.argTypes = #[t, t] := by apply Array.toList_inj.1; simpa using ht
 unfold execOp
 simp only [ho, resolve, hc, Sem.run_bind, Sem.run_pure, Result.andThen_ok, invoke, builtin, e1, e2, h]
theorem aDo_seq (hs : Sound P E call) (hJ : J V r cm s a w) (hd : aDo P E call o s q = some (v, s1, ob, q1)) (hp : All ob.ps) :
  Gives P o a w fun x w' => ∃ r' cm', (RM V r' cm' s1.m w' /\ RT V w' r' s1.m.length s1.t a) /\ RepA V w' r' s1.m.length v x := by
 obtain ⟨⟨hM, hD⟩, hT⟩ := hJ
 by_cases hk : fkind o = 0
 ·obtain ⟨rfl, _, x, h1, h2⟩ := aDo_pure (r := r) (cm := cm) (F := fun W => W = w) (S := fun W => W = w) hs.eq (J.ht ⟨⟨hM, hD⟩, hT⟩) (fun b m hb W e => e ▸ (hM.blk b m hb).2) (fun W e => e ▸ hM.ext) hk hd hp (fun b m _ hb W e => e ▸ (hM.blk b m hb).1)
  exact gives_val (h1 w rfl) ⟨r, cm, ⟨hM, hT⟩, h2 w rfl⟩
 have lt : ∀ b x, mb s.m b = some x -> r b ≠ w.heap.size := fun b x hb e => by
  have := (Array.getElem?_eq_some_iff.1 (hM.blk b x hb).1).1
  omega
 unfold aDo at hd
 split at hd
 ·rename_i ho; simp [fkind, ho] at hk
 ·rename_i ho; simp [fkind, ho] at hk
 ·rename_i ho; simp [fkind, ho] at hk
 ·rename_i t ho
  split at hd
  ·cases hd
  cases hz : zeroT P t with
  | none => simp [hz] at hd
  | some z =>
   simp only [hz, Option.map_some, Option.some.injEq, Prod.mk.injEq] at hd
   obtain ⟨rfl, rfl, rfl, rfl⟩ := hd
   obtain ⟨i, zv, i1, i2, i3⟩ := zeroT_zero hz
   have hx := below_alloc w (.cells zv.cells t)
   refine gives_val (exec_val (by unfold execOp; rw [ho]) (run_allocA i1 i2 w)) ⟨_, _, ⟨(hM.step hx).new (g := w.heap.size) (c := zv.cells.toList) (heap_new (o := .cells zv.cells t) rfl) (toIts_rep i3).pre hM.ext.size lt, ?_⟩, ?_⟩
   ·rw [List.length_append]
    exact (hT.ext hx).grow (Nat.le_succ _) (fun b hb => up_old hb)
   ·rw [List.length_append]
    exact RepI.val (i := .p _ _) ⟨Nat.lt_succ_self _, by simp [up]⟩
 ·rename_i t x ho
  split at hd
  ·rename_i u n hu hn
   split at hd
   ·rename_i hl
    simp only [Option.some.injEq, Prod.mk.injEq] at hd
    obtain ⟨rfl, rfl, rfl, rfl⟩ := hd
    obtain ⟨vs, e1, e2, e3⟩ := evV_rep hT hu
    have hcells : (a.eval x).cells = vs.toArray := by rw [e2]; exact cellsV_cells e3 (fun v hv => (e1.cells.2 v hv).2)
    have hx := below_alloc w (.cells (a.eval x).cells t)
    refine gives_val (exec_val (by unfold execOp; rw [ho]) (run_boxA (a.eval x) w)) ⟨_, _, ⟨(hM.step hx).new (g := w.heap.size) (c := vs) (by rw [hcells]; exact heap_new rfl) (e1.imp (RepI.ext hx)).pre hM.ext.size lt, ?_⟩, ?_⟩
    ·rw [List.length_append]
     exact (hT.ext hx).grow (Nat.le_succ _) (fun b hb => up_old hb)
    ·rw [List.length_append]
     exact RepI.val (i := .p _ _) ⟨Nat.lt_succ_self _, by simp [up]⟩
   ·cases hd
  ·cases hd
 ·rename_i ho; simp [fkind, ho] at hk
 ·rename_i ho; simp [fkind, ho] at hk
 ·rename_i t x y ho
  split at hd
  ·rename_i b j u n hx hy hn
   split at hd
   ·rename_i m hb
    split at hd
    ·rename_i c hc
     split at hd
     ·rename_i hl
      simp only [Option.some.injEq, Prod.mk.injEq] at hd
      obtain ⟨rfl, rfl, rfl, rfl⟩ := hd
      obtain ⟨cs, W', h1, h2, h3, h4⟩ := D_store ho hx hy hn hb hc hl hT hM
      refine gives_skip h1 ⟨_, _, ⟨h3, ?_⟩, rfl⟩
      rw [List.length_set]
      exact h4
     ·cases hd
    ·cases hd
   ·cases hd
  ·cases hd
 ·rename_i ho; simp [fkind, ho] at hk
 ·rename_i ho; simp [fkind, ho] at hk
 ·rename_i ho; simp [fkind, ho] at hk
 ·rename_i ho; simp [fkind, ho] at hk
 ·rename_i ho; simp [fkind, ho] at hk
 ·rename_i ho; simp [fkind, ho] at hk
 ·rename_i ho; simp [fkind, ho] at hk
 ·rename_i ho; simp [fkind, ho] at hk
 ·rename_i ho; simp [fkind, ho] at hk
 ·
  rename_i t len ps ho
  split at hd
  ·rename_i e l hu hl
   split at hd
   ·rename_i z zs hz hzs
    split at hd
    ·rename_i hb
     cases hf : fills (fun i => some (i * z, z)) (List.replicate len zs).flatten l with
     | none => simp [hf] at hd
     | some c =>
      simp only [hf, Option.map_some, Option.some.injEq, Prod.mk.injEq] at hd
      obtain ⟨rfl, rfl, rfl, rfl⟩ := hd
      obtain ⟨cs, h1, h2, h3⟩ := D_build (J.ht ⟨⟨hM, hD⟩, hT⟩) ho hu hl hz hzs hb.2 hf
      have hx := below_alloc w (.cells cs.toArray e)
      refine gives_val (h1 w) ⟨_, _, ⟨(hM.step hx).new (g := w.heap.size) (c := cs) (heap_new rfl) ((h2 w rfl).imp (RepI.ext hx)).pre hM.ext.size lt, ?_⟩, ?_⟩
      ·rw [List.length_append]
       exact (hT.ext hx).grow (Nat.le_succ _) (fun b hb => up_old hb)
      ·rw [List.length_append]
       refine RepI.val (i := .sl _ _ _) ⟨Nat.lt_succ_self _, len, cs.toArray, e, by simp [up], by rw [up_at]; exact heap_new rfl, by simp [h3], Nat.le_refl _, by unfold maxLen; omega⟩
    ·cases hd
   ·cases hd
  ·cases hd
 ·rename_i c ho
  split at hd
  ·rename_i x hc
   replace hc := calleeF_l hc
   split at hd
   ·rename_i f cap l hfn hl
    split at hd
    ·rename_i g hg
     split at hd <;> (try (cases hd; done))
     rename_i hb
     cases hq : aEff s g l with
     | none => simp [hq] at hd
     | some z =>
      obtain ⟨z1, z2, z3⟩ := z
      simp only [hq, Option.map_some, Option.some.injEq, Prod.mk.injEq] at hd
      obtain ⟨rfl, rfl, rfl, rfl⟩ := hd
      obtain ⟨b, m, new, n, _, _, _, e1, rfl, h⟩ := D_eff (V := V) (r := r) (cm := cm) hs.nm (hs.eff f g hg) ho hc hfn hl hb hq hp
      refine (h w hM hT).imp fun x w' ⟨_, h1, h2, h3⟩ => ⟨_, _, ⟨h1, ?_⟩, ?_⟩
      ·simp only [List.length_set]
       exact h2
      ·simp only [List.length_set]
       exact h3
    split at hd
    ·rename_i cb l' hb hn
     split at hd
     ·rename_i z hq
      split at hd
      ·rename_i hrk
       simp only [Option.some.injEq, Prod.mk.injEq] at hd
       obtain ⟨rfl, rfl, rfl, rfl⟩ := hd
       rw [Bool.and_eq_true] at hrk
       obtain ⟨hwr, hrk⟩ := hrk
       simp only [Bool.and_eq_true] at hrk
       refine (D_call hs ho hc hfn hl hb hn hq hwr hp hM hT).imp fun x w' ⟨r2, cm2, h1, h2⟩ => ⟨_, _, ⟨hM.merge h1 hrk.2, ?_⟩, ?_⟩
       ·exact (hT.ext h1.ext).grow (by simp) (fun b hb => mg_lo hb)
       ·simp only [List.length_append, List.length_map]
        exact repA_back hrk.1 h2
      ·cases hd
     ·cases hd
    ·cases hd
   ·cases hd
  ·rename_i b hc
   replace hc := calleeF_r hc
   split at hd
   ·rename_i l hl
    split at hd
    ·split at hd
     ·rename_i t t' x b' m z' ht
      split at hd
      ·rename_i htt
       subst htt
       obtain ⟨y1, _, e1, g1, y2, _, e2, g2, e3⟩ := evVs_rep hT hl
       subst e2 e3
       obtain ⟨d1, d2, d3, d4, n, zz, y, m1, d5, d6, d7, d8, d9, g, cc, cs, W', d10, d11, d12, d13, d14⟩ := D_app hM g1.scal g2.scal hd o.type
       refine gives_val (run_app (x := .tmp 0) (y := .tmp 0) ho hc e1 ht d10) ⟨_, _, ⟨d12, ?_⟩, ?_⟩
       ·rw [d4]
        exact ⟨hT.1, fun i v hv => (hT.2 i v hv).imp d14⟩
       ·rw [d5]
        exact RepI.val d13
      ·cases hd
     ·rename_i t t' x ht
      split at hd
      ·rename_i htt
       subst htt
       cases hq : aAp0 P t x with
       | none => simp [hq] at hd
       | some u =>
        simp only [hq, Option.map_some, Option.some.injEq, Prod.mk.injEq] at hd
        obtain ⟨rfl, rfl, rfl, rfl⟩ := hd
        obtain ⟨y1, _, e1, g1, y2, _, e2, g2, e3⟩ := evVs_rep hT hl
        subst e2 e3
        obtain rfl : y2 = _ := by simpa using g2.scal.1
        obtain ⟨d1, d2⟩ := D_ap0 ⟨w, g1.scal⟩ hq o.type
        subst d1
        exact gives_val (run_app (x := .tmp 0) (y := .tmp 0) ho hc e1 ht (d2 w)) ⟨r, cm, ⟨hM, hT⟩, RepI.val g1.scal⟩
      ·cases hd
     ·cases hd
    ·rename_i hb
     cases hq : mms P b c.argTypes.toList l with
     | none => simp [hq] at hd
     | some z => exact absurd (mms_kind hq ho hc) hk
   ·cases hd
  ·split at hd
   ·rename_i x name hc
    split at hd
    ·rename_i T l hx ha
     split at hd
     ·rename_i n wd hq
      split at hd
      ·rename_i hw
       simp only [Option.some.injEq, Prod.mk.injEq] at hd
       obtain ⟨rfl, rfl, rfl, rfl⟩ := hd
       obtain ⟨i1, i2⟩ := hs.mt T name n wd hq
       exact (i2 o c x l a w ho hc ha (evFc hT hx) hw).imp fun v w' ⟨e, hx⟩ => ⟨r, cm, ⟨hM.step hx, hT.ext hx⟩, RepI.val (i := .k n) ⟨by rw [e], i1⟩⟩
      ·cases hd
     ·cases hd
    ·cases hd
   ·cases hd
 ·rename_i ho; simp [fkind, ho] at hk
 ·rename_i ho; simp [fkind, ho] at hk
 ·rename_i ho; simp [fkind, ho] at hk
 ·cases hd
end
end Go.Proofs.YtceemiodpccbhaaGreat
