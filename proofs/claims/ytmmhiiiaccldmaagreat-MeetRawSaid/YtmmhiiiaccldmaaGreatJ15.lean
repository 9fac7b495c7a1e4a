/- Contract: meet.lineArc. -/
import Derived.Test.YtmmhiiiaccldmaaGreatJ10
import Derived.Test.YtmmhiiiaccldmaaGreatJ14
import Derived.Great.BuildSlice
set_option linter.unusedVariables false
set_option linter.unusedSimpArgs false

namespace Go.Proofs.YtmmhiiiaccldmaaGreat
open Go.RowKit
attribute [local go_sem] Gives givesU

/-- Sizes in digits. -/
def Wd (k : Nat) (x : Int) : Prop := x.natAbs < 4294967296 ^ k
theorem Wd.mul {a b : Nat} {x y : Int} (hx : Wd a x) (hy : Wd b y) : Wd (a + b) (x * y) := by
  unfold Wd at *
  rw [Int.natAbs_mul, Nat.pow_add]
  rcases Nat.eq_zero_or_pos y.natAbs with h | h
  · rw [h, Nat.mul_zero]; exact Nat.mul_pos (Nat.pow_pos (by omega)) (Nat.pow_pos (by omega))
  · exact Nat.lt_of_lt_of_le (Nat.mul_lt_mul_of_pos_right hx h) (Nat.mul_le_mul_left _ (Nat.le_of_lt hy))
theorem Wd.sub {a : Nat} {x y : Int} (hx : Wd a x) (hy : Wd a y) : Wd (a + 1) (x - y) := by
  unfold Wd at *
  rw [Nat.pow_succ]
  omega
theorem Wd.mono {a b : Nat} {x : Int} (hx : Wd a x) (h : a ≤ b) : Wd b x := Nat.lt_of_lt_of_le hx (Nat.pow_le_pow_right (by omega) h)
theorem Wd.small {a : Nat} {x : Int} (hx : Wd a x) (h : a ≤ 64) : small x = true := small_of_lt hx h
theorem Wd.gd {a : Nat} {x : Int} (hx : Wd a x) (h : a ≤ 20) : Gd x := hx.mono h
theorem Wd.of64 {x : Int} (h : I64 x) : Wd 2 x := by unfold Wd I64 at *; omega

theorem fill1 (n1 n2 : Bool) (p1 p2 : Option Addr) (l1 c1 l2 c2 : Nat) : Instr.fill (fun i => some (i * 4, 4)) ((Array.range (1 * 4)).map ((.agg #[.bool false, .slice none 0 0, .bool false, .slice none 0 0] : Value).cells[· % (.agg #[.bool false, .slice none 0 0, .bool false, .slice none 0 0] : Value).cells.size]!)) [(0, .agg #[.bool n1, .slice p1 l1 c1, .bool n2, .slice p2 l2 c2])] = some #[.bool n1, .slice p1 l1 c1, .bool n2, .slice p2 l2 c2] := by kernel_rfl
theorem fill2 (n1 n2 m1 m2 : Bool) (p1 p2 q1 q2 : Option Addr) (l1 c1 l2 c2 k1 d1 k2 d2 : Nat) : Instr.fill (fun i => some (i * 4, 4)) ((Array.range (2 * 4)).map ((.agg #[.bool false, .slice none 0 0, .bool false, .slice none 0 0] : Value).cells[· % (.agg #[.bool false, .slice none 0 0, .bool false, .slice none 0 0] : Value).cells.size]!)) [(0, .agg #[.bool n1, .slice p1 l1 c1, .bool n2, .slice p2 l2 c2]), (1, .agg #[.bool m1, .slice q1 k1 d1, .bool m2, .slice q2 k2 d2])] = some #[.bool n1, .slice p1 l1 c1, .bool n2, .slice p2 l2 c2, .bool m1, .slice q1 k1 d1, .bool m2, .slice q2 k2 d2] := by kernel_rfl
/-- The operation of a slice literal. -/
theorem F_lit {P : Program} {ops : Array Oper} {S : World → Prop} {Q : Act → World → Prop} {o : Oper} {l : List Oper} {a : Act} {own : List Nat} {F : World → Prop} (k : Nat) (obj : Obj) (T : Nat → World → Prop) (hk : fkind o = 1) (hw : Region.wanted o (yielded ops a.tmps) = true) (hp : ∀ g, shp o g = .slice (some ⟨g, 0, none⟩) k k)
    (hr : ∀ w, S w → (execOp a.eval o).run P w = .ok (.value (.slice (some ⟨w.heap.size, 0, none⟩) k k)) (w.alloc obj)) (hT : ∀ g w, g ∉ own → F w → w.heap[g]? = some obj → T g w)
    (h : ∀ g, (∃ w, F w) → WpF P ops S Q l (a.put o.dst (.slice (some ⟨g, 0, none⟩) k k)) own (fun w => F w ∧ T g w)) : WpF P ops S Q (o :: l) a own F :=
  .flo hk hw obj (fun w hs => by rw [hp]; exact hr w hs) fun g hg hs => by rw [hp]; exact (h g (by obtain ⟨w, h, _⟩ := hs; exact ⟨w, h⟩)).weak (fun w h => ⟨h.1, hT g w hg h.1 h.2⟩) (fun x hx => List.mem_cons_of_mem _ hx)
/-- A number does not lie in a block that holds no digits. -/
theorem NR.off {w : World} {n : Bool} {p : Option Addr} {l c : Nat} {x : Nm} (h : NR w n p l c x) {g : Nat} {cs : Array Value} {T : TypeId} (hb : w.heap[g]? = some (.cells cs T)) (h0 : ∀ v ∈ cs.toList, ∀ z, v ≠ .int .u32 z) : NRG w (some g) n p l c x := by
  refine ⟨h, fun k0 a ha e => ?_⟩
  obtain ⟨B, o, rfl, hlt, hc⟩ := h.2.2.at k0
  cases ha
  simp only [Option.some.injEq] at e
  subst e
  have := hc 0 k0
  rw [cell_of_row _ _ _ _ _ _ hb] at this
  exact h0 _ (by simpa using Array.mem_of_getElem? this) _ rfl
/-- A slice literal of sums. -/
theorem F_buildS1 {ops : Array Oper} {S : World → Prop} {Q : Act → World → Prop} {o : Oper} {l : List Oper} {a : Act} {own : List Nat} {F : World → Prop} (x : Operand)
    (ho : o.op = .buildSlice 89 1 #[(0, x)]) (hk : fkind o = 1) (hw : Region.wanted o (yielded ops a.tmps) = true)
    (n1 n2 : Bool) (p1 p2 : Option Addr) (l1 c1 l2 c2 : Nat) (hx : a.eval x = .agg #[.bool n1, .slice p1 l1 c1, .bool n2, .slice p2 l2 c2])
    (h : ∀ g, (∃ w, F w) → WpF Tryz.prog ops S Q l (a.put o.dst (.slice (some ⟨g, 0, none⟩) 1 1)) own (fun w => F w ∧ w.heap[g]? = some (.cells #[.bool n1, .slice p1 l1 c1, .bool n2, .slice p2 l2 c2] 88))) : WpF Tryz.prog ops S Q (o :: l) a own F := by
  obtain ⟨i, hi, hz0, hz1, hz2⟩ := info_parts infoSurd
  refine F_lit 1 (.cells #[.bool n1, .slice p1 l1 c1, .bool n2, .slice p2 l2 c2] 88) (fun g w => w.heap[g]? = some (.cells #[.bool n1, .slice p1 l1 c1, .bool n2, .slice p2 l2 c2] 88)) hk hw (fun g => by simp [shp, ho]) (fun w _ => ?_) (fun _ _ _ _ h => h) h
  unfold execOp
  simp only [ho, Sem.run_bind]
  rw [run_buildSlice w 89 88 1 _ i _ (by kernel_rfl) hi hz0 (by rw [hz1]; omega) (by rw [hz1]; omega) (cells := #[.bool n1, .slice p1 l1 c1, .bool n2, .slice p2 l2 c2]) (by rw [hz1]; simp only [List.map_toArray, List.map_cons, List.map_nil, hx]; exact fill1 _ _ _ _ _ _ _ _)]
  rfl
/-- A slice literal of two sums, the function's own. -/
theorem F_buildO {ops : Array Oper} {S : World → Prop} {Q : Act → World → Prop} {o : Oper} {l : List Oper} {a : Act} {own : List Nat} {F : World → Prop} (x y : Operand)
    (ho : o.op = .buildSlice 89 2 #[(0, x), (1, y)]) (hk : fkind o = 1) (hw : Region.wanted o (yielded ops a.tmps) = true)
    (n1 n2 m1 m2 : Bool) (p1 p2 q1 q2 : Option Addr) (l1 c1 l2 c2 k1 d1 k2 d2 : Nat) (hx : a.eval x = .agg #[.bool n1, .slice p1 l1 c1, .bool n2, .slice p2 l2 c2]) (hy : a.eval y = .agg #[.bool m1, .slice q1 k1 d1, .bool m2, .slice q2 k2 d2])
    (B : Nat) (x1 y1 x2 y2 : Int) (hB : ∀ g, g ∉ own → B ≤ g) (hF : ∀ w, F w → NR w n1 p1 l1 c1 (ofZ x1) ∧ NR w n2 p2 l2 c2 (ofZ y1) ∧ NR w m1 q1 k1 d1 (ofZ x2) ∧ NR w m2 q2 k2 d2 (ofZ y2))
    (h : ∀ g, WpF Tryz.prog ops S Q l (a.put o.dst (.slice (some ⟨g, 0, none⟩) 2 2)) own (fun w => F w ∧ OwnS w B (some ⟨g, 0, none⟩) 2 2 [(x1, y1), (x2, y2)])) : WpF Tryz.prog ops S Q (o :: l) a own F := by
  obtain ⟨i, hi, hz0, hz1, hz2⟩ := info_parts infoSurd
  refine F_lit 2 (.cells #[.bool n1, .slice p1 l1 c1, .bool n2, .slice p2 l2 c2, .bool m1, .slice q1 k1 d1, .bool m2, .slice q2 k2 d2] 88) (fun g w => OwnS w B (some ⟨g, 0, none⟩) 2 2 [(x1, y1), (x2, y2)]) hk hw (fun g => by simp [shp, ho]) (fun w _ => ?_) (fun g w hg hf hb => ?_) (fun g _ => h g)
  · unfold execOp
    simp only [ho, Sem.run_bind]
    rw [run_buildSlice w 89 88 2 _ i _ (by kernel_rfl) hi hz0 (by rw [hz1]; omega) (by rw [hz1]; omega) (cells := #[.bool n1, .slice p1 l1 c1, .bool n2, .slice p2 l2 c2, .bool m1, .slice q1 k1 d1, .bool m2, .slice q2 k2 d2]) (by rw [hz1]; simp only [List.map_toArray, List.map_cons, List.map_nil, hx, hy]; exact fill2 _ _ _ _ _ _ _ _ _ _ _ _ _ _ _ _)]
    rfl
  · obtain ⟨h1, h2, h3, h4⟩ := hF w hf
    have h0 : ∀ v ∈ (#[.bool n1, .slice p1 l1 c1, .bool n2, .slice p2 l2 c2, .bool m1, .slice q1 k1 d1, .bool m2, .slice q2 k2 d2] : Array Value).toList, ∀ z, v ≠ .int .u32 z := by intro v hv z e; subst e; simp at hv
    refine ⟨rfl, _, ⟨rfl, .inr ⟨g, 2, _, rfl, hB g hg, hb, Nat.le_refl _, by unfold maxLen; omega, rfl, rfl⟩⟩, ?_⟩
    exact ⟨n1, p1, l1, c1, n2, p2, l2, c2, _, rfl, h1.off hb h0, h2.off hb h0, m1, q1, k1, d1, m2, q2, k2, d2, _, rfl, h3.off hb h0, h4.off hb h0, rfl⟩
theorem ext_grown {V W W' : World} {G : Option Nat} (h : Ext V W) (hg : W.grownBy W' G) (hG : ∀ g, G = some g → V.heap.size ≤ g) : Ext V W' :=
  ⟨hg.os.trans h.os, hg.tape.trans h.tape, hg.output.trans h.output, Nat.le_trans h.size hg.size, fun k hk => (hg.block k (Nat.lt_of_lt_of_le hk h.size) (fun e => by have := hG k e.symm; omega)).trans (h.block k hk)⟩

theorem ix0 (ux uy vx vy : Int) (w : World) : (Instr.index 60 (.agg #[.int .i64 ux, .int .i64 uy, .int .i64 vx, .int .i64 vy]) (.int .i64 0)).run Tryz.prog w = .ok (.agg #[.int .i64 ux, .int .i64 uy]) w := by kernel_rfl
theorem ix1 (ux uy vx vy : Int) (w : World) : (Instr.index 60 (.agg #[.int .i64 ux, .int .i64 uy, .int .i64 vx, .int .i64 vy]) (.int .i64 1)).run Tryz.prog w = .ok (.agg #[.int .i64 vx, .int .i64 vy]) w := by kernel_rfl

/-- The numbers of lineArc: d = q - p, f = p - c. -/
structure LA where
  (S h F r : Int)
  (u1 u2 v1 v2 : Int)
def LA.delta (a : LA) : Int := a.h * a.h - a.S * (a.F - a.r * a.r)
def LA.list (a : LA) : List (Int × Int) := [(0 - a.h, 1), (a.S - (0 - a.h), -1), (a.S * a.u1 - a.h * a.u2, a.u2), (a.S * a.v1 - a.h * a.v2, a.v2)]

set_option maxRecDepth 100000 in
set_option maxHeartbeats 8000000 in
theorem meet_lineArc (px py qx qy cx cy r ux uy vx vy : Int) (w : World) (h1 : Co px) (h2 : Co py) (h3 : Co qx) (h4 : Co qy) (h5 : Co cx) (h6 : Co cy) (hr : Di r) (hux : Di ux) (huy : Di uy) (hvx : Di vx) (hvy : Di vy) (N : LA)
    (hS : (qx - px) * (qx - px) + (qy - py) * (qy - py) = N.S) (hh : (px - cx) * (qx - px) + (py - cy) * (qy - py) = N.h) (hF : (px - cx) * (px - cx) + (py - cy) * (py - cy) = N.F) (hR : r = N.r)
    (hu1 : (px - cx) * ux + (py - cy) * uy = N.u1) (hu2 : (qx - px) * ux + (qy - py) * uy = N.u2) (hv1 : (px - cx) * vx + (py - cy) * vy = N.v1) (hv2 : (qx - px) * vx + (qy - py) * vy = N.v2) :
    Calls Tryz.prog 21 #[.agg #[.int .i64 px, .int .i64 py, .int .i64 qx, .int .i64 qy], .agg #[.int .i64 cx, .int .i64 cy, .int .i64 r, .int .i64 ux, .int .i64 uy, .int .i64 vx, .int .i64 vy]] w fun e w' => e = .returned (.int .i64 (countZ N.delta N.list)) ∧ Ext w w' := by
  have SF := Lib.hid (fun w => vec_Sub px py cx cy w (h1.sub h5).i64 (h2.sub h6).i64)
  have SD := Lib.hid (fun w => vec_Sub qx qy px py w (h3.sub h1).i64 (h4.sub h2).i64)
  have dx := h3.sub h1
  have dy := h4.sub h2
  have fx := h1.sub h5
  have fy := h2.sub h6
  have DD := fun w => vec_Dot (qx - px) (qy - py) (qx - px) (qy - py) w (dx.mul64 dx) (dy.mul64 dy) (dx.dot dx dy dy)
  have DH := fun w => vec_Dot (px - cx) (py - cy) (qx - px) (qy - py) w (fx.mul64 dx) (fy.mul64 dy) (fx.dot dx fy dy)
  have DF := fun w => vec_Dot (px - cx) (py - cy) (px - cx) (py - cy) w (fx.mul64 fx) (fy.mul64 fy) (fx.dot fx fy fy)
  have Cu1 := fun w => vec_Dot (px - cx) (py - cy) ux uy w (fx.mul64 hux) (fy.mul64 huy) (fx.dot hux fy huy)
  have Cu2 := fun w => vec_Dot (qx - px) (qy - py) ux uy w (dx.mul64 hux) (dy.mul64 huy) (dx.dot hux dy huy)
  have Cv1 := fun w => vec_Dot (px - cx) (py - cy) vx vy w (fx.mul64 hvx) (fy.mul64 hvy) (fx.dot hvx fy hvy)
  have Cv2 := fun w => vec_Dot (qx - px) (qy - py) vx vy w (dx.mul64 hvx) (dy.mul64 hvy) (dx.dot hvx dy hvy)
  have iS := dx.dot dx dy dy
  have ih := fx.dot dx fy dy
  have iF := fx.dot fx fy fy
  have iu1 := fx.dot hux fy huy
  have iu2 := dx.dot hux dy huy
  have iv1 := fx.dot hvx fy hvy
  have iv2 := dx.dot hvx dy hvy
  have ir := hr.i64
  subst hR
  obtain ⟨S, h, F, r, u1, u2, v1, v2⟩ := N
  simp only at hS hh hF hu1 hu2 hv1 hv2 SF SD ir ⊢
  rw [hS] at DD iS
  rw [hh] at DH ih
  rw [hF] at DF iF
  rw [hu1] at Cu1 iu1
  rw [hu2] at Cu2 iu2
  rw [hv1] at Cv1 iv1
  rw [hv2] at Cv2 iv2
  clear hS hh hF hu1 hu2 hv1 hv2 h1 h2 h3 h4 h5 h6 dx dy fx fy hr hux huy hvx hvy
  have DD := Lib.hid DD
  have DH := Lib.hid DH
  have DF := Lib.hid DF
  have Cu1 := Lib.hid Cu1
  have Cu2 := Lib.hid Cu2
  have Cv1 := Lib.hid Cv1
  have Cv2 := Lib.hid Cv2
  have iS := Lib.hid iS
  have ih := Lib.hid ih
  have iF := Lib.hid iF
  have iu1 := Lib.hid iu1
  have iu2 := Lib.hid iu2
  have iv1 := Lib.hid iv1
  have iv2 := Lib.hid iv2
  have ir := Lib.hid ir
  obtain ⟨rr, RRh⟩ : ∃ z, Hid (r * r = z) := ⟨_, rfl⟩
  obtain ⟨rest, RSh⟩ : ∃ z, Hid (F - rr = z) := ⟨_, rfl⟩
  obtain ⟨hh, HHh⟩ : ∃ z, Hid (h * h = z) := ⟨_, rfl⟩
  obtain ⟨sr, SRh⟩ : ∃ z, Hid (S * rest = z) := ⟨_, rfl⟩
  obtain ⟨dl, DLh⟩ : ∃ z, Hid (hh - sr = z) := ⟨_, rfl⟩
  obtain ⟨mh, MHh⟩ : ∃ z, Hid (0 - h = z) := ⟨_, rfl⟩
  obtain ⟨sm, SMh⟩ : ∃ z, Hid (S - mh = z) := ⟨_, rfl⟩
  obtain ⟨eu1, Eu1⟩ : ∃ z, Hid (S * u1 = z) := ⟨_, rfl⟩
  obtain ⟨eu2, Eu2⟩ : ∃ z, Hid (h * u2 = z) := ⟨_, rfl⟩
  obtain ⟨eu3, Eu3⟩ : ∃ z, Hid (eu1 - eu2 = z) := ⟨_, rfl⟩
  obtain ⟨ev1, Ev1⟩ : ∃ z, Hid (S * v1 = z) := ⟨_, rfl⟩
  obtain ⟨ev2, Ev2⟩ : ∃ z, Hid (h * v2 = z) := ⟨_, rfl⟩
  obtain ⟨ev3, Ev3⟩ : ∃ z, Hid (ev1 - ev2 = z) := ⟨_, rfl⟩
  have wS : Hid (Wd 2 S) := Wd.of64 iS.out
  have wh : Hid (Wd 2 h) := Wd.of64 ih.out
  have wF : Hid (Wd 2 F) := Wd.of64 iF.out
  have wr : Hid (Wd 2 r) := Wd.of64 ir.out
  have wu1 : Hid (Wd 2 u1) := Wd.of64 iu1.out
  have wu2 : Hid (Wd 2 u2) := Wd.of64 iu2.out
  have wv1 : Hid (Wd 2 v1) := Wd.of64 iv1.out
  have wv2 : Hid (Wd 2 v2) := Wd.of64 iv2.out
  have wrr : Hid (Wd 4 rr) := by show Wd 4 rr; rw [← RRh.out]; exact wr.out.mul wr.out
  have wrs : Hid (Wd 5 rest) := by show Wd 5 rest; rw [← RSh.out]; exact (wF.out.mono (by omega)).sub wrr.out
  have whh : Hid (Wd 4 hh) := by show Wd 4 hh; rw [← HHh.out]; exact wh.out.mul wh.out
  have wsr : Hid (Wd 7 sr) := by show Wd 7 sr; rw [← SRh.out]; exact wS.out.mul wrs.out
  have wdl : Hid (Wd 8 dl) := by show Wd 8 dl; rw [← DLh.out]; exact (whh.out.mono (by omega)).sub wsr.out
  have wmh : Hid (Wd 3 mh) := by show Wd 3 mh; rw [← MHh.out]; exact Wd.sub (a := 2) (by unfold Wd; decide) wh.out
  have wsm : Hid (Wd 4 sm) := by show Wd 4 sm; rw [← SMh.out]; exact (wS.out.mono (by omega)).sub wmh.out
  have weu1 : Hid (Wd 4 eu1) := by show Wd 4 eu1; rw [← Eu1.out]; exact wS.out.mul wu1.out
  have weu2 : Hid (Wd 4 eu2) := by show Wd 4 eu2; rw [← Eu2.out]; exact wh.out.mul wu2.out
  have weu3 : Hid (Wd 5 eu3) := by show Wd 5 eu3; rw [← Eu3.out]; exact weu1.out.sub weu2.out
  have wev1 : Hid (Wd 4 ev1) := by show Wd 4 ev1; rw [← Ev1.out]; exact wS.out.mul wv1.out
  have wev2 : Hid (Wd 4 ev2) := by show Wd 4 ev2; rw [← Ev2.out]; exact wh.out.mul wv2.out
  have wev3 : Hid (Wd 5 ev3) := by show Wd 5 ev3; rw [← Ev3.out]; exact wev1.out.sub wev2.out
  have RES : Hid (countZ (LA.delta ⟨S, h, F, r, u1, u2, v1, v2⟩) (LA.list ⟨S, h, F, r, u1, u2, v1, v2⟩) = countZ dl [(mh, 1), (sm, -1), (eu3, u2), (ev3, v2)]) := by
    show countZ _ _ = _
    unfold LA.delta LA.list
    simp only
    rw [RRh.out, RSh.out, HHh.out, SRh.out, DLh.out, MHh.out, SMh.out, Eu1.out, Eu2.out, Eu3.out, Ev1.out, Ev2.out, Ev3.out]
  go_enter Tryz.func21, Tryz.ntmps21
  go_wp2_with fail
  refine wp_KB (w.heap.size + 1 + 1) (fun W => Ext w W ∧ w.heap.size + 1 + 1 ≤ W.heap.size ∧ W.cell? ⟨w.heap.size, 0, none⟩ = some (.int .i64 px) ∧ W.cell? ⟨w.heap.size, 1, none⟩ = some (.int .i64 py) ∧ W.cell? ⟨w.heap.size, 2, none⟩ = some (.int .i64 qx) ∧ W.cell? ⟨w.heap.size, 3, none⟩ = some (.int .i64 qy) ∧ W.cell? ⟨w.heap.size + 1, 0, none⟩ = some (.int .i64 cx) ∧ W.cell? ⟨w.heap.size + 1, 1, none⟩ = some (.int .i64 cy) ∧ W.cell? ⟨w.heap.size + 1, 2, none⟩ = some (.int .i64 r) ∧ W.cell? ⟨w.heap.size + 1, 3, none⟩ = some (.int .i64 ux) ∧ W.cell? ⟨w.heap.size + 1, 4, none⟩ = some (.int .i64 uy) ∧ W.cell? ⟨w.heap.size + 1, 5, none⟩ = some (.int .i64 vx) ∧ W.cell? ⟨w.heap.size + 1, 6, none⟩ = some (.int .i64 vy)) ?_
  intro hKeep
  repeat (first | refine F_s ?_ | refine F_r ?_)
  (refine F_call (v := .agg #[.int .i64 (px-cx), .int .i64 (py-cy)]) (by rfl) (by rfl) ?_ ?_; (· (intro W hW; (try dsimp only at hW); go_simp; refine (SF.out _).mono ?_; rintro e w' ⟨rfl, hx⟩; exact ⟨_, rfl, rfl, hx⟩))); refine F_put ?_
  repeat (first | refine F_s ?_ | refine F_r ?_)
  (refine F_call (v := .agg #[.int .i64 (qx-px), .int .i64 (qy-py)]) (by rfl) (by rfl) ?_ ?_; (· (intro W hW; (try dsimp only at hW); go_simp; refine (SD.out _).mono ?_; rintro e w' ⟨rfl, hx⟩; exact ⟨_, rfl, rfl, hx⟩))); refine F_put ?_
  repeat (first | refine F_s ?_ | refine F_r ?_)
  refine F_al ?_
  intro g hg
  simp only [List.mem_cons, List.mem_range, not_or, Nat.not_lt] at hg
  refine F_al ?_
  intro g2 hg2
  simp only [List.mem_cons, List.mem_range, not_or, Nat.not_lt] at hg2
  obtain ⟨hgg, hg2⟩ := hg2
  have hgg' := Ne.symm hgg
  refine F_w (fun W => _ ∧ W.heap[g2]? = some (.cells #[.int .i64 0, .int .i64 0] 25)) (fun W hW => ⟨⟨hW.1.1, hW.2⟩, hW.1.2⟩) ?_
  refine F_w (fun W => _ ∧ W.heap[g]? = some (.cells #[.int .i64 (px - cx), .int .i64 (py - cy)] 25)) (fun W hW => ⟨⟨hW.1.1.1, hW.1.2⟩, hW.1.1.2⟩) ?_
  repeat (first | refine F_s ?_ | refine F_r ?_)
  rintro V1 ⟨⟨⟨⟨hx, hz, hc⟩, bk1⟩, bk2⟩, _⟩
  obtain ⟨k0, k1, _, hl1⟩ := pt_block bk1
  obtain ⟨e0, e1, _, hl2⟩ := pt_block bk2
  have hl3 : w.heap.size + 1 + 1 ≤ V1.heap.size := by omega
  clear bk1 bk2
  go_wp2_with fail
  refine wp_KB (V1.heap.size) (fun W => Ext V1 W ∧ V1.heap.size ≤ W.heap.size ∧ W.cell? ⟨w.heap.size, 0, none⟩ = some (.int .i64 px) ∧ W.cell? ⟨w.heap.size, 1, none⟩ = some (.int .i64 py) ∧ W.cell? ⟨w.heap.size, 2, none⟩ = some (.int .i64 qx) ∧ W.cell? ⟨w.heap.size, 3, none⟩ = some (.int .i64 qy) ∧ W.cell? ⟨w.heap.size + 1, 0, none⟩ = some (.int .i64 cx) ∧ W.cell? ⟨w.heap.size + 1, 1, none⟩ = some (.int .i64 cy) ∧ W.cell? ⟨w.heap.size + 1, 2, none⟩ = some (.int .i64 r) ∧ W.cell? ⟨w.heap.size + 1, 3, none⟩ = some (.int .i64 ux) ∧ W.cell? ⟨w.heap.size + 1, 4, none⟩ = some (.int .i64 uy) ∧ W.cell? ⟨w.heap.size + 1, 5, none⟩ = some (.int .i64 vx) ∧ W.cell? ⟨w.heap.size + 1, 6, none⟩ = some (.int .i64 vy) ∧ W.cell? ⟨g, 0, none⟩ = some (.int .i64 (px-cx)) ∧ W.cell? ⟨g, 1, none⟩ = some (.int .i64 (py-cy)) ∧ W.cell? ⟨g2, 0, none⟩ = some (.int .i64 (qx-px)) ∧ W.cell? ⟨g2, 1, none⟩ = some (.int .i64 (qy-py))) ?_
  intro hKeep
  repeat (first | refine F_s ?_ | refine F_r ?_)
  (refine F_call (v := .int .i64 S) (by rfl) (by rfl) ?_ ?_; (· (intro W hW; (try dsimp only at hW); go_simp; refine (DD.out _).mono ?_; rintro e w' ⟨rfl, hx⟩; exact ⟨_, rfl, rfl, hx⟩))); refine F_put ?_
  repeat (first | refine F_s ?_ | refine F_r ?_)
  refine F_num V1 (ofZ S) (by rfl) (by rfl) (by intro W hW; (try dsimp only at hW); have hwW : V1.heap.size ≤ W.heap.size := (by have hzz := hW; (repeat (first | exact hzz.size | exact hzz.1.size | replace hzz := hzz.1))); go_simp; exact (meet_of S _ iS.out).mono fun _ _ h => RetN.isN hwW h) ?_; intro n1 p1 l1 c1 hn1; refine F_put ?_
  repeat (first | refine F_s ?_ | refine F_r ?_)
  (refine F_call (v := .int .i64 h) (by rfl) (by rfl) ?_ ?_; (· (intro W hW; (try dsimp only at hW); go_simp; refine (DH.out _).mono ?_; rintro e w' ⟨rfl, hx⟩; exact ⟨_, rfl, rfl, hx⟩))); refine F_put ?_
  repeat (first | refine F_s ?_ | refine F_r ?_)
  refine F_num V1 (ofZ h) (by rfl) (by rfl) (by intro W hW; (try dsimp only at hW); have hwW : V1.heap.size ≤ W.heap.size := (by have hzz := hW; (repeat (first | exact hzz.size | exact hzz.1.size | replace hzz := hzz.1))); go_simp; exact (meet_of h _ ih.out).mono fun _ _ h => RetN.isN hwW h) ?_; intro n2 p2 l2 c2 hn2; refine F_put ?_
  repeat (first | refine F_s ?_ | refine F_r ?_)
  refine F_al ?_
  intro g3 hg3
  simp only [List.mem_cons, List.mem_range, not_or, Nat.not_lt] at hg3
  refine F_al ?_
  intro g4 hg4
  simp only [List.mem_cons, List.mem_range, not_or, Nat.not_lt] at hg4
  obtain ⟨hg34, hg4⟩ := hg4
  have hg34' := Ne.symm hg34
  refine F_w (fun W => ((_ ∧ NR W n1 p1 l1 c1 (ofZ S)) ∧ NR W n2 p2 l2 c2 (ofZ h)) ∧ W.heap[g4]? = some (.cells #[.bool false, .slice none 0 0] 83)) (fun W hW => ⟨⟨hW.1.1, hW.2⟩, hW.1.2⟩) ?_
  refine F_w (fun W => ((_ ∧ NR W n1 p1 l1 c1 (ofZ S)) ∧ NR W n2 p2 l2 c2 (ofZ h)) ∧ W.heap[g3]? = some (.cells #[.bool n1, .slice p1 l1 c1] 83)) (fun W hW => ⟨⟨hW.1.1.1, hW.1.2⟩, hW.1.1.2⟩) ?_
  repeat (first | refine F_s ?_ | refine F_r ?_)
  rintro V2 ⟨⟨⟨⟨⟨⟨hx2, hz2, hc2⟩, nS⟩, nh⟩, bk3⟩, bk4⟩, _⟩
  obtain ⟨s0, s1, _, hl4⟩ := pt_block bk3
  obtain ⟨t0, t1, _, hl5⟩ := pt_block bk4
  clear bk3 bk4
  have hxA : Ext w V2 := Ext.step hx hx2
  clear k0 k1 e0 e1 hc
  go_wp2_with fail
  refine wp_KB (V2.heap.size) (fun W => Ext V2 W ∧ V2.heap.size ≤ W.heap.size ∧ W.cell? ⟨w.heap.size, 0, none⟩ = some (.int .i64 px) ∧ W.cell? ⟨w.heap.size, 1, none⟩ = some (.int .i64 py) ∧ W.cell? ⟨w.heap.size, 2, none⟩ = some (.int .i64 qx) ∧ W.cell? ⟨w.heap.size, 3, none⟩ = some (.int .i64 qy) ∧ W.cell? ⟨w.heap.size + 1, 0, none⟩ = some (.int .i64 cx) ∧ W.cell? ⟨w.heap.size + 1, 1, none⟩ = some (.int .i64 cy) ∧ W.cell? ⟨w.heap.size + 1, 2, none⟩ = some (.int .i64 r) ∧ W.cell? ⟨w.heap.size + 1, 3, none⟩ = some (.int .i64 ux) ∧ W.cell? ⟨w.heap.size + 1, 4, none⟩ = some (.int .i64 uy) ∧ W.cell? ⟨w.heap.size + 1, 5, none⟩ = some (.int .i64 vx) ∧ W.cell? ⟨w.heap.size + 1, 6, none⟩ = some (.int .i64 vy) ∧ W.cell? ⟨g, 0, none⟩ = some (.int .i64 (px-cx)) ∧ W.cell? ⟨g, 1, none⟩ = some (.int .i64 (py-cy)) ∧ W.cell? ⟨g2, 0, none⟩ = some (.int .i64 (qx-px)) ∧ W.cell? ⟨g2, 1, none⟩ = some (.int .i64 (qy-py)) ∧ W.cell? ⟨g3, 0, none⟩ = some (.bool n1) ∧ W.cell? ⟨g3, 1, none⟩ = some (.slice p1 l1 c1) ∧ W.cell? ⟨g4, 0, none⟩ = some (.bool n2) ∧ W.cell? ⟨g4, 1, none⟩ = some (.slice p2 l2 c2)) ?_
  intro hKeep
  repeat (first | refine F_s ?_ | refine F_r ?_)
  (refine F_call (v := .int .i64 F) (by rfl) (by rfl) ?_ ?_; (· (intro W hW; (try dsimp only at hW); go_simp; refine (DF.out _).mono ?_; rintro e w' ⟨rfl, hx⟩; exact ⟨_, rfl, rfl, hx⟩))); refine F_put ?_
  repeat (first | refine F_s ?_ | refine F_r ?_)
  refine F_num V2 (ofZ F) (by rfl) (by rfl) (by intro W hW; (try dsimp only at hW); have hwW : V2.heap.size ≤ W.heap.size := (by have hzz := hW; (repeat (first | exact hzz.size | exact hzz.1.size | replace hzz := hzz.1))); go_simp; exact (meet_of F _ iF.out).mono fun _ _ h => RetN.isN hwW h) ?_; intro n3 p3 l3 c3 hn3; refine F_put ?_
  repeat (first | refine F_s ?_ | refine F_r ?_)
  refine F_num V2 (ofZ r) (by rfl) (by rfl) (by intro W hW; (try dsimp only at hW); have hwW : V2.heap.size ≤ W.heap.size := (by have hzz := hW; (repeat (first | exact hzz.size | exact hzz.1.size | replace hzz := hzz.1))); go_simp; exact (meet_of r _ ir.out).mono fun _ _ h => RetN.isN hwW h) ?_; intro n4 p4 l4 c4 hn4; refine F_put ?_
  repeat (first | refine F_s ?_ | refine F_r ?_)
  refine F_num V2 (ofZ r) (by rfl) (by rfl) (by intro W hW; (try dsimp only at hW); have hwW : V2.heap.size ≤ W.heap.size := (by have hzz := hW; (repeat (first | exact hzz.size | exact hzz.1.size | replace hzz := hzz.1))); go_simp; exact (meet_of r _ ir.out).mono fun _ _ h => RetN.isN hwW h) ?_; intro n5 p5 l5 c5 hn5; refine F_put ?_
  repeat (first | refine F_s ?_ | refine F_r ?_)
  refine F_num V2 (ofZ rr) (by rfl) (by rfl) (by intro W hW; (try dsimp only at hW); have hwW : V2.heap.size ≤ W.heap.size := (by have hzz := hW; (repeat (first | exact hzz.size | exact hzz.1.size | replace hzz := hzz.1))); go_simp; exact (meet_mul r r n4 n5 p4 p5 l4 c4 l5 c5 W (by have hzz := hW; (try dsimp only at hzz); (repeat (first | exact hzz.2 | exact hzz.1 | exact NR.ext (by assumption) hzz | exact NR.ext (by assumption) hzz.1 | replace hzz := hzz.1))) (by have hzz := hW; (try dsimp only at hzz); (repeat (first | exact hzz.2 | exact hzz.1 | exact NR.ext (by assumption) hzz | exact NR.ext (by assumption) hzz.1 | replace hzz := hzz.1))) (wr.out.small (by omega)) (wr.out.small (by omega)) rr RRh.out (wrr.out.small (by omega))).mono fun _ _ h => RetN.isN hwW h) ?_; intro n6 p6 l6 c6 hn6; refine F_put ?_
  repeat (first | refine F_s ?_ | refine F_r ?_)
  refine F_num V2 (ofZ rest) (by rfl) (by rfl) (by intro W hW; (try dsimp only at hW); have hwW : V2.heap.size ≤ W.heap.size := (by have hzz := hW; (repeat (first | exact hzz.size | exact hzz.1.size | replace hzz := hzz.1))); go_simp; exact (meet_sub F rr n3 n6 p3 p6 l3 c3 l6 c6 W (by have hzz := hW; (try dsimp only at hzz); (repeat (first | exact hzz.2 | exact hzz.1 | exact NR.ext (by assumption) hzz | exact NR.ext (by assumption) hzz.1 | replace hzz := hzz.1))) (by have hzz := hW; (try dsimp only at hzz); (repeat (first | exact hzz.2 | exact hzz.1 | exact NR.ext (by assumption) hzz | exact NR.ext (by assumption) hzz.1 | replace hzz := hzz.1))) (wF.out.small (by omega)) (wrr.out.small (by omega)) rest RSh.out (wrs.out.small (by omega))).mono fun _ _ h => RetN.isN hwW h) ?_; intro n7 p7 l7 c7 hn7; refine F_put ?_
  repeat (first | refine F_s ?_ | refine F_r ?_)
  refine F_al ?_
  intro g5 hg5
  simp only [List.mem_cons, List.mem_range, not_or, Nat.not_lt] at hg5
  refine F_w (fun W => _ ∧ NR W n7 p7 l7 c7 (ofZ rest)) (fun W hW => ⟨⟨hW.1.1.1.1.1.1, hW.1.2⟩, hW.2⟩) ?_
  repeat (first | refine F_s ?_ | refine F_r ?_)
  rintro V3 ⟨⟨⟨⟨hx3, hz3, hc3⟩, nR⟩, bk5⟩, _⟩
  obtain ⟨u0, u1', _, hl6⟩ := pt_block bk5
  clear bk5 hc2 s0 s1 t0 t1
  have hxB : Ext w V3 := Ext.step hxA hx3
  have nS3 := nS.ext hx3
  have nh3 := nh.ext hx3
  go_wp2_with fail
  refine wp_KB (V3.heap.size) (fun W => Ext V3 W ∧ V3.heap.size ≤ W.heap.size ∧ W.cell? ⟨w.heap.size, 0, none⟩ = some (.int .i64 px) ∧ W.cell? ⟨w.heap.size, 1, none⟩ = some (.int .i64 py) ∧ W.cell? ⟨w.heap.size, 2, none⟩ = some (.int .i64 qx) ∧ W.cell? ⟨w.heap.size, 3, none⟩ = some (.int .i64 qy) ∧ W.cell? ⟨w.heap.size + 1, 0, none⟩ = some (.int .i64 cx) ∧ W.cell? ⟨w.heap.size + 1, 1, none⟩ = some (.int .i64 cy) ∧ W.cell? ⟨w.heap.size + 1, 2, none⟩ = some (.int .i64 r) ∧ W.cell? ⟨w.heap.size + 1, 3, none⟩ = some (.int .i64 ux) ∧ W.cell? ⟨w.heap.size + 1, 4, none⟩ = some (.int .i64 uy) ∧ W.cell? ⟨w.heap.size + 1, 5, none⟩ = some (.int .i64 vx) ∧ W.cell? ⟨w.heap.size + 1, 6, none⟩ = some (.int .i64 vy) ∧ W.cell? ⟨g, 0, none⟩ = some (.int .i64 (px-cx)) ∧ W.cell? ⟨g, 1, none⟩ = some (.int .i64 (py-cy)) ∧ W.cell? ⟨g2, 0, none⟩ = some (.int .i64 (qx-px)) ∧ W.cell? ⟨g2, 1, none⟩ = some (.int .i64 (qy-py)) ∧ W.cell? ⟨g3, 0, none⟩ = some (.bool n1) ∧ W.cell? ⟨g3, 1, none⟩ = some (.slice p1 l1 c1) ∧ W.cell? ⟨g4, 0, none⟩ = some (.bool n2) ∧ W.cell? ⟨g4, 1, none⟩ = some (.slice p2 l2 c2) ∧ W.cell? ⟨g5, 0, none⟩ = some (.bool n7) ∧ W.cell? ⟨g5, 1, none⟩ = some (.slice p7 l7 c7)) ?_
  intro hKeep
  repeat (first | refine F_s ?_ | refine F_r ?_)
  refine F_num V3 (ofZ hh) (by rfl) (by rfl) (by intro W hW; (try dsimp only at hW); have hwW : V3.heap.size ≤ W.heap.size := (by have hzz := hW; (repeat (first | exact hzz.size | exact hzz.1.size | replace hzz := hzz.1))); go_simp; exact (meet_mul h h n2 n2 p2 p2 l2 c2 l2 c2 W (by have hzz := hW; (try dsimp only at hzz); (repeat (first | exact hzz.2 | exact hzz.1 | exact NR.ext (by assumption) hzz | exact NR.ext (by assumption) hzz.1 | replace hzz := hzz.1))) (by have hzz := hW; (try dsimp only at hzz); (repeat (first | exact hzz.2 | exact hzz.1 | exact NR.ext (by assumption) hzz | exact NR.ext (by assumption) hzz.1 | replace hzz := hzz.1))) (wh.out.small (by omega)) (wh.out.small (by omega)) hh HHh.out (whh.out.small (by omega))).mono fun _ _ h => RetN.isN hwW h) ?_; intro n8 p8 l8 c8 hn8; refine F_put ?_
  repeat (first | refine F_s ?_ | refine F_r ?_)
  refine F_num V3 (ofZ sr) (by rfl) (by rfl) (by intro W hW; (try dsimp only at hW); have hwW : V3.heap.size ≤ W.heap.size := (by have hzz := hW; (repeat (first | exact hzz.size | exact hzz.1.size | replace hzz := hzz.1))); go_simp; exact (meet_mul S rest n1 n7 p1 p7 l1 c1 l7 c7 W (by have hzz := hW; (try dsimp only at hzz); (repeat (first | exact hzz.2 | exact hzz.1 | exact NR.ext (by assumption) hzz | exact NR.ext (by assumption) hzz.1 | replace hzz := hzz.1))) (by have hzz := hW; (try dsimp only at hzz); (repeat (first | exact hzz.2 | exact hzz.1 | exact NR.ext (by assumption) hzz | exact NR.ext (by assumption) hzz.1 | replace hzz := hzz.1))) (wS.out.small (by omega)) (wrs.out.small (by omega)) sr SRh.out (wsr.out.small (by omega))).mono fun _ _ h => RetN.isN hwW h) ?_; intro n9 p9 l9 c9 hn9; refine F_put ?_
  repeat (first | refine F_s ?_ | refine F_r ?_)
  refine F_num V3 (ofZ dl) (by rfl) (by rfl) (by intro W hW; (try dsimp only at hW); have hwW : V3.heap.size ≤ W.heap.size := (by have hzz := hW; (repeat (first | exact hzz.size | exact hzz.1.size | replace hzz := hzz.1))); go_simp; exact (meet_sub hh sr n8 n9 p8 p9 l8 c8 l9 c9 W (by have hzz := hW; (try dsimp only at hzz); (repeat (first | exact hzz.2 | exact hzz.1 | exact NR.ext (by assumption) hzz | exact NR.ext (by assumption) hzz.1 | replace hzz := hzz.1))) (by have hzz := hW; (try dsimp only at hzz); (repeat (first | exact hzz.2 | exact hzz.1 | exact NR.ext (by assumption) hzz | exact NR.ext (by assumption) hzz.1 | replace hzz := hzz.1))) (whh.out.small (by omega)) (wsr.out.small (by omega)) dl DLh.out (wdl.out.small (by omega))).mono fun _ _ h => RetN.isN hwW h) ?_; intro n10 p10 l10 c10 hn10; refine F_put ?_
  repeat (first | refine F_s ?_ | refine F_r ?_)
  refine F_al ?_
  intro g6 hg6
  simp only [List.mem_cons, List.mem_range, not_or, Nat.not_lt] at hg6
  refine F_w (fun W => _ ∧ NR W n10 p10 l10 c10 (ofZ dl)) (fun W hW => ⟨⟨hW.1.1.1.1, hW.1.2⟩, hW.2⟩) ?_
  repeat (first | refine F_s ?_ | refine F_r ?_)
  rintro V4 ⟨⟨⟨⟨hx4, hz4, hc4⟩, nD⟩, bk6⟩, _⟩
  obtain ⟨v0, v1', _, hl7⟩ := pt_block bk6
  clear bk6 hc3 u0 u1'
  have hxC : Ext w V4 := Ext.step hxB hx4
  have nS4 := nS3.ext hx4
  have nh4 := nh3.ext hx4
  clear nS3 nh3 nS nh nR
  go_wp2_with fail
  refine wp_KB (V4.heap.size) (fun W => Ext V4 W ∧ V4.heap.size ≤ W.heap.size ∧ W.cell? ⟨w.heap.size, 0, none⟩ = some (.int .i64 px) ∧ W.cell? ⟨w.heap.size, 1, none⟩ = some (.int .i64 py) ∧ W.cell? ⟨w.heap.size, 2, none⟩ = some (.int .i64 qx) ∧ W.cell? ⟨w.heap.size, 3, none⟩ = some (.int .i64 qy) ∧ W.cell? ⟨w.heap.size + 1, 0, none⟩ = some (.int .i64 cx) ∧ W.cell? ⟨w.heap.size + 1, 1, none⟩ = some (.int .i64 cy) ∧ W.cell? ⟨w.heap.size + 1, 2, none⟩ = some (.int .i64 r) ∧ W.cell? ⟨w.heap.size + 1, 3, none⟩ = some (.int .i64 ux) ∧ W.cell? ⟨w.heap.size + 1, 4, none⟩ = some (.int .i64 uy) ∧ W.cell? ⟨w.heap.size + 1, 5, none⟩ = some (.int .i64 vx) ∧ W.cell? ⟨w.heap.size + 1, 6, none⟩ = some (.int .i64 vy) ∧ W.cell? ⟨g, 0, none⟩ = some (.int .i64 (px-cx)) ∧ W.cell? ⟨g, 1, none⟩ = some (.int .i64 (py-cy)) ∧ W.cell? ⟨g2, 0, none⟩ = some (.int .i64 (qx-px)) ∧ W.cell? ⟨g2, 1, none⟩ = some (.int .i64 (qy-py)) ∧ W.cell? ⟨g3, 0, none⟩ = some (.bool n1) ∧ W.cell? ⟨g3, 1, none⟩ = some (.slice p1 l1 c1) ∧ W.cell? ⟨g4, 0, none⟩ = some (.bool n2) ∧ W.cell? ⟨g4, 1, none⟩ = some (.slice p2 l2 c2) ∧ W.cell? ⟨g6, 0, none⟩ = some (.bool n10) ∧ W.cell? ⟨g6, 1, none⟩ = some (.slice p10 l10 c10)) ?_
  intro hKeep
  repeat (first | refine F_s ?_ | refine F_r ?_)
  refine F_num V4 (ofZ mh) (by rfl) (by rfl) (by intro W hW; (try dsimp only at hW); have hwW : V4.heap.size ≤ W.heap.size := (by have hzz := hW; (repeat (first | exact hzz.size | exact hzz.1.size | replace hzz := hzz.1))); go_simp; exact (meet_minus h n2 p2 l2 c2 W (by have hzz := hW; (try dsimp only at hzz); (repeat (first | exact hzz.2 | exact hzz.1 | exact NR.ext (by assumption) hzz | exact NR.ext (by assumption) hzz.1 | replace hzz := hzz.1))) (wh.out.small (by omega)) mh MHh.out (wmh.out.small (by omega))).mono fun _ _ h => RetN.isN hwW h) ?_; intro n11 p11 l11 c11 hn11; refine F_put ?_
  repeat (first | refine F_s ?_ | refine F_r ?_)
  refine F_num V4 (ofZ 1) (by rfl) (by rfl) (by intro W hW; (try dsimp only at hW); have hwW : V4.heap.size ≤ W.heap.size := (by have hzz := hW; (repeat (first | exact hzz.size | exact hzz.1.size | replace hzz := hzz.1))); go_simp; exact (meet_of 1 _ (by omega)).mono fun _ _ h => RetN.isN hwW h) ?_; intro n12 p12 l12 c12 hn12; refine F_put ?_
  repeat (first | refine F_s ?_ | refine F_r ?_)
  refine F_num V4 (ofZ mh) (by rfl) (by rfl) (by intro W hW; (try dsimp only at hW); have hwW : V4.heap.size ≤ W.heap.size := (by have hzz := hW; (repeat (first | exact hzz.size | exact hzz.1.size | replace hzz := hzz.1))); go_simp; exact (meet_minus h n2 p2 l2 c2 W (by have hzz := hW; (try dsimp only at hzz); (repeat (first | exact hzz.2 | exact hzz.1 | exact NR.ext (by assumption) hzz | exact NR.ext (by assumption) hzz.1 | replace hzz := hzz.1))) (wh.out.small (by omega)) mh MHh.out (wmh.out.small (by omega))).mono fun _ _ h => RetN.isN hwW h) ?_; intro n13 p13 l13 c13 hn13; refine F_put ?_
  repeat (first | refine F_s ?_ | refine F_r ?_)
  refine F_num V4 (ofZ sm) (by rfl) (by rfl) (by intro W hW; (try dsimp only at hW); have hwW : V4.heap.size ≤ W.heap.size := (by have hzz := hW; (repeat (first | exact hzz.size | exact hzz.1.size | replace hzz := hzz.1))); go_simp; exact (meet_sub S mh n1 n13 p1 p13 l1 c1 l13 c13 W (by have hzz := hW; (try dsimp only at hzz); (repeat (first | exact hzz.2 | exact hzz.1 | exact NR.ext (by assumption) hzz | exact NR.ext (by assumption) hzz.1 | replace hzz := hzz.1))) (by have hzz := hW; (try dsimp only at hzz); (repeat (first | exact hzz.2 | exact hzz.1 | exact NR.ext (by assumption) hzz | exact NR.ext (by assumption) hzz.1 | replace hzz := hzz.1))) (wS.out.small (by omega)) (wmh.out.small (by omega)) sm SMh.out (wsm.out.small (by omega))).mono fun _ _ h => RetN.isN hwW h) ?_; intro n14 p14 l14 c14 hn14; refine F_put ?_
  repeat (first | refine F_s ?_ | refine F_r ?_)
  refine F_num V4 (ofZ (-1)) (by rfl) (by rfl) (by intro W hW; (try dsimp only at hW); have hwW : V4.heap.size ≤ W.heap.size := (by have hzz := hW; (repeat (first | exact hzz.size | exact hzz.1.size | replace hzz := hzz.1))); go_simp; exact (meet_of (-1) _ (by omega)).mono fun _ _ h => RetN.isN hwW h) ?_; intro n15 p15 l15 c15 hn15; refine F_put ?_
  repeat (first | refine F_s ?_ | refine F_r ?_)
  refine F_buildO _ _ (by rfl) (by rfl) (by rfl) n11 n12 n14 n15 p11 p12 p14 p15 l11 c11 l12 c12 l14 c14 l15 c15 (by rfl) (by rfl) V4.heap.size mh 1 sm (-1) (fun g hg => by simpa using hg) (fun W hW => ⟨hW.1.1.1.1.2, hW.1.1.1.2, hW.1.2, hW.2⟩) ?_
  intro g7
  refine F_put ?_
  repeat (first | refine F_s ?_ | refine F_r ?_)
  rintro V5 ⟨⟨⟨⟨⟨⟨⟨hx5, hz5, hc5⟩, _⟩, _⟩, _⟩, _⟩, _⟩, hO⟩
  have hC : ∀ W, Ext V4 W → (W.cell? ⟨w.heap.size, 0, none⟩ = some (.int .i64 px) ∧ W.cell? ⟨w.heap.size, 1, none⟩ = some (.int .i64 py) ∧ W.cell? ⟨w.heap.size, 2, none⟩ = some (.int .i64 qx) ∧ W.cell? ⟨w.heap.size, 3, none⟩ = some (.int .i64 qy) ∧ W.cell? ⟨w.heap.size + 1, 0, none⟩ = some (.int .i64 cx) ∧ W.cell? ⟨w.heap.size + 1, 1, none⟩ = some (.int .i64 cy) ∧ W.cell? ⟨w.heap.size + 1, 2, none⟩ = some (.int .i64 r) ∧ W.cell? ⟨w.heap.size + 1, 3, none⟩ = some (.int .i64 ux) ∧ W.cell? ⟨w.heap.size + 1, 4, none⟩ = some (.int .i64 uy) ∧ W.cell? ⟨w.heap.size + 1, 5, none⟩ = some (.int .i64 vx) ∧ W.cell? ⟨w.heap.size + 1, 6, none⟩ = some (.int .i64 vy) ∧ W.cell? ⟨g, 0, none⟩ = some (.int .i64 (px-cx)) ∧ W.cell? ⟨g, 1, none⟩ = some (.int .i64 (py-cy)) ∧ W.cell? ⟨g2, 0, none⟩ = some (.int .i64 (qx-px)) ∧ W.cell? ⟨g2, 1, none⟩ = some (.int .i64 (qy-py)) ∧ W.cell? ⟨g3, 0, none⟩ = some (.bool n1) ∧ W.cell? ⟨g3, 1, none⟩ = some (.slice p1 l1 c1) ∧ W.cell? ⟨g4, 0, none⟩ = some (.bool n2) ∧ W.cell? ⟨g4, 1, none⟩ = some (.slice p2 l2 c2) ∧ W.cell? ⟨g6, 0, none⟩ = some (.bool n10) ∧ W.cell? ⟨g6, 1, none⟩ = some (.slice p10 l10 c10)) := fun W hx => by
    have hbc : ∀ b o, b < V4.heap.size → W.cell? ⟨b, o, none⟩ = V4.cell? ⟨b, o, none⟩ := fun b o h => hx.cell (p := ⟨b, o, none⟩) h
    simp (disch := omega) only [hbc]
    go_simp
  clear hc4 v0 v1'
  go_wp2
  go_loopw [11, 64] (fun sl i wr => Ext V4 wr ∧ ((∃ G c, i = .int .i64 0 ∧ sl = .slice (some ⟨G, 0, none⟩) 2 c ∧ OwnS wr V4.heap.size (some ⟨G, 0, none⟩) 2 c [(mh, 1), (sm, -1)]) ∨ (∃ G c, i = .int .i64 1 ∧ sl = .slice (some ⟨G, 0, none⟩) 3 c ∧ OwnS wr V4.heap.size (some ⟨G, 0, none⟩) 3 c [(mh, 1), (sm, -1), (eu3, u2)]) ∨ (∃ G c, i = .int .i64 2 ∧ sl = .slice (some ⟨G, 0, none⟩) 4 c ∧ OwnS wr V4.heap.size (some ⟨G, 0, none⟩) 4 c [(mh, 1), (sm, -1), (eu3, u2), (ev3, v2)]))) (fun _ i _ => 2 - (intOf i).toNat)
  case atStart => exact ⟨hx5, .inl ⟨g7, 2, rfl, rfl, hO⟩⟩
  case round =>
    have hix0 := ix0 ux uy vx vy
    have hix1 := ix1 ux uy vx vy
    obtain ⟨hx4r, hrel⟩ := hrel
    have hsr := hx4r.size
    have hcr := hC wr hx4r
    (try dsimp only at hcr)
    have q1 : g < wr.heap.size := by omega
    have q2 : g2 < wr.heap.size := by omega
    have q3 : g3 < wr.heap.size := by omega
    have q4 : g4 < wr.heap.size := by omega
    have q5 : g6 < wr.heap.size := by omega
    have q6 : w.heap.size < wr.heap.size := by omega
    have q7 : w.heap.size + 1 < wr.heap.size := by omega
    clear hC hc5 hO hx5
    rcases hrel with ⟨G, cc, rfl, rfl, hO⟩ | ⟨G, cc, rfl, rfl, hO⟩ | ⟨G, cc, rfl, rfl, hO⟩
    · have hG := hO.lt G rfl
      have hSM : FMono (fun W => Ext V4 W ∧ wr.heap.size + 1 ≤ W.heap.size ∧ (W.cell? ⟨w.heap.size, 0, none⟩ = some (.int .i64 px) ∧ W.cell? ⟨w.heap.size, 1, none⟩ = some (.int .i64 py) ∧ W.cell? ⟨w.heap.size, 2, none⟩ = some (.int .i64 qx) ∧ W.cell? ⟨w.heap.size, 3, none⟩ = some (.int .i64 qy) ∧ W.cell? ⟨w.heap.size + 1, 0, none⟩ = some (.int .i64 cx) ∧ W.cell? ⟨w.heap.size + 1, 1, none⟩ = some (.int .i64 cy) ∧ W.cell? ⟨w.heap.size + 1, 2, none⟩ = some (.int .i64 r) ∧ W.cell? ⟨w.heap.size + 1, 3, none⟩ = some (.int .i64 ux) ∧ W.cell? ⟨w.heap.size + 1, 4, none⟩ = some (.int .i64 uy) ∧ W.cell? ⟨w.heap.size + 1, 5, none⟩ = some (.int .i64 vx) ∧ W.cell? ⟨w.heap.size + 1, 6, none⟩ = some (.int .i64 vy) ∧ W.cell? ⟨g, 0, none⟩ = some (.int .i64 (px-cx)) ∧ W.cell? ⟨g, 1, none⟩ = some (.int .i64 (py-cy)) ∧ W.cell? ⟨g2, 0, none⟩ = some (.int .i64 (qx-px)) ∧ W.cell? ⟨g2, 1, none⟩ = some (.int .i64 (qy-py)) ∧ W.cell? ⟨g3, 0, none⟩ = some (.bool n1) ∧ W.cell? ⟨g3, 1, none⟩ = some (.slice p1 l1 c1) ∧ W.cell? ⟨g4, 0, none⟩ = some (.bool n2) ∧ W.cell? ⟨g4, 1, none⟩ = some (.slice p2 l2 c2) ∧ W.cell? ⟨g6, 0, none⟩ = some (.bool n10) ∧ W.cell? ⟨g6, 1, none⟩ = some (.slice p10 l10 c10) ∧ W.cell? ⟨wr.heap.size, 0, none⟩ = some (.int .i64 ux) ∧ W.cell? ⟨wr.heap.size, 1, none⟩ = some (.int .i64 uy) )) := by intro W W' h hb; obtain ⟨hx, hz, hc⟩ := h; have hbc : ∀ b o, b < W.heap.size → W'.cell? ⟨b, o, none⟩ = W.cell? ⟨b, o, none⟩ := fun b o h => hb.cell (p := ⟨b, o, none⟩) h; have hzx := hx.size; refine ⟨hx.step hb, Nat.le_trans hz hb.size, ?_⟩; (try dsimp only at hc ⊢); simp (disch := omega) only [hbc]; exact hc
      go_wp2_with fail
      refine wp_region_G (fun W => Ext V4 W ∧ wr.heap.size + 1 ≤ W.heap.size ∧ (W.cell? ⟨w.heap.size, 0, none⟩ = some (.int .i64 px) ∧ W.cell? ⟨w.heap.size, 1, none⟩ = some (.int .i64 py) ∧ W.cell? ⟨w.heap.size, 2, none⟩ = some (.int .i64 qx) ∧ W.cell? ⟨w.heap.size, 3, none⟩ = some (.int .i64 qy) ∧ W.cell? ⟨w.heap.size + 1, 0, none⟩ = some (.int .i64 cx) ∧ W.cell? ⟨w.heap.size + 1, 1, none⟩ = some (.int .i64 cy) ∧ W.cell? ⟨w.heap.size + 1, 2, none⟩ = some (.int .i64 r) ∧ W.cell? ⟨w.heap.size + 1, 3, none⟩ = some (.int .i64 ux) ∧ W.cell? ⟨w.heap.size + 1, 4, none⟩ = some (.int .i64 uy) ∧ W.cell? ⟨w.heap.size + 1, 5, none⟩ = some (.int .i64 vx) ∧ W.cell? ⟨w.heap.size + 1, 6, none⟩ = some (.int .i64 vy) ∧ W.cell? ⟨g, 0, none⟩ = some (.int .i64 (px-cx)) ∧ W.cell? ⟨g, 1, none⟩ = some (.int .i64 (py-cy)) ∧ W.cell? ⟨g2, 0, none⟩ = some (.int .i64 (qx-px)) ∧ W.cell? ⟨g2, 1, none⟩ = some (.int .i64 (qy-py)) ∧ W.cell? ⟨g3, 0, none⟩ = some (.bool n1) ∧ W.cell? ⟨g3, 1, none⟩ = some (.slice p1 l1 c1) ∧ W.cell? ⟨g4, 0, none⟩ = some (.bool n2) ∧ W.cell? ⟨g4, 1, none⟩ = some (.slice p2 l2 c2) ∧ W.cell? ⟨g6, 0, none⟩ = some (.bool n10) ∧ W.cell? ⟨g6, 1, none⟩ = some (.slice p10 l10 c10) ∧ W.cell? ⟨wr.heap.size, 0, none⟩ = some (.int .i64 ux) ∧ W.cell? ⟨wr.heap.size, 1, none⟩ = some (.int .i64 uy) )) (fun W => OwnS W V4.heap.size (some ⟨G, 0, none⟩) 2 cc [(mh, 1), (sm, -1)]) (by kernel_rfl) (by kernel_rfl) ?_ (hSM.and (fun _ _ h hb => h.ext hb)) ?_ ?_
      · refine ⟨⟨bxx, by simp, ?_⟩, hO.ext bxx⟩
        go_simp
      · intro W h
        have h2 : wr.heap.size + 1 ≤ W.heap.size := h.2.1
        simp
        omega
      repeat (first | refine F_s ?_ | refine F_r ?_)
      (refine F_call (v := .int .i64 u1) (by rfl) (by rfl) ?_ ?_; (· (intro W hW; (try dsimp only at hW); go_simp; refine (Cu1.out _).mono ?_; rintro e w' ⟨rfl, hx⟩; exact ⟨_, rfl, rfl, hx⟩))); refine F_put ?_
      repeat (first | refine F_s ?_ | refine F_r ?_)
      refine F_num wr (ofZ u1) (by rfl) (by rfl) (by intro W hW; (try dsimp only at hW); have hwW : wr.heap.size ≤ W.heap.size := (by have hzz := hW; (repeat (first | exact Nat.le_of_succ_le hzz.2.1 | exact Nat.le_of_succ_le hzz.1.2.1 | replace hzz := hzz.1))); go_simp; exact (meet_of u1 _ iu1.out).mono fun _ _ h => RetN.isN hwW h) ?_; intro n21 p21 l21 c21 hn21; refine F_put ?_
      repeat (first | refine F_s ?_ | refine F_r ?_)
      refine F_num wr (ofZ eu1) (by rfl) (by rfl) (by intro W hW; (try dsimp only at hW); have hwW : wr.heap.size ≤ W.heap.size := (by have hzz := hW; (repeat (first | exact Nat.le_of_succ_le hzz.2.1 | exact Nat.le_of_succ_le hzz.1.2.1 | replace hzz := hzz.1))); go_simp; exact (meet_mul S u1 n1 n21 p1 p21 l1 c1 l21 c21 W (by have hzz := hW; (try dsimp only at hzz); (repeat (first | exact hzz.2 | exact hzz.1 | exact NR.ext (by assumption) hzz | exact NR.ext (by assumption) hzz.1 | replace hzz := hzz.1))) (by have hzz := hW; (try dsimp only at hzz); (repeat (first | exact hzz.2 | exact hzz.1 | exact NR.ext (by assumption) hzz | exact NR.ext (by assumption) hzz.1 | replace hzz := hzz.1))) (wS.out.small (by omega)) (wu1.out.small (by omega)) eu1 Eu1.out (weu1.out.small (by omega))).mono fun _ _ h => RetN.isN hwW h) ?_; intro n22 p22 l22 c22 hn22; refine F_put ?_
      repeat (first | refine F_s ?_ | refine F_r ?_)
      (refine F_call (v := .int .i64 u2) (by rfl) (by rfl) ?_ ?_; (· (intro W hW; (try dsimp only at hW); go_simp; refine (Cu2.out _).mono ?_; rintro e w' ⟨rfl, hx⟩; exact ⟨_, rfl, rfl, hx⟩))); refine F_put ?_
      repeat (first | refine F_s ?_ | refine F_r ?_)
      refine F_num wr (ofZ u2) (by rfl) (by rfl) (by intro W hW; (try dsimp only at hW); have hwW : wr.heap.size ≤ W.heap.size := (by have hzz := hW; (repeat (first | exact Nat.le_of_succ_le hzz.2.1 | exact Nat.le_of_succ_le hzz.1.2.1 | replace hzz := hzz.1))); go_simp; exact (meet_of u2 _ iu2.out).mono fun _ _ h => RetN.isN hwW h) ?_; intro n23 p23 l23 c23 hn23; refine F_put ?_
      repeat (first | refine F_s ?_ | refine F_r ?_)
      refine F_num wr (ofZ eu2) (by rfl) (by rfl) (by intro W hW; (try dsimp only at hW); have hwW : wr.heap.size ≤ W.heap.size := (by have hzz := hW; (repeat (first | exact Nat.le_of_succ_le hzz.2.1 | exact Nat.le_of_succ_le hzz.1.2.1 | replace hzz := hzz.1))); go_simp; exact (meet_mul h u2 n2 n23 p2 p23 l2 c2 l23 c23 W (by have hzz := hW; (try dsimp only at hzz); (repeat (first | exact hzz.2 | exact hzz.1 | exact NR.ext (by assumption) hzz | exact NR.ext (by assumption) hzz.1 | replace hzz := hzz.1))) (by have hzz := hW; (try dsimp only at hzz); (repeat (first | exact hzz.2 | exact hzz.1 | exact NR.ext (by assumption) hzz | exact NR.ext (by assumption) hzz.1 | replace hzz := hzz.1))) (wh.out.small (by omega)) (wu2.out.small (by omega)) eu2 Eu2.out (weu2.out.small (by omega))).mono fun _ _ h => RetN.isN hwW h) ?_; intro n24 p24 l24 c24 hn24; refine F_put ?_
      repeat (first | refine F_s ?_ | refine F_r ?_)
      refine F_num wr (ofZ eu3) (by rfl) (by rfl) (by intro W hW; (try dsimp only at hW); have hwW : wr.heap.size ≤ W.heap.size := (by have hzz := hW; (repeat (first | exact Nat.le_of_succ_le hzz.2.1 | exact Nat.le_of_succ_le hzz.1.2.1 | replace hzz := hzz.1))); go_simp; exact (meet_sub eu1 eu2 n22 n24 p22 p24 l22 c22 l24 c24 W (by have hzz := hW; (try dsimp only at hzz); (repeat (first | exact hzz.2 | exact hzz.1 | exact NR.ext (by assumption) hzz | exact NR.ext (by assumption) hzz.1 | replace hzz := hzz.1))) (by have hzz := hW; (try dsimp only at hzz); (repeat (first | exact hzz.2 | exact hzz.1 | exact NR.ext (by assumption) hzz | exact NR.ext (by assumption) hzz.1 | replace hzz := hzz.1))) (weu1.out.small (by omega)) (weu2.out.small (by omega)) eu3 Eu3.out (weu3.out.small (by omega))).mono fun _ _ h => RetN.isN hwW h) ?_; intro n25 p25 l25 c25 hn25; refine F_put ?_
      repeat (first | refine F_s ?_ | refine F_r ?_)
      (refine F_call (v := .int .i64 u2) (by rfl) (by rfl) ?_ ?_; (· (intro W hW; (try dsimp only at hW); go_simp; refine (Cu2.out _).mono ?_; rintro e w' ⟨rfl, hx⟩; exact ⟨_, rfl, rfl, hx⟩))); refine F_put ?_
      repeat (first | refine F_s ?_ | refine F_r ?_)
      refine F_num wr (ofZ u2) (by rfl) (by rfl) (by intro W hW; (try dsimp only at hW); have hwW : wr.heap.size ≤ W.heap.size := (by have hzz := hW; (repeat (first | exact Nat.le_of_succ_le hzz.2.1 | exact Nat.le_of_succ_le hzz.1.2.1 | replace hzz := hzz.1))); go_simp; exact (meet_of u2 _ iu2.out).mono fun _ _ h => RetN.isN hwW h) ?_; intro n26 p26 l26 c26 hn26; refine F_put ?_
      repeat (first | refine F_s ?_ | refine F_r ?_)
      refine F_buildS1 _ (by rfl) (by rfl) (by rfl) n25 n26 p25 p26 l25 c25 l26 c26 (by rfl) ?_
      intro gb _
      refine F_put ?_
      refine F_appendS _ _ (fun W => Ext V4 W ∧ wr.heap.size + 1 ≤ W.heap.size ∧ (W.cell? ⟨w.heap.size, 0, none⟩ = some (.int .i64 px) ∧ W.cell? ⟨w.heap.size, 1, none⟩ = some (.int .i64 py) ∧ W.cell? ⟨w.heap.size, 2, none⟩ = some (.int .i64 qx) ∧ W.cell? ⟨w.heap.size, 3, none⟩ = some (.int .i64 qy) ∧ W.cell? ⟨w.heap.size + 1, 0, none⟩ = some (.int .i64 cx) ∧ W.cell? ⟨w.heap.size + 1, 1, none⟩ = some (.int .i64 cy) ∧ W.cell? ⟨w.heap.size + 1, 2, none⟩ = some (.int .i64 r) ∧ W.cell? ⟨w.heap.size + 1, 3, none⟩ = some (.int .i64 ux) ∧ W.cell? ⟨w.heap.size + 1, 4, none⟩ = some (.int .i64 uy) ∧ W.cell? ⟨w.heap.size + 1, 5, none⟩ = some (.int .i64 vx) ∧ W.cell? ⟨w.heap.size + 1, 6, none⟩ = some (.int .i64 vy) ∧ W.cell? ⟨g, 0, none⟩ = some (.int .i64 (px-cx)) ∧ W.cell? ⟨g, 1, none⟩ = some (.int .i64 (py-cy)) ∧ W.cell? ⟨g2, 0, none⟩ = some (.int .i64 (qx-px)) ∧ W.cell? ⟨g2, 1, none⟩ = some (.int .i64 (qy-py)) ∧ W.cell? ⟨g3, 0, none⟩ = some (.bool n1) ∧ W.cell? ⟨g3, 1, none⟩ = some (.slice p1 l1 c1) ∧ W.cell? ⟨g4, 0, none⟩ = some (.bool n2) ∧ W.cell? ⟨g4, 1, none⟩ = some (.slice p2 l2 c2) ∧ W.cell? ⟨g6, 0, none⟩ = some (.bool n10) ∧ W.cell? ⟨g6, 1, none⟩ = some (.slice p10 l10 c10) ∧ W.cell? ⟨wr.heap.size, 0, none⟩ = some (.int .i64 ux) ∧ W.cell? ⟨wr.heap.size, 1, none⟩ = some (.int .i64 uy) )) V4.heap.size (some ⟨G, 0, none⟩) 2 cc [(mh, 1), (sm, -1)] gb n25 n26 p25 p26 l25 c25 l26 c26 eu3 u2 (by rfl) (by rfl) (by rfl) (by rfl) (by rfl) (by omega) (fun W hW => ⟨hW.1.1.1.1.1.1.1.1, hW.1.1.1.1.1.1.1.2, hW.2, hW.1.1.2.behind hn25 hG.2, hW.1.2.behind hn26 hG.2, hW.1.1.1.1.1.1.1.1.1.size⟩) ?_ hSM (fun _ h => h) ?_
      · intro W W' h hO' hg
        obtain ⟨hx, hz, hc⟩ := h
        have hzx := hx.size
        have hbc : ∀ b o, b < W.heap.size → b ≠ G → W'.cell? ⟨b, o, none⟩ = W.cell? ⟨b, o, none⟩ := fun b o h1 h2 => World.cell?_of_block (hg.block b h1 (by show some b ≠ some G; simpa using h2))
        refine ⟨ext_grown hx hg (fun g h => (hO'.lt g h).1), Nat.le_trans hz hg.size, ?_⟩
        (try dsimp only at hc ⊢)
        simp (disch := omega) only [hbc]
        exact hc
      intro g' c'
      refine F_put ?_
      repeat (first | refine F_s ?_ | refine F_r ?_)
      rintro W6 ⟨⟨⟨hx6, hz6, hc6⟩, hO6⟩, _⟩
      go_wp2
      exact ⟨⟨hx6, .inr (.inl ⟨g', c', rfl, rfl, hO6⟩)⟩, by simp [intOf]⟩
    · have hG := hO.lt G rfl
      have hSM : FMono (fun W => Ext V4 W ∧ wr.heap.size + 1 ≤ W.heap.size ∧ (W.cell? ⟨w.heap.size, 0, none⟩ = some (.int .i64 px) ∧ W.cell? ⟨w.heap.size, 1, none⟩ = some (.int .i64 py) ∧ W.cell? ⟨w.heap.size, 2, none⟩ = some (.int .i64 qx) ∧ W.cell? ⟨w.heap.size, 3, none⟩ = some (.int .i64 qy) ∧ W.cell? ⟨w.heap.size + 1, 0, none⟩ = some (.int .i64 cx) ∧ W.cell? ⟨w.heap.size + 1, 1, none⟩ = some (.int .i64 cy) ∧ W.cell? ⟨w.heap.size + 1, 2, none⟩ = some (.int .i64 r) ∧ W.cell? ⟨w.heap.size + 1, 3, none⟩ = some (.int .i64 ux) ∧ W.cell? ⟨w.heap.size + 1, 4, none⟩ = some (.int .i64 uy) ∧ W.cell? ⟨w.heap.size + 1, 5, none⟩ = some (.int .i64 vx) ∧ W.cell? ⟨w.heap.size + 1, 6, none⟩ = some (.int .i64 vy) ∧ W.cell? ⟨g, 0, none⟩ = some (.int .i64 (px-cx)) ∧ W.cell? ⟨g, 1, none⟩ = some (.int .i64 (py-cy)) ∧ W.cell? ⟨g2, 0, none⟩ = some (.int .i64 (qx-px)) ∧ W.cell? ⟨g2, 1, none⟩ = some (.int .i64 (qy-py)) ∧ W.cell? ⟨g3, 0, none⟩ = some (.bool n1) ∧ W.cell? ⟨g3, 1, none⟩ = some (.slice p1 l1 c1) ∧ W.cell? ⟨g4, 0, none⟩ = some (.bool n2) ∧ W.cell? ⟨g4, 1, none⟩ = some (.slice p2 l2 c2) ∧ W.cell? ⟨g6, 0, none⟩ = some (.bool n10) ∧ W.cell? ⟨g6, 1, none⟩ = some (.slice p10 l10 c10) ∧ W.cell? ⟨wr.heap.size, 0, none⟩ = some (.int .i64 vx) ∧ W.cell? ⟨wr.heap.size, 1, none⟩ = some (.int .i64 vy) )) := by intro W W' h hb; obtain ⟨hx, hz, hc⟩ := h; have hbc : ∀ b o, b < W.heap.size → W'.cell? ⟨b, o, none⟩ = W.cell? ⟨b, o, none⟩ := fun b o h => hb.cell (p := ⟨b, o, none⟩) h; have hzx := hx.size; refine ⟨hx.step hb, Nat.le_trans hz hb.size, ?_⟩; (try dsimp only at hc ⊢); simp (disch := omega) only [hbc]; exact hc
      go_wp2_with fail
      refine wp_region_G (fun W => Ext V4 W ∧ wr.heap.size + 1 ≤ W.heap.size ∧ (W.cell? ⟨w.heap.size, 0, none⟩ = some (.int .i64 px) ∧ W.cell? ⟨w.heap.size, 1, none⟩ = some (.int .i64 py) ∧ W.cell? ⟨w.heap.size, 2, none⟩ = some (.int .i64 qx) ∧ W.cell? ⟨w.heap.size, 3, none⟩ = some (.int .i64 qy) ∧ W.cell? ⟨w.heap.size + 1, 0, none⟩ = some (.int .i64 cx) ∧ W.cell? ⟨w.heap.size + 1, 1, none⟩ = some (.int .i64 cy) ∧ W.cell? ⟨w.heap.size + 1, 2, none⟩ = some (.int .i64 r) ∧ W.cell? ⟨w.heap.size + 1, 3, none⟩ = some (.int .i64 ux) ∧ W.cell? ⟨w.heap.size + 1, 4, none⟩ = some (.int .i64 uy) ∧ W.cell? ⟨w.heap.size + 1, 5, none⟩ = some (.int .i64 vx) ∧ W.cell? ⟨w.heap.size + 1, 6, none⟩ = some (.int .i64 vy) ∧ W.cell? ⟨g, 0, none⟩ = some (.int .i64 (px-cx)) ∧ W.cell? ⟨g, 1, none⟩ = some (.int .i64 (py-cy)) ∧ W.cell? ⟨g2, 0, none⟩ = some (.int .i64 (qx-px)) ∧ W.cell? ⟨g2, 1, none⟩ = some (.int .i64 (qy-py)) ∧ W.cell? ⟨g3, 0, none⟩ = some (.bool n1) ∧ W.cell? ⟨g3, 1, none⟩ = some (.slice p1 l1 c1) ∧ W.cell? ⟨g4, 0, none⟩ = some (.bool n2) ∧ W.cell? ⟨g4, 1, none⟩ = some (.slice p2 l2 c2) ∧ W.cell? ⟨g6, 0, none⟩ = some (.bool n10) ∧ W.cell? ⟨g6, 1, none⟩ = some (.slice p10 l10 c10) ∧ W.cell? ⟨wr.heap.size, 0, none⟩ = some (.int .i64 vx) ∧ W.cell? ⟨wr.heap.size, 1, none⟩ = some (.int .i64 vy) )) (fun W => OwnS W V4.heap.size (some ⟨G, 0, none⟩) 3 cc [(mh, 1), (sm, -1), (eu3, u2)]) (by kernel_rfl) (by kernel_rfl) ?_ (hSM.and (fun _ _ h hb => h.ext hb)) ?_ ?_
      · refine ⟨⟨bxx, by simp, ?_⟩, hO.ext bxx⟩
        go_simp
      · intro W h
        have h2 : wr.heap.size + 1 ≤ W.heap.size := h.2.1
        simp
        omega
      repeat (first | refine F_s ?_ | refine F_r ?_)
      (refine F_call (v := .int .i64 v1) (by rfl) (by rfl) ?_ ?_; (· (intro W hW; (try dsimp only at hW); go_simp; refine (Cv1.out _).mono ?_; rintro e w' ⟨rfl, hx⟩; exact ⟨_, rfl, rfl, hx⟩))); refine F_put ?_
      repeat (first | refine F_s ?_ | refine F_r ?_)
      refine F_num wr (ofZ v1) (by rfl) (by rfl) (by intro W hW; (try dsimp only at hW); have hwW : wr.heap.size ≤ W.heap.size := (by have hzz := hW; (repeat (first | exact Nat.le_of_succ_le hzz.2.1 | exact Nat.le_of_succ_le hzz.1.2.1 | replace hzz := hzz.1))); go_simp; exact (meet_of v1 _ iv1.out).mono fun _ _ h => RetN.isN hwW h) ?_; intro n21 p21 l21 c21 hn21; refine F_put ?_
      repeat (first | refine F_s ?_ | refine F_r ?_)
      refine F_num wr (ofZ ev1) (by rfl) (by rfl) (by intro W hW; (try dsimp only at hW); have hwW : wr.heap.size ≤ W.heap.size := (by have hzz := hW; (repeat (first | exact Nat.le_of_succ_le hzz.2.1 | exact Nat.le_of_succ_le hzz.1.2.1 | replace hzz := hzz.1))); go_simp; exact (meet_mul S v1 n1 n21 p1 p21 l1 c1 l21 c21 W (by have hzz := hW; (try dsimp only at hzz); (repeat (first | exact hzz.2 | exact hzz.1 | exact NR.ext (by assumption) hzz | exact NR.ext (by assumption) hzz.1 | replace hzz := hzz.1))) (by have hzz := hW; (try dsimp only at hzz); (repeat (first | exact hzz.2 | exact hzz.1 | exact NR.ext (by assumption) hzz | exact NR.ext (by assumption) hzz.1 | replace hzz := hzz.1))) (wS.out.small (by omega)) (wv1.out.small (by omega)) ev1 Ev1.out (wev1.out.small (by omega))).mono fun _ _ h => RetN.isN hwW h) ?_; intro n22 p22 l22 c22 hn22; refine F_put ?_
      repeat (first | refine F_s ?_ | refine F_r ?_)
      (refine F_call (v := .int .i64 v2) (by rfl) (by rfl) ?_ ?_; (· (intro W hW; (try dsimp only at hW); go_simp; refine (Cv2.out _).mono ?_; rintro e w' ⟨rfl, hx⟩; exact ⟨_, rfl, rfl, hx⟩))); refine F_put ?_
      repeat (first | refine F_s ?_ | refine F_r ?_)
      refine F_num wr (ofZ v2) (by rfl) (by rfl) (by intro W hW; (try dsimp only at hW); have hwW : wr.heap.size ≤ W.heap.size := (by have hzz := hW; (repeat (first | exact Nat.le_of_succ_le hzz.2.1 | exact Nat.le_of_succ_le hzz.1.2.1 | replace hzz := hzz.1))); go_simp; exact (meet_of v2 _ iv2.out).mono fun _ _ h => RetN.isN hwW h) ?_; intro n23 p23 l23 c23 hn23; refine F_put ?_
      repeat (first | refine F_s ?_ | refine F_r ?_)
      refine F_num wr (ofZ ev2) (by rfl) (by rfl) (by intro W hW; (try dsimp only at hW); have hwW : wr.heap.size ≤ W.heap.size := (by have hzz := hW; (repeat (first | exact Nat.le_of_succ_le hzz.2.1 | exact Nat.le_of_succ_le hzz.1.2.1 | replace hzz := hzz.1))); go_simp; exact (meet_mul h v2 n2 n23 p2 p23 l2 c2 l23 c23 W (by have hzz := hW; (try dsimp only at hzz); (repeat (first | exact hzz.2 | exact hzz.1 | exact NR.ext (by assumption) hzz | exact NR.ext (by assumption) hzz.1 | replace hzz := hzz.1))) (by have hzz := hW; (try dsimp only at hzz); (repeat (first | exact hzz.2 | exact hzz.1 | exact NR.ext (by assumption) hzz | exact NR.ext (by assumption) hzz.1 | replace hzz := hzz.1))) (wh.out.small (by omega)) (wv2.out.small (by omega)) ev2 Ev2.out (wev2.out.small (by omega))).mono fun _ _ h => RetN.isN hwW h) ?_; intro n24 p24 l24 c24 hn24; refine F_put ?_
      repeat (first | refine F_s ?_ | refine F_r ?_)
      refine F_num wr (ofZ ev3) (by rfl) (by rfl) (by intro W hW; (try dsimp only at hW); have hwW : wr.heap.size ≤ W.heap.size := (by have hzz := hW; (repeat (first | exact Nat.le_of_succ_le hzz.2.1 | exact Nat.le_of_succ_le hzz.1.2.1 | replace hzz := hzz.1))); go_simp; exact (meet_sub ev1 ev2 n22 n24 p22 p24 l22 c22 l24 c24 W (by have hzz := hW; (try dsimp only at hzz); (repeat (first | exact hzz.2 | exact hzz.1 | exact NR.ext (by assumption) hzz | exact NR.ext (by assumption) hzz.1 | replace hzz := hzz.1))) (by have hzz := hW; (try dsimp only at hzz); (repeat (first | exact hzz.2 | exact hzz.1 | exact NR.ext (by assumption) hzz | exact NR.ext (by assumption) hzz.1 | replace hzz := hzz.1))) (wev1.out.small (by omega)) (wev2.out.small (by omega)) ev3 Ev3.out (wev3.out.small (by omega))).mono fun _ _ h => RetN.isN hwW h) ?_; intro n25 p25 l25 c25 hn25; refine F_put ?_
      repeat (first | refine F_s ?_ | refine F_r ?_)
      (refine F_call (v := .int .i64 v2) (by rfl) (by rfl) ?_ ?_; (· (intro W hW; (try dsimp only at hW); go_simp; refine (Cv2.out _).mono ?_; rintro e w' ⟨rfl, hx⟩; exact ⟨_, rfl, rfl, hx⟩))); refine F_put ?_
      repeat (first | refine F_s ?_ | refine F_r ?_)
      refine F_num wr (ofZ v2) (by rfl) (by rfl) (by intro W hW; (try dsimp only at hW); have hwW : wr.heap.size ≤ W.heap.size := (by have hzz := hW; (repeat (first | exact Nat.le_of_succ_le hzz.2.1 | exact Nat.le_of_succ_le hzz.1.2.1 | replace hzz := hzz.1))); go_simp; exact (meet_of v2 _ iv2.out).mono fun _ _ h => RetN.isN hwW h) ?_; intro n26 p26 l26 c26 hn26; refine F_put ?_
      repeat (first | refine F_s ?_ | refine F_r ?_)
      refine F_buildS1 _ (by rfl) (by rfl) (by rfl) n25 n26 p25 p26 l25 c25 l26 c26 (by rfl) ?_
      intro gb _
      refine F_put ?_
      refine F_appendS _ _ (fun W => Ext V4 W ∧ wr.heap.size + 1 ≤ W.heap.size ∧ (W.cell? ⟨w.heap.size, 0, none⟩ = some (.int .i64 px) ∧ W.cell? ⟨w.heap.size, 1, none⟩ = some (.int .i64 py) ∧ W.cell? ⟨w.heap.size, 2, none⟩ = some (.int .i64 qx) ∧ W.cell? ⟨w.heap.size, 3, none⟩ = some (.int .i64 qy) ∧ W.cell? ⟨w.heap.size + 1, 0, none⟩ = some (.int .i64 cx) ∧ W.cell? ⟨w.heap.size + 1, 1, none⟩ = some (.int .i64 cy) ∧ W.cell? ⟨w.heap.size + 1, 2, none⟩ = some (.int .i64 r) ∧ W.cell? ⟨w.heap.size + 1, 3, none⟩ = some (.int .i64 ux) ∧ W.cell? ⟨w.heap.size + 1, 4, none⟩ = some (.int .i64 uy) ∧ W.cell? ⟨w.heap.size + 1, 5, none⟩ = some (.int .i64 vx) ∧ W.cell? ⟨w.heap.size + 1, 6, none⟩ = some (.int .i64 vy) ∧ W.cell? ⟨g, 0, none⟩ = some (.int .i64 (px-cx)) ∧ W.cell? ⟨g, 1, none⟩ = some (.int .i64 (py-cy)) ∧ W.cell? ⟨g2, 0, none⟩ = some (.int .i64 (qx-px)) ∧ W.cell? ⟨g2, 1, none⟩ = some (.int .i64 (qy-py)) ∧ W.cell? ⟨g3, 0, none⟩ = some (.bool n1) ∧ W.cell? ⟨g3, 1, none⟩ = some (.slice p1 l1 c1) ∧ W.cell? ⟨g4, 0, none⟩ = some (.bool n2) ∧ W.cell? ⟨g4, 1, none⟩ = some (.slice p2 l2 c2) ∧ W.cell? ⟨g6, 0, none⟩ = some (.bool n10) ∧ W.cell? ⟨g6, 1, none⟩ = some (.slice p10 l10 c10) ∧ W.cell? ⟨wr.heap.size, 0, none⟩ = some (.int .i64 vx) ∧ W.cell? ⟨wr.heap.size, 1, none⟩ = some (.int .i64 vy) )) V4.heap.size (some ⟨G, 0, none⟩) 3 cc [(mh, 1), (sm, -1), (eu3, u2)] gb n25 n26 p25 p26 l25 c25 l26 c26 ev3 v2 (by rfl) (by rfl) (by rfl) (by rfl) (by rfl) (by omega) (fun W hW => ⟨hW.1.1.1.1.1.1.1.1, hW.1.1.1.1.1.1.1.2, hW.2, hW.1.1.2.behind hn25 hG.2, hW.1.2.behind hn26 hG.2, hW.1.1.1.1.1.1.1.1.1.size⟩) ?_ hSM (fun _ h => h) ?_
      · intro W W' h hO' hg
        obtain ⟨hx, hz, hc⟩ := h
        have hzx := hx.size
        have hbc : ∀ b o, b < W.heap.size → b ≠ G → W'.cell? ⟨b, o, none⟩ = W.cell? ⟨b, o, none⟩ := fun b o h1 h2 => World.cell?_of_block (hg.block b h1 (by show some b ≠ some G; simpa using h2))
        refine ⟨ext_grown hx hg (fun g h => (hO'.lt g h).1), Nat.le_trans hz hg.size, ?_⟩
        (try dsimp only at hc ⊢)
        simp (disch := omega) only [hbc]
        exact hc
      intro g' c'
      refine F_put ?_
      repeat (first | refine F_s ?_ | refine F_r ?_)
      rintro W6 ⟨⟨⟨hx6, hz6, hc6⟩, hO6⟩, _⟩
      go_wp2
      exact ⟨⟨hx6, .inr (.inr ⟨g', c', rfl, rfl, hO6⟩)⟩, by simp [intOf]⟩
    · obtain ⟨G', hG', hSR⟩ := hO.sr (by simp)
      cases hG'
      have w1g : Gd 1 := by unfold Gd; decide
      have w1m : Gd (-1) := by unfold Gd; decide
      go_wp2_with fail
      refine (meet_count dl [(mh, 1), (sm, -1), (eu3, u2), (ev3, v2)] n10 p10 l10 c10 G cc _ ((nD.ext hx4r).ext bxx) (hSR.ext bxx) (wdl.out.gd (by omega)) (fun i x y hi => ?_) (by simp)).mono ?_
      · rcases i with _ | _ | _ | _ | i <;> simp at hi
        · obtain ⟨rfl, rfl⟩ := hi; exact ⟨wmh.out.gd (by omega), w1g⟩
        · obtain ⟨rfl, rfl⟩ := hi; exact ⟨wsm.out.gd (by omega), w1m⟩
        · obtain ⟨rfl, rfl⟩ := hi; exact ⟨weu3.out.gd (by omega), wu2.out.gd (by omega)⟩
        · obtain ⟨rfl, rfl⟩ := hi; exact ⟨wev3.out.gd (by omega), wv2.out.gd (by omega)⟩
      rintro e w1 ⟨rfl, hxe⟩
      have hxz : Ext w w1 := Ext.step (Ext.step hxC hx4r) (Ext.step bxx hxe)
      go_wp2
      go_ret
      exact ⟨ret_int RES.out.symm, hxz⟩
end Go.Proofs.YtmmhiiiaccldmaaGreat
