/- The law NearSpots, by the kernel's walker. -/
import Derived.Test.YtighahcllmoajaaGreatJ34
import Derived.Test.YtighahcllmoajaaGreatJ32
set_option linter.unusedVariables false
set_option linter.unusedSimpArgs false

namespace Go.Proofs.YtighahcllmoajaaGreat
open Go.RowKit
def EdB (B : Int) (e : Ed) : Prop := (-B <= e.ax /\ e.ax <= B) /\ (-B <= e.ay /\ e.ay <= B) /\ (-B <= e.bx /\ e.bx <= B) /\ (-B <= e.by' /\ e.by' <= B) /\ (-B <= e.cx /\ e.cx <= B) /\ (-B <= e.cy /\ e.cy <= B)
def SpB (B D P : Int) (s : Sp) : Prop := (-B <= s.x /\ s.x <= B) /\ (-B <= s.y /\ s.y <= B) /\ (-D <= s.dx /\ s.dx <= D) /\ (-D <= s.dy /\ s.dy <= D) /\ (-P <= s.p /\ s.p <= P) /\ (-P <= s.q /\ s.q <= P) /\ (-B <= s.len /\ s.len <= B)
def spBV (s : Sp) (B D P : Nat) : V1 := ⟨true, [.i s.x B, .i s.y B, .i s.dx D, .i s.dy D, .i s.p P, .i s.q P, .i s.len B]⟩
theorem sp_bd {V W : World} {r : Nat -> Nat} {k : Nat} {s : Sp} {B D P : Nat} (h : SpB B D P s) : ∀ v, RepV V W r k (spV s) v -> RepV V W r k (spBV s B D P) v := fun v hr => by
 obtain ⟨h1, h2, h3, h4, h5, h6, h7⟩ := h
 unfold spV at hr
 simp only [rv_t, rl_i, rl_nil] at hr
 obtain ⟨_, ⟨⟨_, i0⟩, _, rfl, ⟨_, i1⟩, _, rfl, ⟨_, i2⟩, _, rfl, ⟨_, i3⟩, _, rfl, ⟨_, i4⟩, _, rfl, ⟨_, i5⟩, _, rfl, ⟨_, i6⟩, _, rfl, rfl⟩, rfl⟩ := hr
 exact rv_t.2 ⟨_, rl_i.2 ⟨⟨by omega, i0⟩, _, rfl, rl_i.2 ⟨⟨by omega, i1⟩, _, rfl, rl_i.2 ⟨⟨by omega, i2⟩, _, rfl, rl_i.2 ⟨⟨by omega, i3⟩, _, rfl, rl_i.2 ⟨⟨by omega, i4⟩, _, rfl, rl_i.2 ⟨⟨by omega, i5⟩, _, rfl, rl_i.2 ⟨⟨by omega, i6⟩, _, rfl, rfl⟩⟩⟩⟩⟩⟩⟩, rfl⟩
def dMadeS (B : Nat) : Con where
 f := 10
 g := fun | [⟨false, [.ds L]⟩] => some (.one (edV (mad6 L) 3 B), [EdB B (mad6 L)]) | _ => none
 ok := by
  intro args res ps h hp
  split at h <;> cases h
  rename_i L
  obtain ⟨h1, h2, h3, h4, h5, h6⟩ := hp.1
  have hk := kind_of (mad6_ok L)
  exact (dMade.ok [⟨false, [.ds L]⟩] _ _ rfl trivial).mono fun W x h => ed_bd rfl (fun _ => by omega) (fun z hz _ => by
   simp only [List.mem_cons, List.not_mem_nil, or_false] at hz
   rcases hz with rfl | rfl | rfl | rfl | rfl | rfl <;> omega) x h
def dAtS (B : Nat) : Con where
 f := 11
 g := fun | [⟨true, l⟩, ⟨false, [.ds L]⟩] => (toEd l).map fun e => (.one (ptV (at6 e L).1 (at6 e L).2 B), [e.ok = true /\ (-(B : Int) <= (at6 e L).1 /\ (at6 e L).1 <= B) /\ (-(B : Int) <= (at6 e L).2 /\ (at6 e L).2 <= B)]) | _ => none
 ok := by
  intro args res ps h hp
  split at h <;> try cases h
  rename_i l L
  cases he : toEd l with
  | none => simp [he] at h
  | some e =>
   simp only [he, Option.map_some, Option.some.injEq, Prod.mk.injEq] at h
   obtain ⟨rfl, rfl⟩ := h
   refine (dAt.ok [⟨true, l⟩, ⟨false, [.ds L]⟩] (.one (ptL (at6 e L))) [e.ok = true] (by show (toEd l).map _ = _; rw [he]; rfl) ⟨hp.1.1, trivial⟩).mono fun W x h => ?_
   obtain ⟨_, h1, h2⟩ := hp.1
   simp only [RepA, ptL, rv_t, rl_i, rl_nil] at h
   obtain ⟨_, ⟨⟨_, i0⟩, _, rfl, ⟨_, i1⟩, _, rfl, rfl⟩, rfl⟩ := h
   exact rv_t.2 ⟨_, rl_i.2 ⟨⟨by omega, i0⟩, _, rfl, rl_i.2 ⟨⟨by omega, i1⟩, _, rfl, rfl⟩⟩, rfl⟩
def cPointS (B D P : Nat) : Con where
 f := 13
 g := fun | [⟨true, l⟩, ⟨true, [.i x _, .i y _]⟩] => (toEd l).map fun e => (.tup [rtV (pointR e x y).1, spBV (pointR e x y).2 B D P], [SpB B D P (pointR e x y).2]) | _ => none
 ok := by
  intro args res ps h hp
  split at h <;> try cases h
  rename_i l x A y B'
  cases he : toEd l with
  | none => simp [he] at h
  | some e =>
   simp only [he, Option.map_some, Option.some.injEq, Prod.mk.injEq] at h
   obtain ⟨rfl, rfl⟩ := h
   refine (cPoint.ok [⟨true, l⟩, ⟨true, [.i x A, .i y B']⟩] (rsV (pointR e x y)) [] (by show (toEd l).map _ = _; rw [he]; rfl) trivial).mono fun W v h => ?_
   obtain ⟨xs, e1, a, ys, rfl, ha, b, zs, rfl, hb, hz⟩ := h
   exact ⟨_, e1, a, _, rfl, ha, b, _, rfl, sp_bd hp.1 _ hb, hz⟩
def KSp (B D P : Nat) : List Con := [cSan, dMadeS B, dAtS B, cPointS B D P, cRight, cCmpInt, cCmp, cRtOf, cRad, d02Of, d01Of, d01Mul]
theorem nat_mul {x y : Int} {A B : Nat} (h1 : x.natAbs <= A) (h2 : y.natAbs <= B) : (x * y).natAbs <= A * B := by rw [Int.natAbs_mul]; exact Nat.mul_le_mul h1 h2
theorem nat_div (x y : Int) : (x.tdiv y).natAbs <= x.natAbs := by rw [Int.natAbs_tdiv]; exact Nat.div_le_self _ _
theorem at6_bd (e : Ed) (L : List Int) {A R C : Int} (h : EdB A e) (hr : 0 <= radZ e /\ radZ e <= R) (hC : 3 * A + 24 * R + 122 <= C) : (-C <= (at6 e L).1 /\ (at6 e L).1 <= C) /\ (-C <= (at6 e L).2 /\ (at6 e L).2 <= C) := by
 obtain ⟨a1, a2, a3, a4, a5, a6⟩ := h
 have S : ∀ (j : Nat) (x y : Int), (-C + 1 <= x /\ x <= C - 1) -> (-C <= y /\ y <= C) -> (-C <= (shX L j x y).1 /\ (shX L j x y).1 <= C) /\ (-C <= (shX L j x y).2 /\ (shX L j x y).2 <= C) := fun j x y hx hy => by
  have := nV_bd L (j + 1) (m := 3) (by omega)
  unfold shX
  split <;> simp only <;> omega
 have D : ∀ u v : Int, (-A <= u /\ u <= A) -> (-A <= v /\ v <= A) -> -(2 * A) <= ((v - u) * nV L 3 5).tdiv 4 /\ ((v - u) * nV L 3 5).tdiv 4 <= 2 * A := fun u v hu hv => by
  have h3 := nV_bd L 3 (m := 5) (by omega)
  have h4 := nat_mul (x := v - u) (y := nV L 3 5) (A := (2 * A).toNat) (B := 4) (by omega) (by omega)
  have h5 : (((v - u) * nV L 3 5).tdiv 4).natAbs = ((v - u) * nV L 3 5).natAbs / 4 := Int.natAbs_tdiv _ _
  omega
 have G : ∀ (s i j : Int) (f : Int -> Int), (0 <= s /\ s < 2) -> (f i).natAbs <= 24 -> ((sgV s * f i * radZ e).tdiv (hyV j)).natAbs <= 24 * R.toNat := fun s i j f hs hf => by
  have h1 : (sgV s).natAbs <= 1 := by
   obtain rfl | rfl : s = 0 \/ s = 1 := by omega
   all_goals decide
  have h2 := nat_mul (nat_mul h1 hf) (show (radZ e).natAbs <= R.toNat by omega)
  have h3 := nat_div (sgV s * f i * radZ e) (hyV j)
  omega
 have b0 := nV_bd L 0 (m := 241) (by omega)
 have b1 := nV_bd L 1 (m := 241) (by omega)
 unfold at6
 split
 ·exact S _ _ _ (by omega) (by omega)
 split
 ·exact S _ _ _ (by omega) (by omega)
 split
 ·have d1 := D _ _ a1 a3
  have d2 := D _ _ a2 a4
  exact S _ _ _ (by omega) (by omega)
 split
 ·have h3 := nV_bd L 3 (m := 5) (by omega)
  have h5 := nV_bd L 5 (m := 2) (by omega)
  have h6 := nV_bd L 6 (m := 2) (by omega)
  have i1 : (lxV (nV L 3 5)).natAbs <= 24 /\ (lyV (nV L 3 5)).natAbs <= 24 := by
   generalize nV L 3 5 = i at *
   obtain rfl | rfl | rfl | rfl | rfl : i = 0 \/ i = 1 \/ i = 2 \/ i = 3 \/ i = 4 := by omega
   all_goals decide
  have g1 := G (nV L 5 2) (nV L 3 5) (nV L 4 5) lxV h5 i1.1
  have g2 := G (nV L 6 2) (nV L 3 5) (nV L 4 5) lyV h6 i1.2
  exact S _ _ _ (by omega) (by omega)
 split
 ·exact S _ _ _ (by omega) (by omega)
 ·exact S _ _ _ (by omega) (by omega)
theorem rot_sm (t : Nat) {r B : Int} (hr : -B <= r /\ r <= B) (hB : 0 <= B) : (-B <= (rot t (r, 0)).1 /\ (rot t (r, 0)).1 <= B) /\ (-B <= (rot t (r, 0)).2 /\ (rot t (r, 0)).2 <= B) := by
 have H : ∀ (t : Nat) (p : Int × Int), ((-B <= p.1 /\ p.1 <= B) /\ (-B <= p.2 /\ p.2 <= B)) -> ((-B <= (rot t p).1 /\ (rot t p).1 <= B) /\ (-B <= (rot t p).2 /\ (rot t p).2 <= B)) := by
  intro t p hp
  induction t with
  | zero => exact hp
  | succ t ih => simp only [rot]; omega
 exact H t (r, 0) ⟨hr, by constructor <;> simp only <;> omega⟩
theorem arc_sm {cx cy r t k : Int} (hx : -1000 <= cx /\ cx <= 1000) (hy : -1000 <= cy /\ cy <= 1000) (hr : -1000 <= r /\ r <= 1000) : EdB 2000 (arc6 cx cy r t k) := by
 have A : ∀ t, (-1000 <= (applyQ 0 0 t false r 0).1 /\ (applyQ 0 0 t false r 0).1 <= 1000) /\ (-1000 <= (applyQ 0 0 t false r 0).2 /\ (applyQ 0 0 t false r 0).2 <= 1000) := fun t => by
  rw [aq_rot]; exact rot_sm _ hr (by decide)
 have a1 := A t
 have a2 := A (t + if k = 3 then 3 else 1)
 unfold EdB arc6
 simp only
 omega
def LnB (e : Ed) : Prop := EdB 120 e /\ (e.bx - e.ax).natAbs <= 200 /\ (e.by' - e.ay).natAbs <= 200
theorem mad6_bd (L : List Int) : EdB 2000 (mad6 L) /\ ((mad6 L).k = 1 -> LnB (mad6 L)) := by
 have b1 := nV_bd L 1 (m := 201) (by omega)
 have b2 := nV_bd L 2 (m := 201) (by omega)
 have b3 := nV_bd L 3 (m := 201) (by omega)
 have b4 := nV_bd L 4 (m := 201) (by omega)
 have c3 := nV_bd L 3 (m := 41) (by omega)
 unfold mad6 LnB
 simp only
 split
 ·unfold EdB; simp only; omega
 split
 ·unfold EdB; simp only; omega
 split
 ·unfold EdB; simp only; omega
 split
 ·have d5 := nV_bd L 5 (m := 90) (by omega)
  have d7 := nV_bd L 7 (m := 2) (by omega)
  exact ⟨arc_sm (by omega) (by omega) (by omega), fun h => absurd h (by unfold arc6; simp only; omega)⟩
 ·have d3 := nV_bd L 3 (m := 5) (by omega)
  have d6 := nV_bd L 6 (m := 2) (by omega)
  refine ⟨arc_sm (by omega) (by omega) ?_, fun h => absurd h (by unfold arc6; simp only; omega)⟩
  obtain ⟨n, hn⟩ : ∃ n : Nat, nV L 3 5 = n := ⟨(nV L 3 5).toNat, by omega⟩
  rw [hn] at d3 ⊢
  obtain rfl | rfl | rfl | rfl | rfl : n = 0 \/ n = 1 \/ n = 2 \/ n = 3 \/ n = 4 := by omega
  all_goals decide
theorem ge0 {a s n d : Int} (h : 0 <= sideZ (a * d) (nz s n) (n * d)) : 0 <= cmpQ ⟨a, s, n, d⟩ (intQ 0) := by
 unfold cmpQ intQ cmpR
 simp only [Int.sub_zero]
 rw [show nz 1 0 = 0 from rfl]
 split
 ·omega
 ·rename_i h1
  rw [show sideZ (a * d) (nz s n) (n * d) = 0 by omega, Int.zero_mul]
  exact Int.le_refl 0
theorem nz_0 {s n : Int} (h : n = 0) : nz s n = 0 := by unfold nz; rw [if_pos h]
theorem nz_1 {s n : Int} (h : ¬ n = 0) : nz s n = s := by unfold nz; rw [if_neg h]
theorem sgn_p {x : Int} (h : 0 < x) : sgn x = 1 := by rcases sgn_cases x with ⟨h, g⟩ | ⟨h, g⟩ | ⟨h, g⟩ <;> omega
theorem sgn_m {x : Int} (h : x < 0) : sgn x = -1 := by rcases sgn_cases x with ⟨h, g⟩ | ⟨h, g⟩ | ⟨h, g⟩ <;> omega
theorem side_r (a : Int) (b : Int) : sideZ a b 0 = sgn a := by rw [side0]
theorem side_l0 (a c : Int) : sideZ a 0 c = sgn a := by
 unfold sideZ
 rw [show sgn 0 = 0 from rfl, Int.zero_mul, Int.mul_zero, if_pos (Int.le_refl 0)]
 rcases sgn_cases a with ⟨h, _⟩ | ⟨h, _⟩ | ⟨h, _⟩ <;> rw [h] <;> decide
theorem ge_pos {n d : Int} (hn : 0 <= n) (hd : 0 < d) : 0 <= cmpQ ⟨0, 1, n, d⟩ (intQ 0) := by
 refine ge0 ?_
 rw [Int.zero_mul]
 by_cases h : n = 0
 ·rw [nz_0 h, side_l0]; decide
 ·have h2 : 0 < n * d := Int.mul_pos (by omega) hd
  rw [nz_1 h]
  unfold sideZ
  rw [sgn_p h2, show sgn 0 = 0 from rfl, show sgn 1 = 1 from rfl, if_pos (by decide)]
  decide
theorem ge_out {r n : Int} (hr : 0 < r) (h : r * r <= n) : 0 <= cmpQ ⟨-r, 1, n, 1⟩ (intQ 0) := by
 have h0 : 0 < r * r := Int.mul_pos hr hr
 refine ge0 ?_
 rw [Int.mul_one, Int.mul_one, nz_1 (by omega)]
 unfold sideZ
 rw [sgn_m (show -r < 0 by omega), sgn_p (show 0 < n by omega), show sgn 1 = 1 from rfl, if_neg (by decide), Int.neg_mul_neg, Int.one_mul, Int.one_mul]
 unfold cmpZ
 split
 ·decide
 ·rw [if_pos (by omega)]; decide
theorem ge_in {r n : Int} (hr : 0 < r) (hn : 0 <= n) (h : n < r * r) : 0 <= cmpQ ⟨r, -1, n, 1⟩ (intQ 0) := by
 refine ge0 ?_
 rw [Int.mul_one, Int.mul_one]
 by_cases h0 : n = 0
 ·rw [nz_0 h0, side_l0, sgn_p hr]; decide
 ·rw [nz_1 h0]
  unfold sideZ
  rw [sgn_p hr, sgn_p (show 0 < n by omega), show sgn (-1) = -1 from rfl, if_neg (by decide), Int.neg_mul_neg, Int.one_mul, Int.one_mul, Int.one_mul]
  unfold cmpZ
  rw [if_neg (by omega)]
  split <;> decide
theorem point_ge {e : Ed} {x y : Int} (h : e.ok = true) : 0 <= cmpQ (pointQ e x y) (intQ 0) := by
 unfold pointQ
 split
 ·unfold lineQ
  split
  ·exact ge_pos (sqI_nn _ _) (by decide)
  split
  ·exact ge_pos (sqI_nn _ _) (by decide)
  ·exact ge_pos (sqz_nn _) (by omega)
 ·rename_i hk
  have hr := rad_pos h hk
  unfold arcQ
  split
  ·split
   ·exact ge_out hr (by assumption)
   ·exact ge_in hr (sqI_nn _ _) (by omega)
  split
  ·exact ge_pos (sqI_nn _ _) (by decide)
  ·exact ge_pos (sqI_nn _ _) (by decide)
theorem Fok.bP {f : FuncId} {args : List V1} {a b : Bool} (h : a = b) (H : Fok Tryz.prog f args (.one (blV a))) : Fok Tryz.prog f args (.one (blV b)) := h ▸ H
theorem eq2 {x y u v : Int} (h1 : x = u) (h2 : y = v) : eqZ [.i x, .i y] [.i u, .i v] = true := by simp [eqZ, eqS, h1, h2]
theorem eq2_F {x y u v : Int} (h : ¬ (x = u /\ y = v)) : eqZ [.i x, .i y] [.i u, .i v] = false := by simpa [eqZ, eqS] using h
theorem selfP {x : Q4} (hx : x.ok) : cmpQ x x = 0 := by
 obtain ⟨_, k1, r1⟩ := hx.root
 have h : Sg (cmpQ x x) (df x.rt x.rt) := by
  rw [<- cmpQ_rt hx hx]
  unfold cmpRt
  rw [r1]
  exact cmpRt_sg k1 k1
 have h2 := Sg.uniq h (Sg.eq h.neg fun k => by rw [neg_f, df_f]; grind)
 omega
theorem cmp_rt {r s : Rt} {x : Q4} (e : r = x.rt) (f : s = x.rt) (hx : x.ok) : (cmpRt r s == 0) = true := by
 rw [e, f, cmpQ_rt hx hx, selfP hx]; rfl
structure Dst (e : Ed) (x y : Int) (p : Rt × Sp) : Prop where
 rt : p.1 = (pointQ e x y).rt
 ok : (pointQ e x y).ok
 right : (!p.1.right) = false
 ge : decide (cmpRt p.1 ⟨0, 0, zero, ofZ 1⟩ < 0) = false
theorem dst {e : Ed} {x y : Int} (h : e.ok = true) (hx : Co x) (hy : Co y) : Dst e x y (pointR e x y) := by
 have hr := pointR_Q h (coordB_iff.2 ⟨hx, hy⟩)
 have hk := pointQ_ok h hx hy
 refine ⟨hr, hk, by rw [hr, hk.root.2.2]; rfl, ?_⟩
 rw [hr, <- intQ_rt, cmpQ_rt hk (intQ_ok 0)]
 have := point_ge (x := x) (y := y) h
 simpa using this
theorem point_in {e : Ed} {x y : Int} (h : e.ok = true) (hx : Co x) (hy : Co y) : pointR e x y = if e.k = 1 then lineR e x y else arcR e x y := by
 unfold pointR
 rw [h, coordB_iff.2 ⟨hx, hy⟩]
 rfl
theorem dR_end (x y a b : Int) : dR 0 1 ((x - a) * (x - a) + (y - b) * (y - b)) 1 = (endQ x y a b).rt := rfl
theorem end_i {a b : Int} : (endQ a b a b).n = 0 := by unfold endQ sqI; simp
section
set_option maxRecDepth 1000000
theorem spots_end (L M : List Int) (B D P : Nat) (hK : B = 500 /\ D = 200 /\ P = 80000 \/ B = c26 /\ D = 268435456 /\ P = 1) (hb : EdB B (mad6 L)) (ha : (-(B : Int) <= (at6 (mad6 L) M).1 /\ (at6 (mad6 L) M).1 <= B) /\ (-(B : Int) <= (at6 (mad6 L) M).2 /\ (at6 (mad6 L) M).2 <= B)) (hd : Dst (mad6 L) (at6 (mad6 L) M).1 (at6 (mad6 L) M).2 (pointR (mad6 L) (at6 (mad6 L) M).1 (at6 (mad6 L) M).2))
  (h : pointR (mad6 L) (at6 (mad6 L) M).1 (at6 (mad6 L) M).2 = endR (at6 (mad6 L) M).1 (at6 (mad6 L) M).2 (mad6 L).ax (mad6 L).ay \/ pointR (mad6 L) (at6 (mad6 L) M).1 (at6 (mad6 L) M).2 = endR (at6 (mad6 L) M).1 (at6 (mad6 L) M).2 (mad6 L).bx (mad6 L).by') :
  Fok Tryz.prog 7 [⟨false, [.ds L]⟩, ⟨false, [.ds M]⟩] (.one (blV true)) := by
 have o := mad6_ok L
 have hb' := hb
 obtain ⟨h1, h2, h3, h4, h5, h6⟩ := hb'
 have hP : 1 <= (P : Int) := by rcases hK with ⟨_, _, rfl⟩ | ⟨_, _, rfl⟩ <;> decide
 have hs : SpB B D P (pointR (mad6 L) (at6 (mad6 L) M).1 (at6 (mad6 L) M).2).2 := by
  rcases h with e | e <;> rw [e] <;> unfold endR spP SpB <;> simp only <;> omega
 have f1 : (pointR (mad6 L) (at6 (mad6 L) M).1 (at6 (mad6 L) M).2).2.dx = 0 /\ (pointR (mad6 L) (at6 (mad6 L) M).1 (at6 (mad6 L) M).2).2.dy = 0 := by rcases h with e | e <;> rw [e] <;> exact ⟨rfl, rfl⟩
 have f2 : ((pointR (mad6 L) (at6 (mad6 L) M).1 (at6 (mad6 L) M).2).2.q == 1) = true := by rcases h with e | e <;> rw [e] <;> rfl
 have f3 : ((pointR (mad6 L) (at6 (mad6 L) M).1 (at6 (mad6 L) M).2).2.p == 0) = true := by rcases h with e | e <;> rw [e] <;> rfl
 have f4 : ((pointR (mad6 L) (at6 (mad6 L) M).1 (at6 (mad6 L) M).2).2.len == 0) = true := by rcases h with e | e <;> rw [e] <;> rfl
 have f5 := eq2 f1.1 f1.2
 have HR : (cmpRt (pointR (mad6 L) (at6 (mad6 L) M).1 (at6 (mad6 L) M).2).1 (ofP 0 1 (ofZ (((at6 (mad6 L) M).1 - (pointR (mad6 L) (at6 (mad6 L) M).1 (at6 (mad6 L) M).2).2.x) * ((at6 (mad6 L) M).1 - (pointR (mad6 L) (at6 (mad6 L) M).1 (at6 (mad6 L) M).2).2.x) + ((at6 (mad6 L) M).2 - (pointR (mad6 L) (at6 (mad6 L) M).1 (at6 (mad6 L) M).2).2.y) * ((at6 (mad6 L) M).2 - (pointR (mad6 L) (at6 (mad6 L) M).1 (at6 (mad6 L) M).2).2.y))) (ofZ 1)).1 == 0) = true := by
  refine cmp_rt (x := pointQ (mad6 L) (at6 (mad6 L) M).1 (at6 (mad6 L) M).2) hd.rt ?_ hd.ok
  rw [<- hd.rt]
  rcases h with e | e <;> rw [e] <;> rfl
 by_cases hA : (pointR (mad6 L) (at6 (mad6 L) M).1 (at6 (mad6 L) M).2).2.x = (mad6 L).ax /\ (pointR (mad6 L) (at6 (mad6 L) M).1 (at6 (mad6 L) M).2).2.y = (mad6 L).ay
 ·have f6 := eq2 hA.1 hA.2
  rcases hK with ⟨rfl, rfl, rfl⟩ | ⟨rfl, rfl, rfl⟩
  ·exact Fok.bP HR (fok (KSp 500 200 80000) [false, false, true, true, true, true, true] [pP hb, pP (And.intro o ha), pP hs, pF hd.right, pF hd.ge, pT f5, pT f6, pT f2, pT f3, pT f4] (by kernel_rfl))
  ·exact Fok.bP HR (fok (KSp c26 268435456 1) [false, false, true, true, true, true, true] [pP hb, pP (And.intro o ha), pP hs, pF hd.right, pF hd.ge, pT f5, pT f6, pT f2, pT f3, pT f4] (by kernel_rfl))
 ·have f6 := eq2_F hA
  have hB : (pointR (mad6 L) (at6 (mad6 L) M).1 (at6 (mad6 L) M).2).2.x = (mad6 L).bx /\ (pointR (mad6 L) (at6 (mad6 L) M).1 (at6 (mad6 L) M).2).2.y = (mad6 L).by' := by
   rcases h with e | e
   ·exact absurd ⟨by rw [e]; rfl, by rw [e]; rfl⟩ hA
   ·rw [e]; exact ⟨rfl, rfl⟩
  have f7 := eq2 hB.1 hB.2
  rcases hK with ⟨rfl, rfl, rfl⟩ | ⟨rfl, rfl, rfl⟩
  ·exact Fok.bP HR (fok (KSp 500 200 80000) [false, false, true, false, true, true, true, true] [pP hb, pP (And.intro o ha), pP hs, pF hd.right, pF hd.ge, pT f5, pF f6, pT f7, pT f2, pT f3, pT f4] (by kernel_rfl))
  ·exact Fok.bP HR (fok (KSp c26 268435456 1) [false, false, true, false, true, true, true, true] [pP hb, pP (And.intro o ha), pP hs, pF hd.right, pF hd.ge, pT f5, pF f6, pT f7, pT f2, pT f3, pT f4] (by kernel_rfl))
theorem spots_arc (L M : List Int) (hb : EdB c26 (mad6 L)) (ha : (-(c26 : Int) <= (at6 (mad6 L) M).1 /\ (at6 (mad6 L) M).1 <= c26) /\ (-(c26 : Int) <= (at6 (mad6 L) M).2 /\ (at6 (mad6 L) M).2 <= c26)) (hd : Dst (mad6 L) (at6 (mad6 L) M).1 (at6 (mad6 L) M).2 (pointR (mad6 L) (at6 (mad6 L) M).1 (at6 (mad6 L) M).2))
  (hk : ((mad6 L).k == 1) = false) (hn : ¬ ((at6 (mad6 L) M).1 - (mad6 L).cx = 0 /\ (at6 (mad6 L) M).2 - (mad6 L).cy = 0)) (hr : 0 <= radZ (mad6 L) /\ radZ (mad6 L) <= c26)
  (h : (pointR (mad6 L) (at6 (mad6 L) M).1 (at6 (mad6 L) M).2) = (if radZ (mad6 L) * radZ (mad6 L) <= sqI ((at6 (mad6 L) M).1 - (mad6 L).cx) ((at6 (mad6 L) M).2 - (mad6 L).cy) then dR (-radZ (mad6 L)) 1 (sqI ((at6 (mad6 L) M).1 - (mad6 L).cx) ((at6 (mad6 L) M).2 - (mad6 L).cy)) 1 else dR (radZ (mad6 L)) (-1) (sqI ((at6 (mad6 L) M).1 - (mad6 L).cx) ((at6 (mad6 L) M).2 - (mad6 L).cy)) 1, ⟨(mad6 L).cx, (mad6 L).cy, (at6 (mad6 L) M).1 - (mad6 L).cx, (at6 (mad6 L) M).2 - (mad6 L).cy, 0, 0, radZ (mad6 L)⟩)) :
  Fok Tryz.prog 7 [⟨false, [.ds L]⟩, ⟨false, [.ds M]⟩] (.one (blV true)) := by
 have o := mad6_ok L
 have hb' := hb
 obtain ⟨h1, h2, h3, h4, h5, h6⟩ := hb'
 have hc : (c26 : Int) = 67108864 := rfl
 have hs : SpB c26 268435456 1 (pointR (mad6 L) (at6 (mad6 L) M).1 (at6 (mad6 L) M).2).2 := by
  rw [h]; unfold SpB; simp only; omega
 have f1 : (pointR (mad6 L) (at6 (mad6 L) M).1 (at6 (mad6 L) M).2).2.x = (mad6 L).cx /\ (pointR (mad6 L) (at6 (mad6 L) M).1 (at6 (mad6 L) M).2).2.y = (mad6 L).cy /\ (pointR (mad6 L) (at6 (mad6 L) M).1 (at6 (mad6 L) M).2).2.dx = (at6 (mad6 L) M).1 - (mad6 L).cx /\ (pointR (mad6 L) (at6 (mad6 L) M).1 (at6 (mad6 L) M).2).2.dy = (at6 (mad6 L) M).2 - (mad6 L).cy /\ (pointR (mad6 L) (at6 (mad6 L) M).1 (at6 (mad6 L) M).2).2.p = 0 /\ (pointR (mad6 L) (at6 (mad6 L) M).1 (at6 (mad6 L) M).2).2.q = 0 /\ (pointR (mad6 L) (at6 (mad6 L) M).1 (at6 (mad6 L) M).2).2.len = radZ (mad6 L) := by rw [h]; exact ⟨rfl, rfl, rfl, rfl, rfl, rfl, rfl⟩
 obtain ⟨g1, g2, g3, g4, g5, g6, g7⟩ := f1
 have e0 : eqZ [.i (pointR (mad6 L) (at6 (mad6 L) M).1 (at6 (mad6 L) M).2).2.dx, .i (pointR (mad6 L) (at6 (mad6 L) M).1 (at6 (mad6 L) M).2).2.dy] [.i 0, .i 0] = false := eq2_F (by rw [g3, g4]; exact hn)
 have e1 := eq2 g1 g2
 have e2 := eq2 g3 g4
 have e3 : ((pointR (mad6 L) (at6 (mad6 L) M).1 (at6 (mad6 L) M).2).2.len == radZ (mad6 L)) = true := by rw [g7]; simp
 have e4 : ((pointR (mad6 L) (at6 (mad6 L) M).1 (at6 (mad6 L) M).2).2.p == 0) = true := by rw [g5]; rfl
 have e5 : ((pointR (mad6 L) (at6 (mad6 L) M).1 (at6 (mad6 L) M).2).2.q == 0) = true := by rw [g6]; rfl
 cases hq : (cmpRt (pointR (mad6 L) (at6 (mad6 L) M).1 (at6 (mad6 L) M).2).1 (ofP (0 - radZ (mad6 L)) 1 (ofZ (((at6 (mad6 L) M).1 - (mad6 L).cx) * ((at6 (mad6 L) M).1 - (mad6 L).cx) + ((at6 (mad6 L) M).2 - (mad6 L).cy) * ((at6 (mad6 L) M).2 - (mad6 L).cy))) (ofZ 1)).1 == 0) with
 | true => exact fok (KSp c26 268435456 1) [false, false, false, false, true, true, true, true, true, true] [pP hb, pP (And.intro o ha), pP hs, pF hd.right, pF hd.ge, pF e0, pF hk, pP o, pT hq, pT e1, pT e2, pT e3, pT e4, pT e5] (by kernel_rfl)
 | false =>
  have hq2 : (cmpRt (pointR (mad6 L) (at6 (mad6 L) M).1 (at6 (mad6 L) M).2).1 (ofP (radZ (mad6 L)) (-1) (ofZ (((at6 (mad6 L) M).1 - (mad6 L).cx) * ((at6 (mad6 L) M).1 - (mad6 L).cx) + ((at6 (mad6 L) M).2 - (mad6 L).cy) * ((at6 (mad6 L) M).2 - (mad6 L).cy))) (ofZ 1)).1 == 0) = true := by
   by_cases hg : radZ (mad6 L) * radZ (mad6 L) <= sqI ((at6 (mad6 L) M).1 - (mad6 L).cx) ((at6 (mad6 L) M).2 - (mad6 L).cy)
   ·exfalso
    have : (cmpRt (pointR (mad6 L) (at6 (mad6 L) M).1 (at6 (mad6 L) M).2).1 (ofP (0 - radZ (mad6 L)) 1 (ofZ (((at6 (mad6 L) M).1 - (mad6 L).cx) * ((at6 (mad6 L) M).1 - (mad6 L).cx) + ((at6 (mad6 L) M).2 - (mad6 L).cy) * ((at6 (mad6 L) M).2 - (mad6 L).cy))) (ofZ 1)).1 == 0) = true := by
     refine cmp_rt hd.rt ?_ hd.ok
     rw [<- hd.rt, h, if_pos hg, Int.zero_sub]
     rfl
    rw [hq] at this
    cases this
   ·refine cmp_rt hd.rt ?_ hd.ok
    rw [<- hd.rt, h, if_neg hg]
    rfl
  exact Fok.bP hq2 (fok (KSp c26 268435456 1) [false, false, false, false, false, true, true, true, true, true] [pP hb, pP (And.intro o ha), pP hs, pF hd.right, pF hd.ge, pF e0, pF hk, pP o, pF hq, pT e1, pT e2, pT e3, pT e4, pT e5] (by kernel_rfl))
theorem foot_v (a b u v q t : Int) (hq : u * u + v * v = q) (ht : a * u + b * v = t) : (q * a - t * u) * (q * a - t * u) + (q * b - t * v) * (q * b - t * v) = q * ((u * b - v * a) * (u * b - v * a)) /\ (q * a - t * u) * u + (q * b - t * v) * v = 0 := by
 subst hq ht
 constructor <;> grind
theorem spots_mid (L M : List Int) (hb : EdB 500 (mad6 L)) (ha : (-500 <= (at6 (mad6 L) M).1 /\ (at6 (mad6 L) M).1 <= 500) /\ (-500 <= (at6 (mad6 L) M).2 /\ (at6 (mad6 L) M).2 <= 500)) (hd : Dst (mad6 L) (at6 (mad6 L) M).1 (at6 (mad6 L) M).2 (pointR (mad6 L) (at6 (mad6 L) M).1 (at6 (mad6 L) M).2))
  (hk : ((mad6 L).k == 1) = true) (hl : ((mad6 L).bx - (mad6 L).ax).natAbs <= 200 /\ ((mad6 L).by' - (mad6 L).ay).natAbs <= 200)
  (t q c : Int) (ht : ((at6 (mad6 L) M).1 - (mad6 L).ax) * ((mad6 L).bx - (mad6 L).ax) + ((at6 (mad6 L) M).2 - (mad6 L).ay) * ((mad6 L).by' - (mad6 L).ay) = t) (hq : sqI ((mad6 L).bx - (mad6 L).ax) ((mad6 L).by' - (mad6 L).ay) = q) (hc : ((mad6 L).bx - (mad6 L).ax) * ((at6 (mad6 L) M).2 - (mad6 L).ay) - ((mad6 L).by' - (mad6 L).ay) * ((at6 (mad6 L) M).1 - (mad6 L).ax) = c)
  (t0 : 0 < t) (tq : t < q)
  (h : (pointR (mad6 L) (at6 (mad6 L) M).1 (at6 (mad6 L) M).2) = (dR 0 1 (c * c) q, ⟨(mad6 L).ax, (mad6 L).ay, (mad6 L).bx - (mad6 L).ax, (mad6 L).by' - (mad6 L).ay, t, q, 0⟩)) :
  Fok Tryz.prog 7 [⟨false, [.ds L]⟩, ⟨false, [.ds M]⟩] (.one (blV true)) := by
 have o := mad6_ok L
 have hb' := hb
 obtain ⟨h1, h2, h3, h4, h5, h6⟩ := hb'
 have q1 := nat_mul hl.1 hl.1
 have q2 := nat_mul hl.2 hl.2
 have hq0 : q <= 80000 := by rw [<- hq]; unfold sqI; omega
 have hs : SpB ((500 : Nat) : Int) ((200 : Nat) : Int) ((80000 : Nat) : Int) (pointR (mad6 L) (at6 (mad6 L) M).1 (at6 (mad6 L) M).2).2 := by
  rw [h]; unfold SpB; simp only; omega
 have f1 : (pointR (mad6 L) (at6 (mad6 L) M).1 (at6 (mad6 L) M).2).2.x = (mad6 L).ax /\ (pointR (mad6 L) (at6 (mad6 L) M).1 (at6 (mad6 L) M).2).2.y = (mad6 L).ay /\ (pointR (mad6 L) (at6 (mad6 L) M).1 (at6 (mad6 L) M).2).2.dx = (mad6 L).bx - (mad6 L).ax /\ (pointR (mad6 L) (at6 (mad6 L) M).1 (at6 (mad6 L) M).2).2.dy = (mad6 L).by' - (mad6 L).ay /\ (pointR (mad6 L) (at6 (mad6 L) M).1 (at6 (mad6 L) M).2).2.p = t /\ (pointR (mad6 L) (at6 (mad6 L) M).1 (at6 (mad6 L) M).2).2.q = q /\ (pointR (mad6 L) (at6 (mad6 L) M).1 (at6 (mad6 L) M).2).2.len = 0 := by rw [h]; exact ⟨rfl, rfl, rfl, rfl, rfl, rfl, rfl⟩
 obtain ⟨g1, g2, g3, g4, g5, g6, g7⟩ := f1
 have hn : ¬ ((mad6 L).bx - (mad6 L).ax = 0 /\ (mad6 L).by' - (mad6 L).ay = 0) := fun ⟨a, b⟩ => by rw [a, b] at hq; have : sqI 0 0 = 0 := rfl; omega
 have e0 : eqZ [.i (pointR (mad6 L) (at6 (mad6 L) M).1 (at6 (mad6 L) M).2).2.dx, .i (pointR (mad6 L) (at6 (mad6 L) M).1 (at6 (mad6 L) M).2).2.dy] [.i 0, .i 0] = false := eq2_F (by rw [g3, g4]; exact hn)
 have e1 : (!eqZ [.i (pointR (mad6 L) (at6 (mad6 L) M).1 (at6 (mad6 L) M).2).2.x, .i (pointR (mad6 L) (at6 (mad6 L) M).1 (at6 (mad6 L) M).2).2.y] [.i (mad6 L).ax, .i (mad6 L).ay]) = false := by rw [eq2 g1 g2]; rfl
 have e2 : (!eqZ [.i (pointR (mad6 L) (at6 (mad6 L) M).1 (at6 (mad6 L) M).2).2.dx, .i (pointR (mad6 L) (at6 (mad6 L) M).1 (at6 (mad6 L) M).2).2.dy] [.i ((mad6 L).bx - (mad6 L).ax), .i ((mad6 L).by' - (mad6 L).ay)]) = false := by rw [eq2 g3 g4]; rfl
 have e3 : ((pointR (mad6 L) (at6 (mad6 L) M).1 (at6 (mad6 L) M).2).2.len != 0) = false := by rw [g7]; rfl
 have e4 : decide ((pointR (mad6 L) (at6 (mad6 L) M).1 (at6 (mad6 L) M).2).2.p <= 0) = false := by rw [g5]; exact decide_eq_false (by omega)
 have e5 : decide ((pointR (mad6 L) (at6 (mad6 L) M).1 (at6 (mad6 L) M).2).2.q <= (pointR (mad6 L) (at6 (mad6 L) M).1 (at6 (mad6 L) M).2).2.p) = false := by rw [g5, g6]; exact decide_eq_false (by omega)
 obtain ⟨k1, k2⟩ := foot_v ((at6 (mad6 L) M).1 - (mad6 L).ax) ((at6 (mad6 L) M).2 - (mad6 L).ay) ((mad6 L).bx - (mad6 L).ax) ((mad6 L).by' - (mad6 L).ay) q t hq ht
 rw [hc] at k1
 have e6 : (((pointR (mad6 L) (at6 (mad6 L) M).1 (at6 (mad6 L) M).2).2.q * ((at6 (mad6 L) M).1 - (pointR (mad6 L) (at6 (mad6 L) M).1 (at6 (mad6 L) M).2).2.x) - (pointR (mad6 L) (at6 (mad6 L) M).1 (at6 (mad6 L) M).2).2.p * (pointR (mad6 L) (at6 (mad6 L) M).1 (at6 (mad6 L) M).2).2.dx) * (pointR (mad6 L) (at6 (mad6 L) M).1 (at6 (mad6 L) M).2).2.dx + ((pointR (mad6 L) (at6 (mad6 L) M).1 (at6 (mad6 L) M).2).2.q * ((at6 (mad6 L) M).2 - (pointR (mad6 L) (at6 (mad6 L) M).1 (at6 (mad6 L) M).2).2.y) - (pointR (mad6 L) (at6 (mad6 L) M).1 (at6 (mad6 L) M).2).2.p * (pointR (mad6 L) (at6 (mad6 L) M).1 (at6 (mad6 L) M).2).2.dy) * (pointR (mad6 L) (at6 (mad6 L) M).1 (at6 (mad6 L) M).2).2.dy == 0) = true := by rw [g1, g2, g3, g4, g5, g6, k2]; rfl
 have hw : ((at6 (mad6 L) M).1 - (mad6 L).ax).natAbs <= 1000 /\ ((at6 (mad6 L) M).2 - (mad6 L).ay).natAbs <= 1000 := by omega
 have c1 := nat_mul hl.1 hw.2
 have c2 := nat_mul hl.2 hw.1
 have c3 : c.natAbs <= 400000 := by omega
 have c4 := nat_mul c3 c3
 have c5 := nat_mul (show q.natAbs <= 80000 by omega) c4
 have c6 := nat_mul (show q.natAbs <= 80000 by omega) (show q.natAbs <= 80000 by omega)
 have c7 : 0 <= c * c := sqz_nn c
 have c8 : 0 <= q * (c * c) := Int.mul_nonneg (by omega) c7
 have c9 : 0 < q * q := Int.mul_pos (by omega) (by omega)
 have okX : (⟨0, 1, c * c, q⟩ : Q4).ok := ⟨.inl rfl, c7, by show c * c < _; omega, by show 0 < q; omega, by show q < _; omega⟩
 have okY : (⟨0, 1, q * (c * c), q * q⟩ : Q4).ok := ⟨.inl rfl, c8, by show q * (c * c) < _; omega, c9, by show q * q < _; omega⟩
 have e7 : (ofP 0 1 (ofZ (((pointR (mad6 L) (at6 (mad6 L) M).1 (at6 (mad6 L) M).2).2.q * ((at6 (mad6 L) M).1 - (pointR (mad6 L) (at6 (mad6 L) M).1 (at6 (mad6 L) M).2).2.x) - (pointR (mad6 L) (at6 (mad6 L) M).1 (at6 (mad6 L) M).2).2.p * (pointR (mad6 L) (at6 (mad6 L) M).1 (at6 (mad6 L) M).2).2.dx) * ((pointR (mad6 L) (at6 (mad6 L) M).1 (at6 (mad6 L) M).2).2.q * ((at6 (mad6 L) M).1 - (pointR (mad6 L) (at6 (mad6 L) M).1 (at6 (mad6 L) M).2).2.x) - (pointR (mad6 L) (at6 (mad6 L) M).1 (at6 (mad6 L) M).2).2.p * (pointR (mad6 L) (at6 (mad6 L) M).1 (at6 (mad6 L) M).2).2.dx) + ((pointR (mad6 L) (at6 (mad6 L) M).1 (at6 (mad6 L) M).2).2.q * ((at6 (mad6 L) M).2 - (pointR (mad6 L) (at6 (mad6 L) M).1 (at6 (mad6 L) M).2).2.y) - (pointR (mad6 L) (at6 (mad6 L) M).1 (at6 (mad6 L) M).2).2.p * (pointR (mad6 L) (at6 (mad6 L) M).1 (at6 (mad6 L) M).2).2.dy) * ((pointR (mad6 L) (at6 (mad6 L) M).1 (at6 (mad6 L) M).2).2.q * ((at6 (mad6 L) M).2 - (pointR (mad6 L) (at6 (mad6 L) M).1 (at6 (mad6 L) M).2).2.y) - (pointR (mad6 L) (at6 (mad6 L) M).1 (at6 (mad6 L) M).2).2.p * (pointR (mad6 L) (at6 (mad6 L) M).1 (at6 (mad6 L) M).2).2.dy))) (ofZ ((pointR (mad6 L) (at6 (mad6 L) M).1 (at6 (mad6 L) M).2).2.q * (pointR (mad6 L) (at6 (mad6 L) M).1 (at6 (mad6 L) M).2).2.q))).2 = true := by
  rw [g1, g2, g3, g4, g5, g6, k1]
  have b : (85070591730234615865843651857942052864 * 4 : Int) < ((4294967296 ^ 8 : Nat) : Int) := by decide +kernel
  have := ofP_nat (add := 0) (s := 1) (n := (q * (c * c)).toNat) (d := (q * q).toNat) (by omega) (by omega) (by omega) (by omega)
  rw [Int.toNat_of_nonneg c8, Int.toNat_of_nonneg (by omega)] at this
  rw [this]
 have HR : (cmpRt (pointR (mad6 L) (at6 (mad6 L) M).1 (at6 (mad6 L) M).2).1 (ofP 0 1 (ofZ (((pointR (mad6 L) (at6 (mad6 L) M).1 (at6 (mad6 L) M).2).2.q * ((at6 (mad6 L) M).1 - (pointR (mad6 L) (at6 (mad6 L) M).1 (at6 (mad6 L) M).2).2.x) - (pointR (mad6 L) (at6 (mad6 L) M).1 (at6 (mad6 L) M).2).2.p * (pointR (mad6 L) (at6 (mad6 L) M).1 (at6 (mad6 L) M).2).2.dx) * ((pointR (mad6 L) (at6 (mad6 L) M).1 (at6 (mad6 L) M).2).2.q * ((at6 (mad6 L) M).1 - (pointR (mad6 L) (at6 (mad6 L) M).1 (at6 (mad6 L) M).2).2.x) - (pointR (mad6 L) (at6 (mad6 L) M).1 (at6 (mad6 L) M).2).2.p * (pointR (mad6 L) (at6 (mad6 L) M).1 (at6 (mad6 L) M).2).2.dx) + ((pointR (mad6 L) (at6 (mad6 L) M).1 (at6 (mad6 L) M).2).2.q * ((at6 (mad6 L) M).2 - (pointR (mad6 L) (at6 (mad6 L) M).1 (at6 (mad6 L) M).2).2.y) - (pointR (mad6 L) (at6 (mad6 L) M).1 (at6 (mad6 L) M).2).2.p * (pointR (mad6 L) (at6 (mad6 L) M).1 (at6 (mad6 L) M).2).2.dy) * ((pointR (mad6 L) (at6 (mad6 L) M).1 (at6 (mad6 L) M).2).2.q * ((at6 (mad6 L) M).2 - (pointR (mad6 L) (at6 (mad6 L) M).1 (at6 (mad6 L) M).2).2.y) - (pointR (mad6 L) (at6 (mad6 L) M).1 (at6 (mad6 L) M).2).2.p * (pointR (mad6 L) (at6 (mad6 L) M).1 (at6 (mad6 L) M).2).2.dy))) (ofZ ((pointR (mad6 L) (at6 (mad6 L) M).1 (at6 (mad6 L) M).2).2.q * (pointR (mad6 L) (at6 (mad6 L) M).1 (at6 (mad6 L) M).2).2.q))).1 == 0) = true := by
  rw [g1, g2, g3, g4, g5, g6, k1, h]
  show (cmpRt (⟨0, 1, c * c, q⟩ : Q4).rt (⟨0, 1, q * (c * c), q * q⟩ : Q4).rt == 0) = true
  rw [cmpQ_rt okX okY, (simQ.mul (show 0 < q by omega) 0 1 (c * c) q _).2, selfP okX]
  rfl
 exact Fok.bP HR (fok (KSp 500 200 80000) [false, false, false, true, false, false, false, false, false, true, true] [pP hb, pP (And.intro o ha), pP hs, pF hd.right, pF hd.ge, pF e0, pT hk, pF e1, pF e3, pF e4, pF e5, pF e2, pT e6, pT e7] (by kernel_rfl))
theorem EdB.up {A B : Int} {e : Ed} (h : EdB A e) (hh : A <= B) : EdB B e := by unfold EdB at *; omega
theorem nearSpots_ok (L M : List Int) : Fok Tryz.prog 7 [⟨false, [.ds L]⟩, ⟨false, [.ds M]⟩] (.one (blV true)) := by
 have o := mad6_ok L
 obtain ⟨hb, hl⟩ := mad6_bd L
 by_cases hk : (mad6 L).k = 1
 ·obtain ⟨hb, hx, hy⟩ := hl hk
  have hr := radZ_line hk
  have ha := at6_bd (mad6 L) M (A := 120) (R := 0) (C := 500) hb (by omega) (by decide)
  have cx : Co (at6 (mad6 L) M).1 := by unfold Co; omega
  have cy : Co (at6 (mad6 L) M).2 := by unfold Co; omega
  have hd := dst o cx cy
  have hp := point_in o cx cy
  rw [if_pos hk] at hp
  have hb2 := hb.up (show (120 : Int) <= ((500 : Nat) : Int) by decide)
  unfold lineR at hp
  by_cases h1 : ((at6 (mad6 L) M).1 - (mad6 L).ax) * ((mad6 L).bx - (mad6 L).ax) + ((at6 (mad6 L) M).2 - (mad6 L).ay) * ((mad6 L).by' - (mad6 L).ay) <= 0
  ·rw [if_pos h1] at hp
   exact spots_end L M 500 200 80000 (.inl ⟨rfl, rfl, rfl⟩) hb2 ha hd (.inl hp)
  rw [if_neg h1] at hp
  by_cases h2 : sqI ((mad6 L).bx - (mad6 L).ax) ((mad6 L).by' - (mad6 L).ay) <= ((at6 (mad6 L) M).1 - (mad6 L).ax) * ((mad6 L).bx - (mad6 L).ax) + ((at6 (mad6 L) M).2 - (mad6 L).ay) * ((mad6 L).by' - (mad6 L).ay)
  ·rw [if_pos h2] at hp
   exact spots_end L M 500 200 80000 (.inl ⟨rfl, rfl, rfl⟩) hb2 ha hd (.inr hp)
  rw [if_neg h2] at hp
  exact spots_mid L M hb2 ha hd (by simpa using hk) ⟨hx, hy⟩ _ _ _ rfl rfl rfl (by omega) (by omega) hp
 ·have hkb : ((mad6 L).k == 1) = false := by simpa using hk
  have hr : 0 <= radZ (mad6 L) /\ radZ (mad6 L) <= 4000 := by
   have := radZ_arc o hkb
   obtain ⟨h1, h2, h3, h4, h5, h6⟩ := hb
   omega
  have ha := at6_bd (mad6 L) M (A := 2000) (R := 4000) (C := (c26 : Int)) hb hr (by decide)
  have hc : (c26 : Int) = 67108864 := rfl
  have cx : Co (at6 (mad6 L) M).1 := by unfold Co; omega
  have cy : Co (at6 (mad6 L) M).2 := by unfold Co; omega
  have hd := dst o cx cy
  have hp := point_in o cx cy
  rw [if_neg hk] at hp
  have hb2 := hb.up (show (2000 : Int) <= ((c26 : Nat) : Int) by decide)
  unfold arcR at hp
  cases hq : inQ (mad6 L) ((at6 (mad6 L) M).1 - (mad6 L).cx) ((at6 (mad6 L) M).2 - (mad6 L).cy) with
  | true =>
   rw [hq, if_pos rfl] at hp
   refine spots_arc L M hb2 ha hd hkb (fun ⟨a, b⟩ => ?_) ⟨hr.1, by omega⟩ hp
   rw [a, b] at hq
   unfold inQ at hq
   simp at hq
  | false =>
   rw [hq, if_neg (by decide)] at hp
   refine spots_end L M c26 268435456 1 (.inr ⟨rfl, rfl, rfl⟩) hb2 ha hd ?_
   by_cases h : sqI ((at6 (mad6 L) M).1 - (mad6 L).bx) ((at6 (mad6 L) M).2 - (mad6 L).by') < sqI ((at6 (mad6 L) M).1 - (mad6 L).ax) ((at6 (mad6 L) M).2 - (mad6 L).ay)
   ·rw [if_pos h] at hp; exact .inr hp
   ·rw [if_neg h] at hp; exact .inl hp
end
end Go.Proofs.YtighahcllmoajaaGreat
