/- Contracts for the kernel's walker: whole numbers, vec.Side, meet.count. | Contracts: meet.bothLines, lineArc, bothArcs, by the kernel's walker. | Contracts: edge.On, meet.Count, meet.Edges, by the kernel's walker. | Plain: comparing right roots is an order. | Plain: spots, distances and nearest points, as near and etchantref08 have them. | Contracts for the kernel's walker: numbers, roots, points, edges. -/
import Derived.Test.YtighahcllmoajaaGreatJ22
import Derived.Test.YtighahcllmoajaaGreatJ28
import Derived.Test.YtighahcllmoajaaGreatJ17
import Derived.Test.YtighahcllmoajaaGreatJ23
import Derived.Test.YtighahcllmoajaaGreatJ21
set_option linter.unusedVariables false
set_option linter.unusedSimpArgs false

namespace Go.Proofs.YtighahcllmoajaaGreat
open Go.RowKit
def c640 : Nat := 4294967296 ^ 20
def c2048 : Nat := 4294967296 ^ 64
def ziV (z : Int) (B : Nat) : V1 := ⟨true, [.d (.zi z B)]⟩
section
variable {V W : World} {r : Nat -> Nat} {k : Nat}
theorem rl_zi {z : Int} {B : Nat} {l : List It} {cs : List Value} : RepL V W r k (.d (.zi z B) :: l) cs ↔ z.natAbs <= B /\ ∃ n p m c, NR W n p m c (ofZ z) /\ ∃ d, cs = .bool n :: .slice p m c :: d /\ RepL V W r k l d :=
 ⟨fun ⟨c, d, e, ⟨⟨n, p, m, c', h1, h2⟩, hb⟩, h3⟩ => ⟨hb, n, p, m, c', h2, d, by rw [e, h1]; rfl, h3⟩, fun ⟨hb, n, p, m, c', h, d, e, h3⟩ => ⟨[_, _], d, e, ⟨⟨n, p, m, c', rfl, h⟩, hb⟩, h3⟩⟩
end
theorem gv_zi {z : Int} {B : Nat} {w : World} {e : Ending} {w' : World} (hb : z.natAbs <= B) (h : RetN w (ofZ z) e w') : Gv (.one (ziV z B)) w e w' := by
 obtain ⟨n, p, l, c, rfl, h1, _, h2⟩ := h
 exact ⟨_, rfl, rv_t.2 ⟨_, rl_zi.2 ⟨hb, n, p, l, c, h1, [], rfl, rfl⟩, rfl⟩, h2⟩
theorem gv_zb {z : Int} {B : Nat} {w : World} {e : Ending} {w' : World} (hb : z.natAbs <= B) (h : RetNum w (ofZ z, true) e w') : Gv (.tup [ziV z B, ⟨false, [.b true]⟩]) w e w' := by
 obtain ⟨n, p, l, c, rfl, h1, _, h2⟩ := h
 exact ⟨_, rfl, ⟨[_, _], rfl, rvs_cons.2 ⟨_, rv_t.2 ⟨_, rl_zi.2 ⟨hb, n, p, l, c, h1, [], rfl, rfl⟩, rfl⟩, _, rfl, rvs_cons.2 ⟨_, RepI.val (i := .b true) rfl, _, rfl, rfl⟩⟩⟩, h2⟩
theorem small_c {z : Int} {B : Nat} (h : z.natAbs <= B) (hB : B < c2048) : small z = true := by
 unfold small
 rw [decide_eq_true_eq]
 exact Nat.lt_of_le_of_lt h hB
def zOfC (f : FuncId) (H : ∀ (z : Int) (w : World), -9223372036854775808 <= z -> z <= 9223372036854775807 -> Calls Tryz.prog f #[.int .i64 z] w (RetN w (ofZ z))) : Con where
 f := f
 g := fun | [⟨false, [.i z B]⟩] => some (.one (ziV z B), []) | _ => none
 ok := by
  intro args res ps h _
  split at h <;> cases h
  intro W vals hv
  simp only [rvs_cons, rvs_nil, rv_i] at hv
  obtain ⟨_, ⟨⟨hb, h1, h2⟩, rfl⟩, _, rfl, rfl⟩ := hv
  exact (H _ W h1 h2).mono fun _ _ h => gv_zi hb h
def toZi : List It -> Option (Int × Nat)
 | [.d (.zi z B)] => some (z, B)
 | [.d (.num ⟨false, []⟩)] => some (0, 0)
 | _ => none
theorem toZi_rep {W : World} {l : List It} {z : Int} {B : Nat} {v : Value} (h : toZi l = some (z, B)) (hv : RepV W W (fun _ => 0) 0 ⟨true, l⟩ v) : z.natAbs <= B /\ ∃ n p m c, v = .agg #[.bool n, .slice p m c] /\ NR W n p m c (ofZ z) := by
 unfold toZi at h
 split at h <;> cases h
 ·simp only [rv_t, rl_zi, rl_nil] at hv
  obtain ⟨_, ⟨b1, n, p, l, c, h1, _, rfl, rfl⟩, rfl⟩ := hv
  exact ⟨b1, n, p, l, c, rfl, h1⟩
 ·simp only [rv_t, rl_num, rl_nil] at hv
  obtain ⟨_, ⟨n, p, l, c, h1, _, rfl, rfl⟩, rfl⟩ := hv
  exact ⟨Nat.le_refl 0, n, p, l, c, rfl, (show ofZ 0 = ⟨false, []⟩ by unfold ofZ; simp [digs_zero]) ▸ h1⟩
def zBinC (f : FuncId) (G : Nm -> Nm -> Nm × Bool) (O : Int -> Int -> Int) (Q : Nat -> Nat -> Nat) (q : Nat -> Nat -> Bool)
  (H : ∀ (a b : Nm) (na nb : Bool) (pa pb : Option Addr) (la ca lb cb : Nat) (w : World), NR w na pa la ca a -> NR w nb pb lb cb b -> Calls Tryz.prog f #[.agg #[.bool na, .slice pa la ca], .agg #[.bool nb, .slice pb lb cb]] w (RetNum w (G a b)))
  (hO : ∀ x y A B, q A B = true -> x.natAbs <= A -> y.natAbs <= B -> (O x y).natAbs <= Q A B /\ G (ofZ x) (ofZ y) = (ofZ (O x y), true)) : Con where
 f := f
 g := fun | [⟨true, l⟩, ⟨true, m⟩] => (match toZi l, toZi m with | some (x, A), some (y, B) => if q A B = true then some (.tup [ziV (O x y) (Q A B), ⟨false, [.b true]⟩], []) else none | _, _ => none) | _ => none
 ok := by
  intro args res ps h hp
  split at h <;> try cases h
  split at h <;> try cases h
  split at h <;> cases h
  rename_i x A y B hx hy hb
  intro W vals hv
  obtain ⟨v1, g1, l1, rfl, hv1⟩ := rvs_cons.1 hv
  obtain ⟨v2, g2, l2, rfl, hv2⟩ := rvs_cons.1 hv1
  cases hv2
  obtain ⟨b1, _, _, _, _, rfl, h1⟩ := toZi_rep hx g1
  obtain ⟨b2, _, _, _, _, rfl, h2⟩ := toZi_rep hy g2
  obtain ⟨b3, e⟩ := hO x y A B hb b1 b2
  exact (H _ _ _ _ _ _ _ _ _ _ W h1 h2).mono fun _ _ h => gv_zb b3 (e ▸ h)
theorem zmul_c (x y : Int) (A B : Nat) (h : decide (A < c2048 /\ B < c2048 /\ A * B < c2048) = true) (b1 : x.natAbs <= A) (b2 : y.natAbs <= B) : (x * y).natAbs <= A * B /\ mulP (ofZ x) (ofZ y) = (ofZ (x * y), true) := by
 obtain ⟨h1, h2, h3⟩ := of_decide_eq_true h
 have b3 : (x * y).natAbs <= A * B := by rw [Int.natAbs_mul]; exact Nat.mul_le_mul b1 b2
 exact ⟨b3, mulP_small' (small_c b1 h1) (small_c b2 h2) (small_c b3 h3)⟩
theorem zsub_c (x y : Int) (A B : Nat) (h : decide (A + B < c2048) = true) (b1 : x.natAbs <= A) (b2 : y.natAbs <= B) : (x - y).natAbs <= A + B /\ subP (ofZ x) (ofZ y) = (ofZ (x - y), true) := by
 have h := of_decide_eq_true h
 have b3 : (x - y).natAbs <= A + B := by omega
 exact ⟨b3, subP_small (small_c b1 (by omega)) (small_c b2 (by omega)) (small_c b3 h)⟩
def cZOf : Con := zOfC 63 num_Of
def cZMul : Con := zBinC 108 mulP (· * ·) (· * ·) (fun A B => decide (A < c2048 /\ B < c2048 /\ A * B < c2048)) num_Mul zmul_c
def cZSub : Con := zBinC 176 subP (· - ·) (· + ·) (fun A B => decide (A + B < c2048)) num_Sub zsub_c
def toSr : Nat -> List It -> Option (List (Int × Int))
 | 0, [] => some []
 | n + 1, .d (.zi x A) :: .d (.zi y B) :: l => if A < c640 /\ B < c640 then (toSr n l).map ((x, y) :: ·) else none
 | _, _ => none
theorem toSr_rep {V : World} : ∀ {n : Nat} {l : List It} {L : List (Int × Int)} {cs : List Value}, toSr n l = some L -> RepF V l cs -> L.length = n /\ cs.length = n * 4 /\ (∀ (i : Nat) (x y : Int), L[i]? = some (x, y) -> Gd x /\ Gd y /\
  ∃ n1 p1 l1 c1 n2 p2 l2 c2, cs[i * 4]? = some (.bool n1) /\ cs[i * 4 + 1]? = some (.slice p1 l1 c1) /\ cs[i * 4 + 2]? = some (.bool n2) /\ cs[i * 4 + 3]? = some (.slice p2 l2 c2) /\ NR V n1 p1 l1 c1 (ofZ x) /\ NR V n2 p2 l2 c2 (ofZ y))
 | n, l, L, cs, h, hr => by
  unfold toSr at h
  split at h
  ·cases h
   cases hr
   exact ⟨rfl, rfl, fun i x y hi => by simp at hi⟩
  ·rename_i n x A y B l
   split at h
   ·rename_i hb
    cases hq : toSr n l with
    | none => simp [hq] at h
    | some M =>
     simp only [hq, Option.map_some, Option.some.injEq] at h
     subst h
     obtain ⟨c, d, e, ⟨⟨n1, p1, l1, c1, rfl, h1⟩, b1⟩, c', d', e', ⟨⟨n2, p2, l2, c2, rfl, h2⟩, b2⟩, h3⟩ := hr
     subst e' e
     obtain ⟨k1, k2, k3⟩ := toSr_rep hq h3
     refine ⟨by simp [k1], by simp [k2]; omega, fun i u v hi => ?_⟩
     cases i with
     | zero =>
      simp only [List.getElem?_cons_zero, Option.some.injEq, Prod.mk.injEq] at hi
      obtain ⟨rfl, rfl⟩ := hi
      exact ⟨Nat.lt_of_le_of_lt b1 hb.1, Nat.lt_of_le_of_lt b2 hb.2, n1, p1, l1, c1, n2, p2, l2, c2, rfl, rfl, rfl, rfl, h1, h2⟩
     | succ i =>
      simp only [List.getElem?_cons_succ] at hi
      obtain ⟨g1, g2, m1, q1, j1, e1, m2, q2, j2, e2, f0, f1, f2, f3, f4⟩ := k3 i u v hi
      refine ⟨g1, g2, m1, q1, j1, e1, m2, q2, j2, e2, ?_, ?_, ?_, ?_, f4⟩
      all_goals rw [show (i + 1) * 4 = i * 4 + 4 by omega]
      ·exact f0
      ·exact f1
      ·exact f2
      ·exact f3
   ·cases h
  ·cases h
def cMCount : Con where
 f := 146
 g := fun | [⟨true, [.d (.zi d D)]⟩, ⟨false, [.fs o l n z]⟩] => if (o = 0 /\ z = 4) /\ (0 < n /\ n <= 1000) /\ D < c640 then (toSr n l).map fun L => (.one (inV (countZ d L) 2), []) else none | _ => none
 ok := by
  intro args res ps h hp
  split at h <;> try cases h
  rename_i d D o l n z
  split at h <;> try cases h
  rename_i hb
  obtain ⟨⟨rfl, rfl⟩, hn, hD⟩ := hb
  cases hL : toSr n l with
  | none => simp [hL] at h
  | some L =>
   simp only [hL, Option.map_some, Option.some.injEq, Prod.mk.injEq] at h
   obtain ⟨rfl, rfl⟩ := h
   intro W vals hv
   simp only [rvs_cons, rvs_nil, rv_t, rl_zi, rl_nil] at hv
   obtain ⟨_, ⟨_, ⟨b1, n1, p1, l1, c1, h1, _, rfl, rfl⟩, rfl⟩, _, rfl, y, hy, _, rfl, rfl⟩ := hv
   obtain ⟨g, q, xs, T, e1, e2, e3, e4, e5, c, dd, e6, e7, e8⟩ := hy.scal
   obtain rfl : y = _ := by simpa using e1
   obtain ⟨k1, k2, k3⟩ := toSr_rep hL e7
   rw [List.drop_zero] at e6
   have hg : g < W.heap.size := (Array.getElem?_eq_some_iff.1 e2).1
   have hc : ∀ j v, c[j]? = some v -> W.cell? ⟨g, j, none⟩ = some v := fun j v hj => by
    rw [cell_of_row _ _ _ _ _ _ e2]
    have : xs.toList[j]? = some v := by
     rw [e6, List.getElem?_append_left (List.getElem?_eq_some_iff.1 hj).1]
     exact hj
    simpa using this
   have hSR : SR W g q L := ⟨by omega, by unfold maxLen at e4; omega, hg, fun i x y hi => by
    obtain ⟨_, _, n1, p1, l1, c1, n2, p2, l2, c2, f0, f1, f2, f3, f4⟩ := k3 i x y hi
    exact ⟨n1, p1, l1, c1, n2, p2, l2, c2, hc _ _ f0, hc _ _ f1, hc _ _ f2, hc _ _ f3, f4⟩⟩
   have hb := countZ_bd d L
   have := (meet_count d L n1 p1 l1 c1 g q W h1 hSR (Nat.lt_of_le_of_lt b1 hD) (fun i x y hi => ⟨(k3 i x y hi).1, (k3 i x y hi).2.1⟩) (by omega)).mono fun _ _ h => gv_in (z := countZ d L) (B := 2) ⟨by omega, by unfold I64; omega⟩ h
   rw [k1] at this
   exact this
theorem co_of {x : Int} {A : Nat} (h : x.natAbs <= A) (hA : A <= c26) : Co x := by unfold c26 at hA; unfold Co; omega
def cSide : Con where
 f := 141
 g := fun | [⟨true, [.i ax A, .i ay B]⟩, ⟨true, [.i bx C, .i b D]⟩, ⟨true, [.i px E, .i py F]⟩] => if (A <= c26 /\ B <= c26) /\ (C <= c26 /\ D <= c26) /\ (E <= c26 /\ F <= c26) then some (.one (inV (sideI ((bx - ax) * (py - ay) - (b - ay) * (px - ax))) 1), []) else none | _ => none
 ok := by
  intro args res ps h hp
  split at h <;> try cases h
  split at h <;> cases h
  rename_i ax A ay B bx C b D px E py F hb
  intro W vals hv
  simp only [rvs_cons, rvs_nil, rv_t, rl_i, rl_nil] at hv
  obtain ⟨_, ⟨_, ⟨⟨a1, _⟩, _, rfl, ⟨a2, _⟩, _, rfl, rfl⟩, rfl⟩, _, rfl, _, ⟨_, ⟨⟨a3, _⟩, _, rfl, ⟨a4, _⟩, _, rfl, rfl⟩, rfl⟩, _, rfl, _, ⟨_, ⟨⟨a5, _⟩, _, rfl, ⟨a6, _⟩, _, rfl, rfl⟩, rfl⟩, _, rfl, rfl⟩ := hv
  have c1 := co_of a1 hb.1.1
  have c2 := co_of a2 hb.1.2
  have d1 := (co_of a3 hb.2.1.1).sub c1
  have d2 := (co_of a4 hb.2.1.2).sub c2
  have d3 := (co_of a5 hb.2.2.1).sub c1
  have d4 := (co_of a6 hb.2.2.2).sub c2
  have hs := sideI_bd ((bx - ax) * (py - ay) - (b - ay) * (px - ax))
  exact (vec_Side ax ay bx b px py W d1.i64 d2.i64 d3.i64 d4.i64 (d1.mul64 d4) (d2.mul64 d3) (d1.cross d4 d2 d3)).mono fun _ _ h => gv_in ⟨by omega, by unfold I64; omega⟩ h
end Go.Proofs.YtighahcllmoajaaGreat

set_option maxRecDepth 100000
namespace Go.Proofs.YtighahcllmoajaaGreat
open Go.RowKit
def c27 : Nat := 134217728
def KM : List Con := [cZOf, cZMul, cZSub, cMCount, cSide]
def isV (B : Nat) (zs : List Int) : V1 := ⟨true, zs.map fun z => .i z B⟩
def toIs (B : Nat) (l : List It) : Option (List Int) := (asIs l).bind fun xs => if xs.all (fun x => decide (x.2 <= B)) = true then some (xs.map (·.1)) else none
theorem is_low {V W : World} {r : Nat -> Nat} {k : Nat} {B : Nat} {l : List It} {zs : List Int} (h : toIs B l = some zs) : ∀ v, RepV V W r k ⟨true, l⟩ v -> RepV V W r k (isV B zs) v := by
 intro v hv
 unfold toIs at h
 cases hx : asIs l with
 | none => simp [hx] at h
 | some xs =>
  simp only [hx, Option.bind_some] at h
  split at h <;> cases h
  rename_i ha
  simp only [List.all_eq_true, decide_eq_true_eq] at ha
  obtain ⟨cs, h1, h2, h3⟩ := hv
  obtain ⟨k1, k2⟩ := asIs_rep hx h1
  refine ⟨cs, ?_, h2, nofun⟩
  subst k1
  show RepL V W r k ((xs.map (·.1)).map fun z => It.i z B) _
  rw [List.map_map]
  exact rl_map (f := fun x : Int × Nat => It.i x.1 B) (g := fun x : Int × Nat => Value.int .i64 x.1) fun x hx => ⟨rfl, Nat.le_trans (k2 x hx).1 (ha x hx), (k2 x hx).2⟩
theorem lines_ok (px py qx qy rx ry sx sy : Int) : Fok Tryz.prog 110 [isV c26 [px, py, qx, qy], isV c26 [rx, ry, sx, sy]] (.one (inV (linesZ px py qx qy rx ry sx sy) lim)) := by
 unfold linesZ
 split
 ·rename_i h1
  split
  ·rename_i h2
   exact fok KM [true, true] [pT (ne_T h1), pT (gt_T h2)] (by kernel_rfl)
  ·rename_i h2
   split
   ·rename_i h3
    exact fok KM [true, false, true] [pT (ne_T h1), pF (gt_F h2), pT (gt_T h3)] (by kernel_rfl)
   ·rename_i h3
    exact fok KM [true, false, false] [pT (ne_T h1), pF (gt_F h2), pF (gt_F h3)] (by kernel_rfl)
 ·rename_i h1
  split
  ·rename_i h2
   exact fok KM [false, true] [pF (ne_F h1), pT (ne_T h2)] (by kernel_rfl)
  ·rename_i h2
   split
   ·rename_i h3
    exact fok KM [false, false, true] [pF (ne_F h1), pF (ne_F h2), pT (decide_eq_true h3)] (by kernel_rfl)
   ·rename_i h3
    split
    ·rename_i h4
     exact fok KM [false, false, false, true] [pF (ne_F h1), pF (ne_F h2), pF (decide_eq_false h3), pT (bq_T h4)] (by kernel_rfl)
    ·rename_i h4
     exact fok KM [false, false, false, false] [pF (ne_F h1), pF (ne_F h2), pF (decide_eq_false h3), pF (bq_F h4)] (by kernel_rfl)
def cLines : Con where
 f := 110
 g := fun | [⟨true, l⟩, ⟨true, m⟩] => (match toIs c26 l, toIs c26 m with | some [px, py, qx, qy], some [rx, ry, sx, sy] => some (.one (inV (linesZ px py qx qy rx ry sx sy) 1), []) | _, _ => none) | _ => none
 ok := by
  intro args res ps h hp
  split at h <;> try cases h
  split at h <;> cases h
  rename_i px py qx qy rx ry sx sy hl hm
  have b := linesZ_bd px py qx qy rx ry sx sy
  exact ((lines_ok _ _ _ _ _ _ _ _).bd (by omega)).pre fun W => rvs_1 (is_low hl) (rvs_1 (is_low hm) rvs_0)
def laG (px py qx qy cx cy r ux uy vx vy : Int) : LA :=
 ⟨(qx - px) * (qx - px) + (qy - py) * (qy - py), (px - cx) * (qx - px) + (py - cy) * (qy - py), (px - cx) * (px - cx) + (py - cy) * (py - cy), r, (px - cx) * ux + (py - cy) * uy, (qx - px) * ux + (qy - py) * uy, (px - cx) * vx + (py - cy) * vy, (qx - px) * vx + (qy - py) * vy⟩
theorem lineArc_ok (px py qx qy cx cy r ux uy vx vy : Int) : Fok Tryz.prog 111 [isV c27 [px, py, qx, qy], isV c27 [cx, cy, r, ux, uy, vx, vy]] (.one (inV (countZ (laG px py qx qy cx cy r ux uy vx vy).delta (laG px py qx qy cx cy r ux uy vx vy).list) lim)) :=
 fok KM [] [] (by kernel_rfl)
def cLineArc : Con where
 f := 111
 g := fun | [⟨true, l⟩, ⟨true, m⟩] => (match toIs c27 l, toIs c27 m with | some [px, py, qx, qy], some [cx, cy, r, ux, uy, vx, vy] => some (.one (inV (countZ (laG px py qx qy cx cy r ux uy vx vy).delta (laG px py qx qy cx cy r ux uy vx vy).list) 2), []) | _, _ => none) | _ => none
 ok := by
  intro args res ps h hp
  split at h <;> try cases h
  split at h <;> cases h
  rename_i px py qx qy cx cy r ux uy vx vy hl hm
  have b := countZ_bd (laG px py qx qy cx cy r ux uy vx vy).delta (laG px py qx qy cx cy r ux uy vx vy).list
  exact ((lineArc_ok _ _ _ _ _ _ _ _ _ _ _).bd (by omega)).pre fun W => rvs_1 (is_low hl) (rvs_1 (is_low hm) rvs_0)
def aaG (cx cy r ux uy vx vy dx dy q sx sy tx ty : Int) : AA :=
 ⟨(dx - cx) * (dx - cx) + (dy - cy) * (dy - cy), r, q, (dx - cx) * ux + (dy - cy) * uy, (dx - cx) * vx + (dy - cy) * vy, (dx - cx) * sx + (dy - cy) * sy, (dx - cx) * tx + (dy - cy) * ty,
  (0 - (dy - cy)) * ux + (dx - cx) * uy, (0 - (dy - cy)) * vx + (dx - cx) * vy, (0 - (dy - cy)) * sx + (dx - cx) * sy, (0 - (dy - cy)) * tx + (dx - cx) * ty⟩
def arcsG (cx cy r ux uy vx vy dx dy q sx sy tx ty : Int) : Int :=
 if (cx == dx && cy == dy) = true then sameZ (r == q) (ux == sx && uy == sy) (ux == tx && uy == ty) (vx == sx && vy == sy) (vx == tx && vy == ty)
 else countZ (aaG cx cy r ux uy vx vy dx dy q sx sy tx ty).delta (aaG cx cy r ux uy vx vy dx dy q sx sy tx ty).list
def bB (a b : Bool) : List Bool := cond a [true, b] [false]
def bH {x y a b : Bool} (_ : x = a) (_ : y = b) : List Bool := bB a b
def pB {x y : Bool} (a b : Bool) (ha : x = a) (hb : y = b) : List Pf := cond a [⟨x = a, ha⟩, ⟨y = b, hb⟩] [⟨x = a, ha⟩]
theorem arcsSame_ok (cx cy r ux uy vx vy dx dy q sx sy tx ty : Int) (hc : (cx == dx && cy == dy) = true) : Fok Tryz.prog 112 [isV c27 [cx, cy, r, ux, uy, vx, vy], isV c27 [dx, dy, q, sx, sy, tx, ty]] (.one (inV (sameZ (r == q) (ux == sx && uy == sy) (ux == tx && uy == ty) (vx == sx && vy == sy) (vx == tx && vy == ty)) lim)) := by
 generalize h0 : (r == q) = z
 generalize h1 : (ux == sx && uy == sy) = a
 generalize h2 : (ux == tx && uy == ty) = b
 generalize h3 : (vx == sx && vy == sy) = c
 generalize h4 : (vx == tx && vy == ty) = d
 cases z <;> cases a <;> cases b <;> cases c <;> cases d <;>
  exact fok KM (true :: (bH h1 h0 ++ bH h2 h0 ++ bH h3 h0 ++ bH h4 h0)) (pT hc :: (pB _ _ h1 h0 ++ pB _ _ h2 h0 ++ pB _ _ h3 h0 ++ pB _ _ h4 h0)) (by kernel_rfl)
theorem arcsApart_ok (cx cy r ux uy vx vy dx dy q sx sy tx ty : Int) (hc : (cx == dx && cy == dy) = false) : Fok Tryz.prog 112 [isV c27 [cx, cy, r, ux, uy, vx, vy], isV c27 [dx, dy, q, sx, sy, tx, ty]] (.one (inV (countZ (aaG cx cy r ux uy vx vy dx dy q sx sy tx ty).delta (aaG cx cy r ux uy vx vy dx dy q sx sy tx ty).list) lim)) :=
 fok KM [false] [pF hc] (by kernel_rfl)
theorem sameZ_bd (z a b c d : Bool) : -1 <= sameZ z a b c d /\ sameZ z a b c d <= 4 := by
 cases z <;> cases a <;> cases b <;> cases c <;> cases d <;> decide
def cArcs : Con where
 f := 112
 g := fun | [⟨true, l⟩, ⟨true, m⟩] => (match toIs c27 l, toIs c27 m with | some [cx, cy, r, ux, uy, vx, vy], some [dx, dy, q, sx, sy, tx, ty] => some (.one (inV (arcsG cx cy r ux uy vx vy dx dy q sx sy tx ty) 4), []) | _, _ => none) | _ => none
 ok := by
  intro args res ps h hp
  split at h <;> try cases h
  split at h <;> cases h
  rename_i cx cy r ux uy vx vy dx dy q sx sy tx ty hl hm
  refine Fok.pre ?_ fun W => rvs_1 (is_low hl) (rvs_1 (is_low hm) rvs_0)
  unfold arcsG
  cases hc : (cx == dx && cy == dy) with
  | true =>
   rw [if_pos rfl]
   have b := sameZ_bd (r == q) (ux == sx && uy == sy) (ux == tx && uy == ty) (vx == sx && vy == sy) (vx == tx && vy == ty)
   exact (arcsSame_ok _ _ _ _ _ _ _ _ _ _ _ _ _ _ hc).bd (by omega)
  | false =>
   rw [if_neg (by simp)]
   have b := countZ_bd (aaG cx cy r ux uy vx vy dx dy q sx sy tx ty).delta (aaG cx cy r ux uy vx vy dx dy q sx sy tx ty).list
   exact (arcsApart_ok _ _ _ _ _ _ _ _ _ _ _ _ _ _ hc).bd (by omega)
end Go.Proofs.YtighahcllmoajaaGreat

set_option maxRecDepth 100000
namespace Go.Proofs.YtighahcllmoajaaGreat
open Go.RowKit
theorem pt_c26 {V W : World} {r : Nat -> Nat} {k : Nat} {x y : Int} {A B : Nat} (h1 : A <= c26) (h2 : B <= c26) : ∀ v, RepV V W r k ⟨true, [.i x A, .i y B]⟩ v -> RepV V W r k (ptV x y c26) v := pt_low h1 h2
theorem on_1 (ax ay bx by' cx cy px py : Int) (ho : (Ed.mk 1 ax ay bx by' cx cy).ok = true) : Fok Tryz.prog 59 [edV ⟨1, ax, ay, bx, by', cx, cy⟩ 3 c26, ptV px py c26] (.one (blV (onE ⟨1, ax, ay, bx, by', cx, cy⟩ px py))) := by
 have E : onE ⟨1, ax, ay, bx, by', cx, cy⟩ px py = (inB (min ax bx) (min ay by') (max ax bx) (max ay by') px py && (sideI ((bx - ax) * (py - ay) - (by' - ay) * (px - ax)) == 0)) := by unfold onE; rw [ho]; rfl
 rw [E]
 unfold inB
 cases h0 : decide (min ax bx <= px) with
 | false => exact fok [cOfE, cSide] [true, false] [pT ho, pF h0] (by kernel_rfl)
 | true =>
  cases h1 : decide (px <= max ax bx) with
  | false => exact fok [cOfE, cSide] [true, true, false] [pT ho, pT h0, pF h1] (by kernel_rfl)
  | true =>
   cases h2 : decide (min ay by' <= py) with
   | false => exact fok [cOfE, cSide] [true, true, true, false] [pT ho, pT h0, pT h1, pF h2] (by kernel_rfl)
   | true =>
    cases h3 : decide (py <= max ay by') with
    | false => exact fok [cOfE, cSide] [true, true, true, true, false] [pT ho, pT h0, pT h1, pT h2, pF h3] (by kernel_rfl)
    | true =>
     exact fok [cOfE, cSide] [true, true, true, true, true] [pT ho, pT h0, pT h1, pT h2, pT h3] (by kernel_rfl)
theorem on_2 (ax ay bx by' cx cy px py : Int) (ho : (Ed.mk 2 ax ay bx by' cx cy).ok = true) : Fok Tryz.prog 59 [edV ⟨2, ax, ay, bx, by', cx, cy⟩ 3 c26, ptV px py c26] (.one (blV (onE ⟨2, ax, ay, bx, by', cx, cy⟩ px py))) := by
 have E : onE ⟨2, ax, ay, bx, by', cx, cy⟩ px py = (inB (min ax bx) (min ay by') (max ax bx) (max ay by') px py && (powerI (px - cx) (py - cy) (ax - cx) (ay - cy) == 0)) := by unfold onE; rw [ho]; rfl
 rw [E]
 unfold inB
 cases h0 : decide (min ax bx <= px) with
 | false => exact fok [cOfE, cSide] [true, false] [pT ho, pF h0] (by kernel_rfl)
 | true =>
  cases h1 : decide (px <= max ax bx) with
  | false => exact fok [cOfE, cSide] [true, true, false] [pT ho, pT h0, pF h1] (by kernel_rfl)
  | true =>
   cases h2 : decide (min ay by' <= py) with
   | false => exact fok [cOfE, cSide] [true, true, true, false] [pT ho, pT h0, pT h1, pF h2] (by kernel_rfl)
   | true =>
    cases h3 : decide (py <= max ay by') with
    | false => exact fok [cOfE, cSide] [true, true, true, true, false] [pT ho, pT h0, pT h1, pT h2, pF h3] (by kernel_rfl)
    | true =>
     exact fok [cOfE, cSide] [true, true, true, true, true] [pT ho, pT h0, pT h1, pT h2, pT h3] (by kernel_rfl)
theorem on_3 (ax ay bx by' cx cy px py : Int) (ho : (Ed.mk 3 ax ay bx by' cx cy).ok = true) : Fok Tryz.prog 59 [edV ⟨3, ax, ay, bx, by', cx, cy⟩ 3 c26, ptV px py c26] (.one (blV (onE ⟨3, ax, ay, bx, by', cx, cy⟩ px py))) := by
 have E : onE ⟨3, ax, ay, bx, by', cx, cy⟩ px py = (inB (min ax bx) (min ay by') (max ax bx) (max ay by') px py && (powerI (px - cx) (py - cy) (ax - cx) (ay - cy) == 0)) := by unfold onE; rw [ho]; rfl
 rw [E]
 unfold inB
 cases h0 : decide (min ax bx <= px) with
 | false => exact fok [cOfE, cSide] [true, false] [pT ho, pF h0] (by kernel_rfl)
 | true =>
  cases h1 : decide (px <= max ax bx) with
  | false => exact fok [cOfE, cSide] [true, true, false] [pT ho, pT h0, pF h1] (by kernel_rfl)
  | true =>
   cases h2 : decide (min ay by' <= py) with
   | false => exact fok [cOfE, cSide] [true, true, true, false] [pT ho, pT h0, pT h1, pF h2] (by kernel_rfl)
   | true =>
    cases h3 : decide (py <= max ay by') with
    | false => exact fok [cOfE, cSide] [true, true, true, true, false] [pT ho, pT h0, pT h1, pT h2, pF h3] (by kernel_rfl)
    | true =>
     exact fok [cOfE, cSide] [true, true, true, true, true] [pT ho, pT h0, pT h1, pT h2, pT h3] (by kernel_rfl)
def cOn : Con where
 f := 59
 g := fun | [⟨true, l⟩, ⟨true, [.i x A, .i y B]⟩] => if A <= c26 /\ B <= c26 then (toEd l).map fun e => (.one (blV (onE e x y)), [e.ok = true]) else none | _ => none
 ok := by
  intro args res ps h hp
  split at h <;> try cases h
  rename_i l x A y B
  split at h <;> try cases h
  rename_i hb
  cases he : toEd l with
  | none => simp [he] at h
  | some e =>
   simp only [he, Option.map_some, Option.some.injEq, Prod.mk.injEq] at h
   obtain ⟨rfl, rfl⟩ := h
   have ho := hp.1
   refine Fok.pre ?_ fun W => rvs_1 (ed_ok he ho) (rvs_1 (pt_c26 hb.1 hb.2) rvs_0)
   obtain ⟨k, ax, ay, bx, by', cx, cy⟩ := e
   rcases kind_of ho with h | h | h
   ·obtain rfl : k = 1 := h
    exact on_1 ax ay bx by' cx cy x y ho
   ·obtain rfl : k = 2 := h
    exact on_2 ax ay bx by' cx cy x y ho
   ·obtain rfl : k = 3 := h
    exact on_3 ax ay bx by' cx cy x y ho
def KC : List Con := [cChk, cRad, cOn, cLines, cLineArc, cArcs]
theorem arcsZ_eq (e f : Ed) : arcsZ e f = arcsG e.cx e.cy (radZ e) e.ux e.uy e.vx e.vy f.cx f.cy (radZ f) f.ux f.uy f.vx f.vy := by
 unfold arcsZ arcsG
 by_cases h : e.cx = f.cx /\ e.cy = f.cy
 ·rw [if_pos h, if_pos (by simpa using h)]
 ·rw [if_neg h, if_neg (by simpa using h)]
  unfold aaE aaG
  simp only [Int.zero_sub]
theorem pt_eq (e : Ed) : e.pt = (e.ax == e.bx && e.ay == e.by') := rfl
theorem countE_v {e f : Ed} (h1 : e.ok = true) (h2 : f.ok = true) : countE e f = if e.k = 1 then
  if e.pt then onZ f e.ax e.ay
  else if f.k = 1 then (if f.pt then onZ e f.ax f.ay else linesZ e.ax e.ay e.bx e.by' f.ax f.ay f.bx f.by')
  else crossZ e f
 else if f.k = 1 then (if f.pt then onZ e f.ax f.ay else crossZ f e)
 else arcsZ e f := by
 unfold countE
 rw [h1, h2]
 rfl
theorem rad_ne {e : Ed} (h : e.ok = true) (hk : ¬ e.k = 1) : radZ e ≠ 0 := by have := rad_pos h hk; omega
theorem neq_F {a b : Int} (h : a = b) : (a != b) = false := by simpa using h
theorem count_arc_arc (e f : Ed) (h1 : e.ok = true) (h2 : f.ok = true) (ke : ¬ e.k = 1) (kf : ¬ f.k = 1) : Fok Tryz.prog 68 [edV e 3 c26, edV f 3 c26] (.one (inV (countE e f) lim)) := by
 rw [show countE e f = arcsZ e f by rw [countE_v h1 h2]; simp only [if_neg ke, if_neg kf]]
 rw [arcsZ_eq]
 exact fok KC [false, false, true, true] [pF (chk_F h1), pF (chk_F h2), pT (ne_T ke), pP h1, pP (rad_ne h1 ke), pP (rad_ne h1 ke), pP (rad_ne h1 ke), pP (rad_ne h1 ke), pT (ne_T kf), pP h2, pP (rad_ne h2 kf), pP (rad_ne h2 kf), pP (rad_ne h2 kf), pP (rad_ne h2 kf)] (by kernel_rfl)
theorem count_arc_pt (e f : Ed) (h1 : e.ok = true) (h2 : f.ok = true) (ke : ¬ e.k = 1) (kf : f.k = 1) (pf : (f.ax == f.bx && f.ay == f.by') = true) : Fok Tryz.prog 68 [edV e 3 c26, edV f 3 c26] (.one (inV (countE e f) lim)) := by
 rw [show countE e f = onZ e f.ax f.ay by rw [countE_v h1 h2]; simp only [if_neg ke, if_pos kf, pt_eq f, pf, if_true]]
 unfold onZ
 cases ho : onE e f.ax f.ay with
 | true => exact fok KC [false, false, true, false, true, true] [pF (chk_F h1), pF (chk_F h2), pT (ne_T ke), pP h1, pP (rad_ne h1 ke), pP (rad_ne h1 ke), pP (rad_ne h1 ke), pP (rad_ne h1 ke), pF (neq_F kf), pT pf, pP h1, pT ho] (by kernel_rfl)
 | false => exact fok KC [false, false, true, false, true, false] [pF (chk_F h1), pF (chk_F h2), pT (ne_T ke), pP h1, pP (rad_ne h1 ke), pP (rad_ne h1 ke), pP (rad_ne h1 ke), pP (rad_ne h1 ke), pF (neq_F kf), pT pf, pP h1, pF ho] (by kernel_rfl)
theorem count_arc_line (e f : Ed) (h1 : e.ok = true) (h2 : f.ok = true) (ke : ¬ e.k = 1) (kf : f.k = 1) (pf : (f.ax == f.bx && f.ay == f.by') = false) : Fok Tryz.prog 68 [edV e 3 c26, edV f 3 c26] (.one (inV (countE e f) lim)) := by
 rw [show countE e f = crossZ f e by rw [countE_v h1 h2]; simp only [if_neg ke, if_pos kf, pt_eq f, pf, Bool.false_eq_true, if_false]]
 exact fok KC [false, false, true, false, false] [pF (chk_F h1), pF (chk_F h2), pT (ne_T ke), pP h1, pP (rad_ne h1 ke), pP (rad_ne h1 ke), pP (rad_ne h1 ke), pP (rad_ne h1 ke), pF (neq_F kf), pF pf] (by kernel_rfl)
theorem count_pt_arc (e f : Ed) (h1 : e.ok = true) (h2 : f.ok = true) (ke : e.k = 1) (pe : (e.ax == e.bx && e.ay == e.by') = true) (kf : ¬ f.k = 1) : Fok Tryz.prog 68 [edV e 3 c26, edV f 3 c26] (.one (inV (countE e f) lim)) := by
 rw [show countE e f = onZ f e.ax e.ay by rw [countE_v h1 h2]; simp only [if_pos ke, pt_eq e, pe, if_true]]
 unfold onZ
 cases ho : onE f e.ax e.ay with
 | true => exact fok KC [false, false, false, true, true, true] [pF (chk_F h1), pF (chk_F h2), pF (neq_F ke), pT pe, pT (ne_T kf), pP h2, pP (rad_ne h2 kf), pP (rad_ne h2 kf), pP (rad_ne h2 kf), pP (rad_ne h2 kf), pP h2, pT ho] (by kernel_rfl)
 | false => exact fok KC [false, false, false, true, true, false] [pF (chk_F h1), pF (chk_F h2), pF (neq_F ke), pT pe, pT (ne_T kf), pP h2, pP (rad_ne h2 kf), pP (rad_ne h2 kf), pP (rad_ne h2 kf), pP (rad_ne h2 kf), pP h2, pF ho] (by kernel_rfl)
theorem count_pt_pt (e f : Ed) (h1 : e.ok = true) (h2 : f.ok = true) (ke : e.k = 1) (pe : (e.ax == e.bx && e.ay == e.by') = true) (kf : f.k = 1) (pf : (f.ax == f.bx && f.ay == f.by') = true) : Fok Tryz.prog 68 [edV e 3 c26, edV f 3 c26] (.one (inV (countE e f) lim)) := by
 rw [show countE e f = onZ f e.ax e.ay by rw [countE_v h1 h2]; simp only [if_pos ke, pt_eq e, pe, if_true]]
 unfold onZ
 cases ho : onE f e.ax e.ay with
 | true => exact fok KC [false, false, false, true, false, true, true] [pF (chk_F h1), pF (chk_F h2), pF (neq_F ke), pT pe, pF (neq_F kf), pT pf, pP h2, pT ho] (by kernel_rfl)
 | false => exact fok KC [false, false, false, true, false, true, false] [pF (chk_F h1), pF (chk_F h2), pF (neq_F ke), pT pe, pF (neq_F kf), pT pf, pP h2, pF ho] (by kernel_rfl)
theorem count_pt_line (e f : Ed) (h1 : e.ok = true) (h2 : f.ok = true) (ke : e.k = 1) (pe : (e.ax == e.bx && e.ay == e.by') = true) (kf : f.k = 1) (pf : (f.ax == f.bx && f.ay == f.by') = false) : Fok Tryz.prog 68 [edV e 3 c26, edV f 3 c26] (.one (inV (countE e f) lim)) := by
 rw [show countE e f = onZ f e.ax e.ay by rw [countE_v h1 h2]; simp only [if_pos ke, pt_eq e, pe, if_true]]
 unfold onZ
 cases ho : onE f e.ax e.ay with
 | true => exact fok KC [false, false, false, true, false, false, true] [pF (chk_F h1), pF (chk_F h2), pF (neq_F ke), pT pe, pF (neq_F kf), pF pf, pP h2, pT ho] (by kernel_rfl)
 | false => exact fok KC [false, false, false, true, false, false, false] [pF (chk_F h1), pF (chk_F h2), pF (neq_F ke), pT pe, pF (neq_F kf), pF pf, pP h2, pF ho] (by kernel_rfl)
theorem count_line_arc (e f : Ed) (h1 : e.ok = true) (h2 : f.ok = true) (ke : e.k = 1) (pe : (e.ax == e.bx && e.ay == e.by') = false) (kf : ¬ f.k = 1) : Fok Tryz.prog 68 [edV e 3 c26, edV f 3 c26] (.one (inV (countE e f) lim)) := by
 rw [show countE e f = crossZ e f by rw [countE_v h1 h2]; simp only [if_pos ke, pt_eq e, pe, Bool.false_eq_true, if_false, if_neg kf]]
 exact fok KC [false, false, false, false, true] [pF (chk_F h1), pF (chk_F h2), pF (neq_F ke), pF pe, pT (ne_T kf), pP h2, pP (rad_ne h2 kf), pP (rad_ne h2 kf), pP (rad_ne h2 kf), pP (rad_ne h2 kf)] (by kernel_rfl)
theorem count_line_pt (e f : Ed) (h1 : e.ok = true) (h2 : f.ok = true) (ke : e.k = 1) (pe : (e.ax == e.bx && e.ay == e.by') = false) (kf : f.k = 1) (pf : (f.ax == f.bx && f.ay == f.by') = true) : Fok Tryz.prog 68 [edV e 3 c26, edV f 3 c26] (.one (inV (countE e f) lim)) := by
 rw [show countE e f = onZ e f.ax f.ay by rw [countE_v h1 h2]; simp only [if_pos ke, pt_eq e, pe, Bool.false_eq_true, if_false, if_pos kf, pt_eq f, pf, if_true]]
 unfold onZ
 cases ho : onE e f.ax f.ay with
 | true => exact fok KC [false, false, false, false, false, true, true] [pF (chk_F h1), pF (chk_F h2), pF (neq_F ke), pF pe, pF (neq_F kf), pT pf, pP h1, pT ho] (by kernel_rfl)
 | false => exact fok KC [false, false, false, false, false, true, false] [pF (chk_F h1), pF (chk_F h2), pF (neq_F ke), pF pe, pF (neq_F kf), pT pf, pP h1, pF ho] (by kernel_rfl)
theorem count_line_line (e f : Ed) (h1 : e.ok = true) (h2 : f.ok = true) (ke : e.k = 1) (pe : (e.ax == e.bx && e.ay == e.by') = false) (kf : f.k = 1) (pf : (f.ax == f.bx && f.ay == f.by') = false) : Fok Tryz.prog 68 [edV e 3 c26, edV f 3 c26] (.one (inV (countE e f) lim)) := by
 rw [show countE e f = linesZ e.ax e.ay e.bx e.by' f.ax f.ay f.bx f.by' by rw [countE_v h1 h2]; simp only [if_pos ke, pt_eq e, pe, Bool.false_eq_true, if_false, if_pos kf, pt_eq f, pf]]
 exact fok KC [false, false, false, false, false, false] [pF (chk_F h1), pF (chk_F h2), pF (neq_F ke), pF pe, pF (neq_F kf), pF pf] (by kernel_rfl)
theorem count_no (e f : Ed) (h : (e.ok && f.ok) = false) : Fok Tryz.prog 68 [edV e lim lim, edV f lim lim] (.one (inV (countE e f) lim)) := by
 rw [show countE e f = 0 by unfold countE; rw [h]; rfl]
 cases h1 : e.ok with
 | false => exact fok KC [true] [pT (chk_T h1)] (by kernel_rfl)
 | true =>
  rw [h1, Bool.true_and] at h
  exact fok KC [false, true] [pF (chk_F h1), pT (chk_T h)] (by kernel_rfl)
theorem count_ok (e f : Ed) (h1 : e.ok = true) (h2 : f.ok = true) : Fok Tryz.prog 68 [edV e 3 c26, edV f 3 c26] (.one (inV (countE e f) lim)) := by
 by_cases ke : e.k = 1
 ·cases pe : (e.ax == e.bx && e.ay == e.by') with
  | true =>
   by_cases kf : f.k = 1
   ·cases pf : (f.ax == f.bx && f.ay == f.by') with
    | true => exact count_pt_pt e f h1 h2 ke pe kf pf
    | false => exact count_pt_line e f h1 h2 ke pe kf pf
   ·exact count_pt_arc e f h1 h2 ke pe kf
  | false =>
   by_cases kf : f.k = 1
   ·cases pf : (f.ax == f.bx && f.ay == f.by') with
    | true => exact count_line_pt e f h1 h2 ke pe kf pf
    | false => exact count_line_line e f h1 h2 ke pe kf pf
   ·exact count_line_arc e f h1 h2 ke pe kf
 ·by_cases kf : f.k = 1
  ·cases pf : (f.ax == f.bx && f.ay == f.by') with
   | true => exact count_arc_pt e f h1 h2 ke kf pf
   | false => exact count_arc_line e f h1 h2 ke kf pf
  ·exact count_arc_arc e f h1 h2 ke kf
theorem countE_bd (e f : Ed) : (countE e f).natAbs <= 4 := by
 cases h : (e.ok && f.ok) with
 | false => rw [show countE e f = 0 by unfold countE; rw [h]; rfl]; decide
 | true =>
  simp only [Bool.and_eq_true] at h
  have b1 := onZ_bd e f.ax f.ay
  have b2 := onZ_bd f e.ax e.ay
  have b3 := linesZ_bd e.ax e.ay e.bx e.by' f.ax f.ay f.bx f.by'
  have b4 := countZ_bd (laE e f).delta (laE e f).list
  have b5 := countZ_bd (laE f e).delta (laE f e).list
  have b6 : -1 <= arcsZ e f /\ arcsZ e f <= 4 := by
   unfold arcsZ
   split
   ·exact sameZ_bd _ _ _ _ _
   ·have := countZ_bd (aaE e f).delta (aaE e f).list; omega
  rw [countE_v h.1 h.2]
  unfold crossZ
  (repeat' split) <;> omega
def cCountE : Con where
 f := 68
 g := fun | [⟨true, l⟩, ⟨true, m⟩] => (match toEd l, toEd m with | some e, some f => some (.one (inV (countE e f) 4), []) | _, _ => none) | _ => none
 ok := by
  intro args res ps h hp
  split at h <;> try cases h
  split at h <;> cases h
  rename_i e f he hf
  cases h : (e.ok && f.ok) with
  | false => exact ((count_no e f h).bd (countE_bd e f)).pre fun W => rvs_1 (ed_lim he) (rvs_1 (ed_lim hf) rvs_0)
  | true =>
   simp only [Bool.and_eq_true] at h
   exact ((count_ok e f h.1 h.2).bd (countE_bd e f)).pre fun W => rvs_1 (ed_ok he h.1) (rvs_1 (ed_ok hf h.2) rvs_0)
theorem meetEdges_ok (e f : Ed) : Fok Tryz.prog 22 [edV e lim lim, edV f lim lim] (.one (blV (countE e f != 0))) := fok [cCountE] [] [] (by kernel_rfl)
def cMeet : Con where
 f := 22
 g := fun | [⟨true, l⟩, ⟨true, m⟩] => (match toEd l, toEd m with | some e, some f => some (.one (blV (!(countE e f == 0))), []) | _, _ => none) | _ => none
 ok := by
  intro args res ps h hp
  split at h <;> try cases h
  split at h <;> cases h
  rename_i e f he hf
  exact (meetEdges_ok e f).pre fun W => rvs_1 (ed_lim he) (rvs_1 (ed_lim hf) rvs_0)
end Go.Proofs.YtighahcllmoajaaGreat

namespace Go.Proofs.YtighahcllmoajaaGreat
open Go.RowKit
def cmpRt (a b : Rt) : Int := if a.right && b.right then cmpR (a.add - b.add) a.s a.n.z a.d.z b.s b.n.z b.d.z else 0
def rv (a : Rt) : Re := lin (a.add * (val a.d.d : Int)) a.s (val a.n.d * val a.d.d)
theorem rv_f (a : Rt) (k : Nat) : (rv a).f k = (a.add : Rat) * (val a.d.d : Rat) + (a.s : Rat) * rtf (val a.n.d * val a.d.d) k := by
 unfold rv
 rw [lin_f, Rat.intCast_mul, Rat.intCast_natCast]
def mul (z : Int) (x : Re) : Re := (Re.int z).mul x
theorem mul_f (z : Int) (x : Re) (k : Nat) : (mul z x).f k = (z : Rat) * x.f k := rfl
theorem add_f (x y : Re) (k : Nat) : (x.add y).f k = x.f k + y.f k := rfl
theorem neg_f (x : Re) (k : Nat) : x.neg.f k = -x.f k := rfl
def df (a b : Rt) : Re := (mul (val b.d.d : Int) (rv a)).add (mul (val a.d.d : Int) (rv b)).neg
theorem df_f (a b : Rt) (k : Nat) : (df a b).f k = (val b.d.d : Rat) * ((a.add : Rat) * (val a.d.d : Rat) + (a.s : Rat) * rtf (val a.n.d * val a.d.d) k) - (val a.d.d : Rat) * ((b.add : Rat) * (val b.d.d : Rat) + (b.s : Rat) * rtf (val b.n.d * val b.d.d) k) := by
 unfold df
 rw [add_f, neg_f, mul_f, mul_f, rv_f, rv_f, Rat.intCast_natCast, Rat.intCast_natCast]
 grind
theorem Rt.Ok.shape {a : Rt} (h : a.Ok) : (a.s = 1 /\ 0 < val a.n.d) \/ (a.s = -1 /\ 0 < val a.n.d) \/ (a.s = 0 /\ val a.n.d = 0) := by
 have h1 := h.sl
 have h2 := h.su
 by_cases h0 : a.s = 0
 ·exact .inr (.inr ⟨h0, (h.n0 h0).1⟩)
 ·have := h.n1 h0
  omega
theorem Rt.Ok.zs {a : Rt} (h : a.Ok) : a.n.z = (val a.n.d : Int) /\ a.d.z = (val a.d.d : Int) := ⟨z_pos h.nn, z_pos h.dn⟩
theorem cmpRt_sg {a b : Rt} (ha : a.Ok) (hb : b.Ok) : Sg (cmpR (a.add - b.add) a.s a.n.z a.d.z b.s b.n.z b.d.z) (df a b) := by
 rw [ha.zs.1, ha.zs.2, hb.zs.1, hb.zs.2]
 refine Sg.eq (cmp_sg ha.dp hb.dp ha.shape hb.shape) fun k => ?_
 rw [dif_f, df_f, Rat.intCast_sub]
 simp only [Rat.intCast_natCast]
 grind
theorem Sg.zero {x : Re} (h : ∀ k, x.f k = 0) : Sg 0 x := .inr (.inl ⟨rfl, nn_of fun k => by rw [h]; exact Rat.le_refl, nn_of fun k => by show 0 <= -x.f k; rw [h]; decide⟩)
theorem sg_int (z : Int) : Sg (sgn z) (Re.int z) := by
 rcases sgn_cases z with ⟨h, g⟩ | ⟨h, g⟩ | ⟨h, g⟩ <;> rw [h]
 ·exact .inl ⟨rfl, int_ps g⟩
 ·subst g; exact Sg.zero fun _ => rfl
 ·refine .inr (.inr ⟨rfl, ps_eq (int_ps (show 0 < -z by omega)) fun k => ?_⟩)
  show ((-z : Int) : Rat) = -(z : Rat)
  rw [Rat.intCast_neg]
theorem cmp_anti {a b : Rt} (ha : a.Ok) (hb : b.Ok) : cmpR (b.add - a.add) b.s b.n.z b.d.z a.s a.n.z a.d.z = -cmpR (a.add - b.add) a.s a.n.z a.d.z b.s b.n.z b.d.z := by
 refine Sg.uniq (cmpRt_sg hb ha) (Sg.eq (cmpRt_sg ha hb).neg fun k => ?_)
 rw [neg_f, df_f, df_f]
 grind
theorem cmp_same {a : Rt} (ha : a.Ok) : cmpR (a.add - a.add) a.s a.n.z a.d.z a.s a.n.z a.d.z = 0 := by
 refine Sg.uniq (cmpRt_sg ha ha) (Sg.zero fun k => ?_)
 rw [df_f]
 grind
theorem cmp_bd {a b : Rt} (ha : a.Ok) (hb : b.Ok) : cmpR (a.add - b.add) a.s a.n.z a.d.z b.s b.n.z b.d.z = 1 \/ cmpR (a.add - b.add) a.s a.n.z a.d.z b.s b.n.z b.d.z = 0 \/ cmpR (a.add - b.add) a.s a.n.z a.d.z b.s b.n.z b.d.z = -1 := sg_bd (cmpRt_sg ha hb)
theorem cmp_trans {a b c : Rt} (ha : a.Ok) (hb : b.Ok) (hc : c.Ok) {x y z : Int} (hx : Sg x (df a b)) (hy : Sg y (df b c)) (hz : Sg z (df a c)) :
  (x <= 0 -> y <= 0 -> z <= 0 /\ (z = 0 -> x = 0 /\ y = 0)) /\ (0 <= x -> 0 <= y -> 0 <= z /\ (z = 0 -> x = 0 /\ y = 0)) := by
 have pa := ha.dp
 have pb := hb.dp
 have pc := hc.dp
 have hz' := hz.mul (m := (val b.d.d : Int)) (by omega)
 have hx' := hx.mul (m := (val c.d.d : Int)) (by omega)
 have hy' := hy.mul (m := (val a.d.d : Int)) (by omega)
 have e : ∀ k, (((Re.int (val c.d.d : Int)).mul (df a b)).add ((Re.int (val a.d.d : Int)).mul (df b c))).f k = ((Re.int (val b.d.d : Int)).mul (df a c)).f k := fun k => by
  show ((val c.d.d : Int) : Rat) * (df a b).f k + ((val a.d.d : Int) : Rat) * (df b c).f k = ((val b.d.d : Int) : Rat) * (df a c).f k
  rw [df_f, df_f, df_f, Rat.intCast_natCast, Rat.intCast_natCast, Rat.intCast_natCast]
  grind
 have bx := sg_bd hx
 have by' := sg_bd hy
 have bz := sg_bd hz
 have key : ∀ r, (x = 1 /\ 0 <= y /\ r = 1) \/ (0 <= x /\ y = 1 /\ r = 1) \/ (x = 0 /\ y = 0 /\ r = 0) \/ (x = -1 /\ y <= 0 /\ r = -1) \/ (x <= 0 /\ y = -1 /\ r = -1) -> z = r := fun r h => Sg.uniq hz' (Sg.eq (Sg.plus hx' hy' h) e)
 constructor
 ·intro h1 h2
  by_cases h3 : x = 0 /\ y = 0
  ·have := key 0 (by omega); omega
  ·have := key (-1) (by omega); omega
 ·intro h1 h2
  by_cases h3 : x = 0 /\ y = 0
  ·have := key 0 (by omega); omega
  ·have := key 1 (by omega); omega
theorem cmp_plus {a b : Rt} (ha : a.Ok) (hb : b.Ok) (n : Int) (h1 : b.add = a.add + n) (h2 : b.s = a.s) (h3 : b.n = a.n) (h4 : b.d = a.d) : cmpR (a.add - b.add) a.s a.n.z a.d.z b.s b.n.z b.d.z = sgn (-n) := by
 have hd : 0 < (val a.d.d : Int) * (val a.d.d : Int) := by have := ha.dp; exact Int.mul_pos (by omega) (by omega)
 refine Sg.uniq (cmpRt_sg ha hb) (Sg.eq ((sg_int (-n)).mul hd) fun k => ?_)
 show (((val a.d.d : Int) * (val a.d.d : Int) : Int) : Rat) * ((-n : Int) : Rat) = _
 rw [df_f, h1, h2, h3, h4, Rat.intCast_mul, Rat.intCast_natCast, Rat.intCast_neg, Rat.intCast_add]
 grind
end Go.Proofs.YtighahcllmoajaaGreat

namespace Go.Proofs.YtighahcllmoajaaGreat
open Go.RowKit
structure Sp where
 x : Int
 y : Int
 dx : Int
 dy : Int
 p : Int
 q : Int
 len : Int
def Sp.no : Sp := ⟨0, 0, 0, 0, 0, 0, 0⟩
def spP (x y : Int) : Sp := ⟨x, y, 0, 0, 0, 1, 0⟩
def sqI (x y : Int) : Int := x * x + y * y
def dR (add s n d : Int) : Rt := (ofP add s (ofZ n) (ofZ d)).1
def endR (px py qx qy : Int) : Rt × Sp := (dR 0 1 (sqI (px - qx) (py - qy)) 1, spP qx qy)
def lineR (e : Ed) (px py : Int) : Rt × Sp :=
 if (px - e.ax) * (e.bx - e.ax) + (py - e.ay) * (e.by' - e.ay) <= 0 then endR px py e.ax e.ay
 else if sqI (e.bx - e.ax) (e.by' - e.ay) <= (px - e.ax) * (e.bx - e.ax) + (py - e.ay) * (e.by' - e.ay) then endR px py e.bx e.by'
 else (dR 0 1 (((e.bx - e.ax) * (py - e.ay) - (e.by' - e.ay) * (px - e.ax)) * ((e.bx - e.ax) * (py - e.ay) - (e.by' - e.ay) * (px - e.ax))) (sqI (e.bx - e.ax) (e.by' - e.ay)),
  ⟨e.ax, e.ay, e.bx - e.ax, e.by' - e.ay, (px - e.ax) * (e.bx - e.ax) + (py - e.ay) * (e.by' - e.ay), sqI (e.bx - e.ax) (e.by' - e.ay), 0⟩)
def wiB (dx dy fx fy tx ty : Int) : Bool := decide (0 <= fx * dy - fy * dx) && decide (0 <= dx * ty - dy * tx)
def inQ (e : Ed) (vx vy : Int) : Bool :=
 !(vx == 0 && vy == 0) && (if e.k = 3 then wiB vx vy (e.bx - e.cx) (e.by' - e.cy) (e.ax - e.cx) (e.ay - e.cy) else wiB vx vy (e.ax - e.cx) (e.ay - e.cy) (e.bx - e.cx) (e.by' - e.cy))
def arcR (e : Ed) (px py : Int) : Rt × Sp :=
 if inQ e (px - e.cx) (py - e.cy) then
  (if radZ e * radZ e <= sqI (px - e.cx) (py - e.cy) then dR (-radZ e) 1 (sqI (px - e.cx) (py - e.cy)) 1 else dR (radZ e) (-1) (sqI (px - e.cx) (py - e.cy)) 1, ⟨e.cx, e.cy, px - e.cx, py - e.cy, 0, 0, radZ e⟩)
 else if sqI (px - e.bx) (py - e.by') < sqI (px - e.ax) (py - e.ay) then endR px py e.bx e.by' else endR px py e.ax e.ay
def pointR (e : Ed) (px py : Int) : Rt × Sp :=
 if !(e.ok && coordB px py) then (Rt.no, Sp.no) else if e.k = 1 then lineR e px py else arcR e px py
structure Pr where
 d : Rt
 a : Sp
 b : Sp
def Pr.swap (p : Pr) : Pr := ⟨p.d, p.b, p.a⟩
def footR (l a : Ed) : List Pr :=
 let dx := l.bx - l.ax
 let dy := l.by' - l.ay
 let t := (a.cx - l.ax) * dx + (a.cy - l.ay) * dy
 let c := dx * (a.cy - l.ay) - dy * (a.cx - l.ax)
 let nx := if 0 < c then dy else -dy
 let ny := if 0 < c then -dx else dx
 if t <= 0 \/ sqI dx dy <= t \/ c * c <= radZ a * radZ a * sqI dx dy \/ inQ a nx ny = false then []
 else [⟨dR (-radZ a) 1 (c * c) (sqI dx dy), ⟨l.ax, l.ay, dx, dy, t, sqI dx dy, 0⟩, ⟨a.cx, a.cy, nx, ny, 0, 0, radZ a⟩⟩]
def centR (a b : Ed) : List Pr :=
 let vx := b.cx - a.cx
 let vy := b.cy - a.cy
 let r := radZ a
 let s := radZ b
 let n := sqI vx vy
 if (r + s) * (r + s) < n then (if inQ a vx vy && inQ b (-vx) (-vy) then [⟨dR (-r - s) 1 n 1, ⟨a.cx, a.cy, vx, vy, 0, 0, r⟩, ⟨b.cx, b.cy, -vx, -vy, 0, 0, s⟩⟩] else [])
 else if (r - s) * (r - s) <= n then []
 else if s < r then (if inQ a vx vy && inQ b vx vy then [⟨dR (r - s) (-1) n 1, ⟨a.cx, a.cy, vx, vy, 0, 0, r⟩, ⟨b.cx, b.cy, vx, vy, 0, 0, s⟩⟩] else [])
 else (if inQ a (-vx) (-vy) && inQ b (-vx) (-vy) then [⟨dR (s - r) (-1) n 1, ⟨a.cx, a.cy, -vx, -vy, 0, 0, r⟩, ⟨b.cx, b.cy, -vx, -vy, 0, 0, s⟩⟩] else [])
def innerR (a b : Ed) : List Pr :=
 if a.k = 1 then (if b.k = 1 then [] else footR a b) else if b.k = 1 then (footR b a).map Pr.swap else centR a b
def candR (a b : Ed) : List Pr :=
 [⟨(pointR b a.ax a.ay).1, spP a.ax a.ay, (pointR b a.ax a.ay).2⟩, ⟨(pointR b a.bx a.by').1, spP a.bx a.by', (pointR b a.bx a.by').2⟩,
  ⟨(pointR a b.ax b.ay).1, (pointR a b.ax b.ay).2, spP b.ax b.ay⟩, ⟨(pointR a b.bx b.by').1, (pointR a b.bx b.by').2, spP b.bx b.by'⟩] ++ innerR a b
def betterP (x y : Pr) : Pr := if cmpRt y.d x.d < 0 then y else x
def leastP : List Pr -> Pr
 | [] => ⟨Rt.no, Sp.no, Sp.no⟩
 | x :: l => l.foldl betterP x
def edgesR (a b : Ed) : Pr := if !(a.ok && b.ok) || !(countE a b == 0) then ⟨Rt.no, Sp.no, Sp.no⟩ else leastP (candR a b)
theorem sqz_nn (x : Int) : 0 <= x * x := by
 rcases Int.le_total 0 x with h | h
 ·exact Int.mul_nonneg h h
 ·rw [<- Int.neg_mul_neg]; exact Int.mul_nonneg (by omega) (by omega)
theorem sqI_nn (x y : Int) : 0 <= sqI x y := by
 have := sqz_nn x
 have := sqz_nn y
 unfold sqI
 omega
theorem sqI_pos {x y : Int} (h : ¬ (x = 0 /\ y = 0)) : 0 < sqI x y := by
 have h1 := sqz_nn x
 have h2 := sqz_nn y
 have h3 : ¬ (x * x = 0 /\ y * y = 0) := fun ⟨a, b⟩ => h ⟨by rcases Int.mul_eq_zero.1 a with h | h <;> exact h, by rcases Int.mul_eq_zero.1 b with h | h <;> exact h⟩
 unfold sqI
 omega
theorem Di.sq {x y : Int} (hx : Di x) (hy : Di y) : I64 (sqI x y) := hx.dot hx hy hy
end Go.Proofs.YtighahcllmoajaaGreat

namespace Go.Proofs.YtighahcllmoajaaGreat
open Go.RowKit
def cMul : Con := nBinC 108 mulP (fun _ _ => []) fun a b _ _ _ _ _ _ _ _ w _ h1 h2 => num_Mul a b _ _ _ _ _ _ _ _ w h1 h2
def KA : List Con := [cNOf, cMul, cRtOf, cChk, cVRight, cRad, cRev]
end Go.Proofs.YtighahcllmoajaaGreat
