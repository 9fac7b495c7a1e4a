/- Contracts for the kernel's walker: whole numbers, vec.Side, meet.count. | Contracts: meet.bothLines, lineArc, bothArcs, by the kernel's walker. | Contracts: edge.On, meet.Count, meet.Edges, by the kernel's walker. -/
import Derived.Test.YtighahcllmoajaaGreatJ15
import Derived.Test.YtighahcllmoajaaGreatJ20
import Derived.Test.YtighahcllmoajaaGreatJ17
set_option linter.unusedVariables false
set_option linter.unusedSimpArgs false

namespace Go.Proofs.YtighahcllmoajaaGreat
open Go.RowKit

def c640 : Nat := 4294967296 ^ 20
def c2048 : Nat := 4294967296 ^ 64
def ziV (z : Int) (B : Nat) : V1 := ⟨true, [.d (.zi z B)]⟩
section
variable {V W : World} {r : Nat → Nat} {k : Nat}
theorem rl_zi {z : Int} {B : Nat} {l : List It} {cs : List Value} : RepL V W r k (.d (.zi z B) :: l) cs ↔ z.natAbs ≤ B ∧ ∃ n p m c, NR W n p m c (ofZ z) ∧ ∃ d, cs = .bool n :: .slice p m c :: d ∧ RepL V W r k l d :=
  ⟨fun ⟨c, d, e, ⟨⟨n, p, m, c', h1, h2⟩, hb⟩, h3⟩ => ⟨hb, n, p, m, c', h2, d, by rw [e, h1]; rfl, h3⟩, fun ⟨hb, n, p, m, c', h, d, e, h3⟩ => ⟨[_, _], d, e, ⟨⟨n, p, m, c', rfl, h⟩, hb⟩, h3⟩⟩
end
theorem gv_zi {z : Int} {B : Nat} {w : World} {e : Ending} {w' : World} (hb : z.natAbs ≤ B) (h : RetN w (ofZ z) e w') : Gv (.one (ziV z B)) w e w' := by
  obtain ⟨n, p, l, c, rfl, h1, _, h2⟩ := h
  exact ⟨_, rfl, rv_t.2 ⟨_, rl_zi.2 ⟨hb, n, p, l, c, h1, [], rfl, rfl⟩, rfl⟩, h2⟩
theorem gv_zb {z : Int} {B : Nat} {w : World} {e : Ending} {w' : World} (hb : z.natAbs ≤ B) (h : RetNum w (ofZ z, true) e w') : Gv (.tup [ziV z B, blV true]) w e w' := by
  obtain ⟨n, p, l, c, rfl, h1, _, h2⟩ := h
  exact ⟨_, rfl, ⟨[_, _], rfl, rvs_cons.2 ⟨_, rv_t.2 ⟨_, rl_zi.2 ⟨hb, n, p, l, c, h1, [], rfl, rfl⟩, rfl⟩, _, rfl, rvs_cons.2 ⟨_, rv_v.2 ⟨rfl, rfl⟩, _, rfl, rfl⟩⟩⟩, h2⟩
theorem small_c {z : Int} {B : Nat} (h : z.natAbs ≤ B) (hB : B < c2048) : small z = true := by
  unfold small
  rw [decide_eq_true_eq]
  exact Nat.lt_of_le_of_lt h hB
def cZOf : Con where
  f := 63
  g := fun | [⟨false, [.i z B]⟩] => some (.one (ziV z B), []) | _ => none
  ok := by
    intro args res ps h _
    split at h <;> cases h
    intro W vals hv
    simp only [rvs_cons, rvs_nil, rv_i] at hv
    obtain ⟨_, ⟨⟨hb, h1, h2⟩, rfl⟩, _, rfl, rfl⟩ := hv
    exact (num_Of _ W h1 h2).mono fun _ _ h => gv_zi hb h
def cZMul : Con where
  f := 108
  g := fun | [⟨true, [.d (.zi x A)]⟩, ⟨true, [.d (.zi y B)]⟩] => if (A < c2048 ∧ B < c2048) ∧ A * B < c2048 then some (.tup [ziV (x * y) (A * B), blV true], []) else none | _ => none
  ok := by
    intro args res ps h hp
    split at h <;> try cases h
    split at h <;> cases h
    rename_i x A y B hb
    intro W vals hv
    simp only [rvs_cons, rvs_nil, rv_t, rl_zi, rl_nil] at hv
    obtain ⟨_, ⟨_, ⟨b1, n, p, l, c, h1, _, rfl, rfl⟩, rfl⟩, _, rfl, _, ⟨_, ⟨b2, m, q, k, d, h2, _, rfl, rfl⟩, rfl⟩, _, rfl, rfl⟩ := hv
    have b3 : (x * y).natAbs ≤ A * B := by rw [Int.natAbs_mul]; exact Nat.mul_le_mul b1 b2
    have e := mulP_small' (small_c b1 hb.1.1) (small_c b2 hb.1.2) (small_c b3 hb.2)
    exact (num_Mul _ _ _ _ _ _ _ _ _ _ W h1 h2).mono fun _ _ h => gv_zb b3 (e ▸ h)
def cZSub : Con where
  f := 176
  g := fun | [⟨true, [.d (.zi x A)]⟩, ⟨true, [.d (.zi y B)]⟩] => if A + B < c2048 then some (.tup [ziV (x - y) (A + B), blV true], []) else none | _ => none
  ok := by
    intro args res ps h hp
    split at h <;> try cases h
    split at h <;> cases h
    rename_i x A y B hb
    intro W vals hv
    simp only [rvs_cons, rvs_nil, rv_t, rl_zi, rl_nil] at hv
    obtain ⟨_, ⟨_, ⟨b1, n, p, l, c, h1, _, rfl, rfl⟩, rfl⟩, _, rfl, _, ⟨_, ⟨b2, m, q, k, d, h2, _, rfl, rfl⟩, rfl⟩, _, rfl, rfl⟩ := hv
    have b3 : (x - y).natAbs ≤ A + B := by omega
    have e := subP_small (small_c b1 (by omega)) (small_c b2 (by omega)) (small_c b3 hb)
    exact (num_Sub _ _ _ _ _ _ _ _ _ _ W h1 h2).mono fun _ _ h => gv_zb b3 (e ▸ h)
/-- Sums as items. -/
def toSr : Nat → List It → Option (List (Int × Int))
  | 0, [] => some []
  | n + 1, .d (.zi x A) :: .d (.zi y B) :: l => if A < c640 ∧ B < c640 then (toSr n l).map ((x, y) :: ·) else none
  | _, _ => none
theorem toSr_rep {V : World} : ∀ {n : Nat} {l : List It} {L : List (Int × Int)} {cs : List Value}, toSr n l = some L → RepF V l cs → L.length = n ∧ cs.length = n * 4 ∧ (∀ (i : Nat) (x y : Int), L[i]? = some (x, y) → Gd x ∧ Gd y ∧
    ∃ n1 p1 l1 c1 n2 p2 l2 c2, cs[i * 4]? = some (.bool n1) ∧ cs[i * 4 + 1]? = some (.slice p1 l1 c1) ∧ cs[i * 4 + 2]? = some (.bool n2) ∧ cs[i * 4 + 3]? = some (.slice p2 l2 c2) ∧ NR V n1 p1 l1 c1 (ofZ x) ∧ NR V n2 p2 l2 c2 (ofZ y))
  | n, l, L, cs, h, hr => by
    unfold toSr at h
    split at h
    · cases h
      cases hr
      exact ⟨rfl, rfl, fun i x y hi => by simp at hi⟩
    · rename_i n x A y B l
      split at h
      · rename_i hb
        cases hq : toSr n l with
        | none => simp [hq] at h
        | some M =>
          simp only [hq, Option.map_some, Option.some.injEq] at h
          subst h
          obtain ⟨c, d, e, ⟨⟨n1, p1, l1, c1, rfl, h1⟩, b1⟩, c', d', e', ⟨⟨n2, p2, l2, c2, rfl, h2⟩, b2⟩, h3⟩ := hr
          subst e' e
          obtain ⟨k1, k2, k3⟩ := toSr_rep hq h3
          refine ⟨by simp [k1], by simp [k2]; omega, fun i u v hi => ?_⟩
          cases i with
          | zero =>
            simp only [List.getElem?_cons_zero, Option.some.injEq, Prod.mk.injEq] at hi
            obtain ⟨rfl, rfl⟩ := hi
            exact ⟨Nat.lt_of_le_of_lt b1 hb.1, Nat.lt_of_le_of_lt b2 hb.2, n1, p1, l1, c1, n2, p2, l2, c2, rfl, rfl, rfl, rfl, h1, h2⟩
          | succ i =>
            simp only [List.getElem?_cons_succ] at hi
            obtain ⟨g1, g2, m1, q1, j1, e1, m2, q2, j2, e2, f0, f1, f2, f3, f4⟩ := k3 i u v hi
            refine ⟨g1, g2, m1, q1, j1, e1, m2, q2, j2, e2, ?_, ?_, ?_, ?_, f4⟩
            all_goals rw [show (i + 1) * 4 = i * 4 + 4 by omega]
            · exact f0
            · exact f1
            · exact f2
            · exact f3
      · cases h
    · cases h
def cMCount : Con where
  f := 146
  g := fun | [⟨true, [.d (.zi d D)]⟩, ⟨false, [.fs o l n z]⟩] => if (o = 0 ∧ z = 4) ∧ (0 < n ∧ n ≤ 1000) ∧ D < c640 then (toSr n l).map fun L => (.one (inV (countZ d L) 2), []) else none | _ => none
  ok := by
    intro args res ps h hp
    split at h <;> try cases h
    rename_i d D o l n z
    split at h <;> try cases h
    rename_i hb
    obtain ⟨⟨rfl, rfl⟩, hn, hD⟩ := hb
    cases hL : toSr n l with
    | none => simp [hL] at h
    | some L =>
      simp only [hL, Option.map_some, Option.some.injEq, Prod.mk.injEq] at h
      obtain ⟨rfl, rfl⟩ := h
      intro W vals hv
      simp only [rvs_cons, rvs_nil, rv_t, rl_zi, rl_nil] at hv
      obtain ⟨_, ⟨_, ⟨b1, n1, p1, l1, c1, h1, _, rfl, rfl⟩, rfl⟩, _, rfl, y, hy, _, rfl, rfl⟩ := hv
      obtain ⟨g, q, xs, T, e1, e2, e3, e4, e5, c, dd, e6, e7, e8⟩ := hy.scal
      obtain rfl : y = _ := by simpa using e1
      obtain ⟨k1, k2, k3⟩ := toSr_rep hL e7
      rw [List.drop_zero] at e6
      have hg : g < W.heap.size := (Array.getElem?_eq_some_iff.1 e2).1
      have hc : ∀ j v, c[j]? = some v → W.cell? ⟨g, j, none⟩ = some v := fun j v hj => by
        rw [cell_of_row _ _ _ _ _ _ e2]
        have : xs.toList[j]? = some v := by
          rw [e6, List.getElem?_append_left (List.getElem?_eq_some_iff.1 hj).1]
          exact hj
        simpa using this
      have hSR : SR W g q L := ⟨by omega, by unfold maxLen at e4; omega, hg, fun i x y hi => by
        obtain ⟨_, _, n1, p1, l1, c1, n2, p2, l2, c2, f0, f1, f2, f3, f4⟩ := k3 i x y hi
        exact ⟨n1, p1, l1, c1, n2, p2, l2, c2, hc _ _ f0, hc _ _ f1, hc _ _ f2, hc _ _ f3, f4⟩⟩
      have hb := countZ_bd d L
      have := (meet_count d L n1 p1 l1 c1 g q W h1 hSR (Nat.lt_of_le_of_lt b1 hD) (fun i x y hi => ⟨(k3 i x y hi).1, (k3 i x y hi).2.1⟩) (by omega)).mono fun _ _ h => gv_in (z := countZ d L) (B := 2) ⟨by omega, by unfold I64; omega⟩ h
      rw [k1] at this
      exact this
theorem co_of {x : Int} {A : Nat} (h : x.natAbs ≤ A) (hA : A ≤ c26) : Co x := by unfold c26 at hA; unfold Co; omega
def cSide : Con where
  f := 141
  g := fun | [⟨true, [.i ax A, .i ay B]⟩, ⟨true, [.i bx C, .i b D]⟩, ⟨true, [.i px E, .i py F]⟩] => if (A ≤ c26 ∧ B ≤ c26) ∧ (C ≤ c26 ∧ D ≤ c26) ∧ (E ≤ c26 ∧ F ≤ c26) then some (.one (inV (sideI ((bx - ax) * (py - ay) - (b - ay) * (px - ax))) 1), []) else none | _ => none
  ok := by
    intro args res ps h hp
    split at h <;> try cases h
    split at h <;> cases h
    rename_i ax A ay B bx C b D px E py F hb
    intro W vals hv
    simp only [rvs_cons, rvs_nil, rv_t, rl_i, rl_nil] at hv
    obtain ⟨_, ⟨_, ⟨⟨a1, _⟩, _, rfl, ⟨a2, _⟩, _, rfl, rfl⟩, rfl⟩, _, rfl, _, ⟨_, ⟨⟨a3, _⟩, _, rfl, ⟨a4, _⟩, _, rfl, rfl⟩, rfl⟩, _, rfl, _, ⟨_, ⟨⟨a5, _⟩, _, rfl, ⟨a6, _⟩, _, rfl, rfl⟩, rfl⟩, _, rfl, rfl⟩ := hv
    have c1 := co_of a1 hb.1.1
    have c2 := co_of a2 hb.1.2
    have d1 := (co_of a3 hb.2.1.1).sub c1
    have d2 := (co_of a4 hb.2.1.2).sub c2
    have d3 := (co_of a5 hb.2.2.1).sub c1
    have d4 := (co_of a6 hb.2.2.2).sub c2
    have hs := sideI_bd ((bx - ax) * (py - ay) - (b - ay) * (px - ax))
    exact (vec_Side ax ay bx b px py W d1.i64 d2.i64 d3.i64 d4.i64 (d1.mul64 d4) (d2.mul64 d3) (d1.cross d4 d2 d3)).mono fun _ _ h => gv_in ⟨by omega, by unfold I64; omega⟩ h
end Go.Proofs.YtighahcllmoajaaGreat

namespace Go.Proofs.YtighahcllmoajaaGreat
open Go.RowKit

def c27 : Nat := 134217728
def KM : List Con := [cZOf, cZMul, cZSub, cMCount, cSide]
theorem gt_T {a b : Int} (h : b < a) : decide (a > b) = true := by simpa using h
theorem gt_F {a b : Int} (h : ¬ b < a) : decide (a > b) = false := by simpa using h
theorem ne_T {a b : Int} (h : a ≠ b) : (a != b) = true := by simpa using h
theorem ne_F {a b : Int} (h : ¬ a ≠ b) : (a != b) = false := by simpa using h
theorem bq_T {a b : Int} (h : a = b) : (a == b) = true := by simpa using h
theorem bq_F {a b : Int} (h : ¬ a = b) : (a == b) = false := by simpa using h
/-- Ints with one bound. -/
def isV (B : Nat) (zs : List Int) : V1 := ⟨true, zs.map fun z => .i z B⟩
def toIs (B : Nat) (l : List It) : Option (List Int) := (asIs l).bind fun xs => if xs.all (fun x => decide (x.2 ≤ B)) = true then some (xs.map (·.1)) else none
theorem is_low {V W : World} {r : Nat → Nat} {k : Nat} {B : Nat} {l : List It} {zs : List Int} (h : toIs B l = some zs) : ∀ v, RepV V W r k ⟨true, l⟩ v → RepV V W r k (isV B zs) v := by
  intro v hv
  unfold toIs at h
  cases hx : asIs l with
  | none => simp [hx] at h
  | some xs =>
    simp only [hx, Option.bind_some] at h
    split at h <;> cases h
    rename_i ha
    simp only [List.all_eq_true, decide_eq_true_eq] at ha
    obtain ⟨cs, h1, h2, h3⟩ := hv
    obtain ⟨k1, k2⟩ := asIs_rep hx h1
    refine ⟨cs, ?_, h2, nofun⟩
    subst k1
    show RepL V W r k ((xs.map (·.1)).map fun z => It.i z B) _
    rw [List.map_map]
    exact rl_map (f := fun x : Int × Nat => It.i x.1 B) (g := fun x : Int × Nat => Value.int .i64 x.1) fun x hx => ⟨rfl, Nat.le_trans (k2 x hx).1 (ha x hx), (k2 x hx).2⟩
set_option maxRecDepth 100000 in
theorem lines_ok (px py qx qy rx ry sx sy : Int) : Fok Tryz.prog 110 [isV c26 [px, py, qx, qy], isV c26 [rx, ry, sx, sy]] (.one (inV (linesZ px py qx qy rx ry sx sy) lim)) := by
  unfold linesZ
  split
  · rename_i h1
    split
    · rename_i h2
      exact fok KM [true, true] [pT (ne_T h1), pT (gt_T h2)] (by kernel_rfl)
    · rename_i h2
      split
      · rename_i h3
        exact fok KM [true, false, true] [pT (ne_T h1), pF (gt_F h2), pT (gt_T h3)] (by kernel_rfl)
      · rename_i h3
        exact fok KM [true, false, false] [pT (ne_T h1), pF (gt_F h2), pF (gt_F h3)] (by kernel_rfl)
  · rename_i h1
    split
    · rename_i h2
      exact fok KM [false, true] [pF (ne_F h1), pT (ne_T h2)] (by kernel_rfl)
    · rename_i h2
      split
      · rename_i h3
        exact fok KM [false, false, true] [pF (ne_F h1), pF (ne_F h2), pT (decide_eq_true h3)] (by kernel_rfl)
      · rename_i h3
        split
        · rename_i h4
          exact fok KM [false, false, false, true] [pF (ne_F h1), pF (ne_F h2), pF (decide_eq_false h3), pT (bq_T h4)] (by kernel_rfl)
        · rename_i h4
          exact fok KM [false, false, false, false] [pF (ne_F h1), pF (ne_F h2), pF (decide_eq_false h3), pF (bq_F h4)] (by kernel_rfl)
def cLines : Con where
  f := 110
  g := fun | [⟨true, l⟩, ⟨true, m⟩] => (match toIs c26 l, toIs c26 m with | some [px, py, qx, qy], some [rx, ry, sx, sy] => some (.one (inV (linesZ px py qx qy rx ry sx sy) 1), []) | _, _ => none) | _ => none
  ok := by
    intro args res ps h hp
    split at h <;> try cases h
    split at h <;> cases h
    rename_i px py qx qy rx ry sx sy hl hm
    have b := linesZ_bd px py qx qy rx ry sx sy
    exact ((lines_ok _ _ _ _ _ _ _ _).bd (by omega)).pre fun W => rvs_1 (is_low hl) (rvs_1 (is_low hm) rvs_0)
def laG (px py qx qy cx cy r ux uy vx vy : Int) : LA :=
  ⟨(qx - px) * (qx - px) + (qy - py) * (qy - py), (px - cx) * (qx - px) + (py - cy) * (qy - py), (px - cx) * (px - cx) + (py - cy) * (py - cy), r, (px - cx) * ux + (py - cy) * uy, (qx - px) * ux + (qy - py) * uy, (px - cx) * vx + (py - cy) * vy, (qx - px) * vx + (qy - py) * vy⟩
set_option maxRecDepth 100000 in
theorem lineArc_ok (px py qx qy cx cy r ux uy vx vy : Int) : Fok Tryz.prog 111 [isV c27 [px, py, qx, qy], isV c27 [cx, cy, r, ux, uy, vx, vy]] (.one (inV (countZ (laG px py qx qy cx cy r ux uy vx vy).delta (laG px py qx qy cx cy r ux uy vx vy).list) lim)) :=
  fok KM [] [] (by kernel_rfl)
def cLineArc : Con where
  f := 111
  g := fun | [⟨true, l⟩, ⟨true, m⟩] => (match toIs c27 l, toIs c27 m with | some [px, py, qx, qy], some [cx, cy, r, ux, uy, vx, vy] => some (.one (inV (countZ (laG px py qx qy cx cy r ux uy vx vy).delta (laG px py qx qy cx cy r ux uy vx vy).list) 2), []) | _, _ => none) | _ => none
  ok := by
    intro args res ps h hp
    split at h <;> try cases h
    split at h <;> cases h
    rename_i px py qx qy cx cy r ux uy vx vy hl hm
    have b := countZ_bd (laG px py qx qy cx cy r ux uy vx vy).delta (laG px py qx qy cx cy r ux uy vx vy).list
    exact ((lineArc_ok _ _ _ _ _ _ _ _ _ _ _).bd (by omega)).pre fun W => rvs_1 (is_low hl) (rvs_1 (is_low hm) rvs_0)
def aaG (cx cy r ux uy vx vy dx dy q sx sy tx ty : Int) : AA :=
  ⟨(dx - cx) * (dx - cx) + (dy - cy) * (dy - cy), r, q, (dx - cx) * ux + (dy - cy) * uy, (dx - cx) * vx + (dy - cy) * vy, (dx - cx) * sx + (dy - cy) * sy, (dx - cx) * tx + (dy - cy) * ty,
    (0 - (dy - cy)) * ux + (dx - cx) * uy, (0 - (dy - cy)) * vx + (dx - cx) * vy, (0 - (dy - cy)) * sx + (dx - cx) * sy, (0 - (dy - cy)) * tx + (dx - cx) * ty⟩
def arcsG (cx cy r ux uy vx vy dx dy q sx sy tx ty : Int) : Int :=
  if (cx == dx && cy == dy) = true then sameZ (r == q) (ux == sx && uy == sy) (ux == tx && uy == ty) (vx == sx && vy == sy) (vx == tx && vy == ty)
  else countZ (aaG cx cy r ux uy vx vy dx dy q sx sy tx ty).delta (aaG cx cy r ux uy vx vy dx dy q sx sy tx ty).list
def bB (a b : Bool) : List Bool := cond a [true, b] [false]
def bH {x y a b : Bool} (_ : x = a) (_ : y = b) : List Bool := bB a b
def pB {x y : Bool} (a b : Bool) (ha : x = a) (hb : y = b) : List Pf := cond a [⟨x = a, ha⟩, ⟨y = b, hb⟩] [⟨x = a, ha⟩]
set_option maxRecDepth 100000 in
theorem arcsSame_ok (cx cy r ux uy vx vy dx dy q sx sy tx ty : Int) (hc : (cx == dx && cy == dy) = true) : Fok Tryz.prog 112 [isV c27 [cx, cy, r, ux, uy, vx, vy], isV c27 [dx, dy, q, sx, sy, tx, ty]] (.one (inV (sameZ (r == q) (ux == sx && uy == sy) (ux == tx && uy == ty) (vx == sx && vy == sy) (vx == tx && vy == ty)) lim)) := by
  generalize h0 : (r == q) = z
  generalize h1 : (ux == sx && uy == sy) = a
  generalize h2 : (ux == tx && uy == ty) = b
  generalize h3 : (vx == sx && vy == sy) = c
  generalize h4 : (vx == tx && vy == ty) = d
  cases z <;> cases a <;> cases b <;> cases c <;> cases d <;>
    exact fok KM (true :: (bH h1 h0 ++ bH h2 h0 ++ bH h3 h0 ++ bH h4 h0)) (pT hc :: (pB _ _ h1 h0 ++ pB _ _ h2 h0 ++ pB _ _ h3 h0 ++ pB _ _ h4 h0)) (by kernel_rfl)
set_option maxRecDepth 100000 in
theorem arcsApart_ok (cx cy r ux uy vx vy dx dy q sx sy tx ty : Int) (hc : (cx == dx && cy == dy) = false) : Fok Tryz.prog 112 [isV c27 [cx, cy, r, ux, uy, vx, vy], isV c27 [dx, dy, q, sx, sy, tx, ty]] (.one (inV (countZ (aaG cx cy r ux uy vx vy dx dy q sx sy tx ty).delta (aaG cx cy r ux uy vx vy dx dy q sx sy tx ty).list) lim)) :=
  fok KM [false] [pF hc] (by kernel_rfl)
theorem sameZ_bd (z a b c d : Bool) : -1 ≤ sameZ z a b c d ∧ sameZ z a b c d ≤ 4 := by
  cases z <;> cases a <;> cases b <;> cases c <;> cases d <;> decide
def cArcs : Con where
  f := 112
  g := fun | [⟨true, l⟩, ⟨true, m⟩] => (match toIs c27 l, toIs c27 m with | some [cx, cy, r, ux, uy, vx, vy], some [dx, dy, q, sx, sy, tx, ty] => some (.one (inV (arcsG cx cy r ux uy vx vy dx dy q sx sy tx ty) 4), []) | _, _ => none) | _ => none
  ok := by
    intro args res ps h hp
    split at h <;> try cases h
    split at h <;> cases h
    rename_i cx cy r ux uy vx vy dx dy q sx sy tx ty hl hm
    refine Fok.pre ?_ fun W => rvs_1 (is_low hl) (rvs_1 (is_low hm) rvs_0)
    unfold arcsG
    cases hc : (cx == dx && cy == dy) with
    | true =>
      rw [if_pos rfl]
      have b := sameZ_bd (r == q) (ux == sx && uy == sy) (ux == tx && uy == ty) (vx == sx && vy == sy) (vx == tx && vy == ty)
      exact (arcsSame_ok _ _ _ _ _ _ _ _ _ _ _ _ _ _ hc).bd (by omega)
    | false =>
      rw [if_neg (by simp)]
      have b := countZ_bd (aaG cx cy r ux uy vx vy dx dy q sx sy tx ty).delta (aaG cx cy r ux uy vx vy dx dy q sx sy tx ty).list
      exact (arcsApart_ok _ _ _ _ _ _ _ _ _ _ _ _ _ _ hc).bd (by omega)
end Go.Proofs.YtighahcllmoajaaGreat

namespace Go.Proofs.YtighahcllmoajaaGreat
open Go.RowKit

theorem pt_c26 {V W : World} {r : Nat → Nat} {k : Nat} {x y : Int} {A B : Nat} (h1 : A ≤ c26) (h2 : B ≤ c26) : ∀ v, RepV V W r k ⟨true, [.i x A, .i y B]⟩ v → RepV V W r k (ptV x y c26) v := pt_low h1 h2
set_option maxRecDepth 100000 in
theorem on_1 (ax ay bx by' cx cy px py : Int) (ho : (Ed.mk 1 ax ay bx by' cx cy).ok = true) : Fok Tryz.prog 59 [edV ⟨1, ax, ay, bx, by', cx, cy⟩ 3 c26, ptV px py c26] (.one (blV (onE ⟨1, ax, ay, bx, by', cx, cy⟩ px py))) := by
  have E : onE ⟨1, ax, ay, bx, by', cx, cy⟩ px py = (inB (min ax bx) (min ay by') (max ax bx) (max ay by') px py && (sideI ((bx - ax) * (py - ay) - (by' - ay) * (px - ax)) == 0)) := by unfold onE; rw [ho]; rfl
  rw [E]
  unfold inB
  cases h0 : decide (min ax bx ≤ px) with
  | false => exact fok [cOfE, cSide] [true, false] [pT ho, pF h0] (by kernel_rfl)
  | true =>
    cases h1 : decide (px ≤ max ax bx) with
    | false => exact fok [cOfE, cSide] [true, true, false] [pT ho, pT h0, pF h1] (by kernel_rfl)
    | true =>
      cases h2 : decide (min ay by' ≤ py) with
      | false => exact fok [cOfE, cSide] [true, true, true, false] [pT ho, pT h0, pT h1, pF h2] (by kernel_rfl)
      | true =>
        cases h3 : decide (py ≤ max ay by') with
        | false => exact fok [cOfE, cSide] [true, true, true, true, false] [pT ho, pT h0, pT h1, pT h2, pF h3] (by kernel_rfl)
        | true =>
          exact fok [cOfE, cSide] [true, true, true, true, true] [pT ho, pT h0, pT h1, pT h2, pT h3] (by kernel_rfl)
set_option maxRecDepth 100000 in
theorem on_2 (ax ay bx by' cx cy px py : Int) (ho : (Ed.mk 2 ax ay bx by' cx cy).ok = true) : Fok Tryz.prog 59 [edV ⟨2, ax, ay, bx, by', cx, cy⟩ 3 c26, ptV px py c26] (.one (blV (onE ⟨2, ax, ay, bx, by', cx, cy⟩ px py))) := by
  have E : onE ⟨2, ax, ay, bx, by', cx, cy⟩ px py = (inB (min ax bx) (min ay by') (max ax bx) (max ay by') px py && (powerI (px - cx) (py - cy) (ax - cx) (ay - cy) == 0)) := by unfold onE; rw [ho]; rfl
  rw [E]
  unfold inB
  cases h0 : decide (min ax bx ≤ px) with
  | false => exact fok [cOfE, cSide] [true, false] [pT ho, pF h0] (by kernel_rfl)
  | true =>
    cases h1 : decide (px ≤ max ax bx) with
    | false => exact fok [cOfE, cSide] [true, true, false] [pT ho, pT h0, pF h1] (by kernel_rfl)
    | true =>
      cases h2 : decide (min ay by' ≤ py) with
      | false => exact fok [cOfE, cSide] [true, true, true, false] [pT ho, pT h0, pT h1, pF h2] (by kernel_rfl)
      | true =>
        cases h3 : decide (py ≤ max ay by') with
        | false => exact fok [cOfE, cSide] [true, true, true, true, false] [pT ho, pT h0, pT h1, pT h2, pF h3] (by kernel_rfl)
        | true =>
          exact fok [cOfE, cSide] [true, true, true, true, true] [pT ho, pT h0, pT h1, pT h2, pT h3] (by kernel_rfl)
set_option maxRecDepth 100000 in
theorem on_3 (ax ay bx by' cx cy px py : Int) (ho : (Ed.mk 3 ax ay bx by' cx cy).ok = true) : Fok Tryz.prog 59 [edV ⟨3, ax, ay, bx, by', cx, cy⟩ 3 c26, ptV px py c26] (.one (blV (onE ⟨3, ax, ay, bx, by', cx, cy⟩ px py))) := by
  have E : onE ⟨3, ax, ay, bx, by', cx, cy⟩ px py = (inB (min ax bx) (min ay by') (max ax bx) (max ay by') px py && (powerI (px - cx) (py - cy) (ax - cx) (ay - cy) == 0)) := by unfold onE; rw [ho]; rfl
  rw [E]
  unfold inB
  cases h0 : decide (min ax bx ≤ px) with
  | false => exact fok [cOfE, cSide] [true, false] [pT ho, pF h0] (by kernel_rfl)
  | true =>
    cases h1 : decide (px ≤ max ax bx) with
    | false => exact fok [cOfE, cSide] [true, true, false] [pT ho, pT h0, pF h1] (by kernel_rfl)
    | true =>
      cases h2 : decide (min ay by' ≤ py) with
      | false => exact fok [cOfE, cSide] [true, true, true, false] [pT ho, pT h0, pT h1, pF h2] (by kernel_rfl)
      | true =>
        cases h3 : decide (py ≤ max ay by') with
        | false => exact fok [cOfE, cSide] [true, true, true, true, false] [pT ho, pT h0, pT h1, pT h2, pF h3] (by kernel_rfl)
        | true =>
          exact fok [cOfE, cSide] [true, true, true, true, true] [pT ho, pT h0, pT h1, pT h2, pT h3] (by kernel_rfl)
def cOn : Con where
  f := 59
  g := fun | [⟨true, l⟩, ⟨true, [.i x A, .i y B]⟩] => if A ≤ c26 ∧ B ≤ c26 then (toEd l).map fun e => (.one (blV (onE e x y)), [e.ok = true]) else none | _ => none
  ok := by
    intro args res ps h hp
    split at h <;> try cases h
    rename_i l x A y B
    split at h <;> try cases h
    rename_i hb
    cases he : toEd l with
    | none => simp [he] at h
    | some e =>
      simp only [he, Option.map_some, Option.some.injEq, Prod.mk.injEq] at h
      obtain ⟨rfl, rfl⟩ := h
      have ho := hp.1
      refine Fok.pre ?_ fun W => rvs_1 (ed_ok he ho) (rvs_1 (pt_c26 hb.1 hb.2) rvs_0)
      obtain ⟨k, ax, ay, bx, by', cx, cy⟩ := e
      rcases kind_of ho with h | h | h
      · obtain rfl : k = 1 := h
        exact on_1 ax ay bx by' cx cy x y ho
      · obtain rfl : k = 2 := h
        exact on_2 ax ay bx by' cx cy x y ho
      · obtain rfl : k = 3 := h
        exact on_3 ax ay bx by' cx cy x y ho
def KC : List Con := [cChk, cRad, cOn, cLines, cLineArc, cArcs]
theorem arcsZ_eq (e f : Ed) : arcsZ e f = arcsG e.cx e.cy (radZ e) e.ux e.uy e.vx e.vy f.cx f.cy (radZ f) f.ux f.uy f.vx f.vy := by
  unfold arcsZ arcsG
  by_cases h : e.cx = f.cx ∧ e.cy = f.cy
  · rw [if_pos h, if_pos (by simpa using h)]
  · rw [if_neg h, if_neg (by simpa using h)]
    unfold aaE aaG
    simp only [Int.zero_sub]
theorem pt_eq (e : Ed) : e.pt = (e.ax == e.bx && e.ay == e.by') := rfl
theorem countE_v {e f : Ed} (h1 : e.ok = true) (h2 : f.ok = true) : countE e f = if e.k = 1 then
    if e.pt then onZ f e.ax e.ay
    else if f.k = 1 then (if f.pt then onZ e f.ax f.ay else linesZ e.ax e.ay e.bx e.by' f.ax f.ay f.bx f.by')
    else crossZ e f
  else if f.k = 1 then (if f.pt then onZ e f.ax f.ay else crossZ f e)
  else arcsZ e f := by
  unfold countE
  rw [h1, h2]
  rfl
theorem rad_ne {e : Ed} (h : e.ok = true) (hk : ¬ e.k = 1) : radZ e ≠ 0 := by have := rad_pos h hk; omega
theorem neq_F {a b : Int} (h : a = b) : (a != b) = false := by simpa using h
set_option maxRecDepth 100000 in
theorem count_arc_arc (e f : Ed) (h1 : e.ok = true) (h2 : f.ok = true) (ke : ¬ e.k = 1) (kf : ¬ f.k = 1) : Fok Tryz.prog 68 [edV e 3 c26, edV f 3 c26] (.one (inV (countE e f) lim)) := by
  rw [show countE e f = arcsZ e f by rw [countE_v h1 h2]; simp only [if_neg ke, if_neg kf]]
  rw [arcsZ_eq]
  exact fok KC [false, false, true, true] [pF (chk_F h1), pF (chk_F h2), pT (ne_T ke), pP h1, pP (rad_ne h1 ke), pP (rad_ne h1 ke), pP (rad_ne h1 ke), pP (rad_ne h1 ke), pT (ne_T kf), pP h2, pP (rad_ne h2 kf), pP (rad_ne h2 kf), pP (rad_ne h2 kf), pP (rad_ne h2 kf)] (by kernel_rfl)
set_option maxRecDepth 100000 in
theorem count_arc_pt (e f : Ed) (h1 : e.ok = true) (h2 : f.ok = true) (ke : ¬ e.k = 1) (kf : f.k = 1) (pf : (f.ax == f.bx && f.ay == f.by') = true) : Fok Tryz.prog 68 [edV e 3 c26, edV f 3 c26] (.one (inV (countE e f) lim)) := by
  rw [show countE e f = onZ e f.ax f.ay by rw [countE_v h1 h2]; simp only [if_neg ke, if_pos kf, pt_eq f, pf, if_true]]
  unfold onZ
  cases ho : onE e f.ax f.ay with
  | true => exact fok KC [false, false, true, false, true, true] [pF (chk_F h1), pF (chk_F h2), pT (ne_T ke), pP h1, pP (rad_ne h1 ke), pP (rad_ne h1 ke), pP (rad_ne h1 ke), pP (rad_ne h1 ke), pF (neq_F kf), pT pf, pP h1, pT ho] (by kernel_rfl)
  | false => exact fok KC [false, false, true, false, true, false] [pF (chk_F h1), pF (chk_F h2), pT (ne_T ke), pP h1, pP (rad_ne h1 ke), pP (rad_ne h1 ke), pP (rad_ne h1 ke), pP (rad_ne h1 ke), pF (neq_F kf), pT pf, pP h1, pF ho] (by kernel_rfl)
set_option maxRecDepth 100000 in
theorem count_arc_line (e f : Ed) (h1 : e.ok = true) (h2 : f.ok = true) (ke : ¬ e.k = 1) (kf : f.k = 1) (pf : (f.ax == f.bx && f.ay == f.by') = false) : Fok Tryz.prog 68 [edV e 3 c26, edV f 3 c26] (.one (inV (countE e f) lim)) := by
  rw [show countE e f = crossZ f e by rw [countE_v h1 h2]; simp only [if_neg ke, if_pos kf, pt_eq f, pf, Bool.false_eq_true, if_false]]
  exact fok KC [false, false, true, false, false] [pF (chk_F h1), pF (chk_F h2), pT (ne_T ke), pP h1, pP (rad_ne h1 ke), pP (rad_ne h1 ke), pP (rad_ne h1 ke), pP (rad_ne h1 ke), pF (neq_F kf), pF pf] (by kernel_rfl)
set_option maxRecDepth 100000 in
theorem count_pt_arc (e f : Ed) (h1 : e.ok = true) (h2 : f.ok = true) (ke : e.k = 1) (pe : (e.ax == e.bx && e.ay == e.by') = true) (kf : ¬ f.k = 1) : Fok Tryz.prog 68 [edV e 3 c26, edV f 3 c26] (.one (inV (countE e f) lim)) := by
  rw [show countE e f = onZ f e.ax e.ay by rw [countE_v h1 h2]; simp only [if_pos ke, pt_eq e, pe, if_true]]
  unfold onZ
  cases ho : onE f e.ax e.ay with
  | true => exact fok KC [false, false, false, true, true, true] [pF (chk_F h1), pF (chk_F h2), pF (neq_F ke), pT pe, pT (ne_T kf), pP h2, pP (rad_ne h2 kf), pP (rad_ne h2 kf), pP (rad_ne h2 kf), pP (rad_ne h2 kf), pP h2, pT ho] (by kernel_rfl)
  | false => exact fok KC [false, false, false, true, true, false] [pF (chk_F h1), pF (chk_F h2), pF (neq_F ke), pT pe, pT (ne_T kf), pP h2, pP (rad_ne h2 kf), pP (rad_ne h2 kf), pP (rad_ne h2 kf), pP (rad_ne h2 kf), pP h2, pF ho] (by kernel_rfl)
set_option maxRecDepth 100000 in
theorem count_pt_pt (e f : Ed) (h1 : e.ok = true) (h2 : f.ok = true) (ke : e.k = 1) (pe : (e.ax == e.bx && e.ay == e.by') = true) (kf : f.k = 1) (pf : (f.ax == f.bx && f.ay == f.by') = true) : Fok Tryz.prog 68 [edV e 3 c26, edV f 3 c26] (.one (inV (countE e f) lim)) := by
  rw [show countE e f = onZ f e.ax e.ay by rw [countE_v h1 h2]; simp only [if_pos ke, pt_eq e, pe, if_true]]
  unfold onZ
  cases ho : onE f e.ax e.ay with
  | true => exact fok KC [false, false, false, true, false, true, true] [pF (chk_F h1), pF (chk_F h2), pF (neq_F ke), pT pe, pF (neq_F kf), pT pf, pP h2, pT ho] (by kernel_rfl)
  | false => exact fok KC [false, false, false, true, false, true, false] [pF (chk_F h1), pF (chk_F h2), pF (neq_F ke), pT pe, pF (neq_F kf), pT pf, pP h2, pF ho] (by kernel_rfl)
set_option maxRecDepth 100000 in
theorem count_pt_line (e f : Ed) (h1 : e.ok = true) (h2 : f.ok = true) (ke : e.k = 1) (pe : (e.ax == e.bx && e.ay == e.by') = true) (kf : f.k = 1) (pf : (f.ax == f.bx && f.ay == f.by') = false) : Fok Tryz.prog 68 [edV e 3 c26, edV f 3 c26] (.one (inV (countE e f) lim)) := by
  rw [show countE e f = onZ f e.ax e.ay by rw [countE_v h1 h2]; simp only [if_pos ke, pt_eq e, pe, if_true]]
  unfold onZ
  cases ho : onE f e.ax e.ay with
  | true => exact fok KC [false, false, false, true, false, false, true] [pF (chk_F h1), pF (chk_F h2), pF (neq_F ke), pT pe, pF (neq_F kf), pF pf, pP h2, pT ho] (by kernel_rfl)
  | false => exact fok KC [false, false, false, true, false, false, false] [pF (chk_F h1), pF (chk_F h2), pF (neq_F ke), pT pe, pF (neq_F kf), pF pf, pP h2, pF ho] (by kernel_rfl)
set_option maxRecDepth 100000 in
theorem count_line_arc (e f : Ed) (h1 : e.ok = true) (h2 : f.ok = true) (ke : e.k = 1) (pe : (e.ax == e.bx && e.ay == e.by') = false) (kf : ¬ f.k = 1) : Fok Tryz.prog 68 [edV e 3 c26, edV f 3 c26] (.one (inV (countE e f) lim)) := by
  rw [show countE e f = crossZ e f by rw [countE_v h1 h2]; simp only [if_pos ke, pt_eq e, pe, Bool.false_eq_true, if_false, if_neg kf]]
  exact fok KC [false, false, false, false, true] [pF (chk_F h1), pF (chk_F h2), pF (neq_F ke), pF pe, pT (ne_T kf), pP h2, pP (rad_ne h2 kf), pP (rad_ne h2 kf), pP (rad_ne h2 kf), pP (rad_ne h2 kf)] (by kernel_rfl)
set_option maxRecDepth 100000 in
theorem count_line_pt (e f : Ed) (h1 : e.ok = true) (h2 : f.ok = true) (ke : e.k = 1) (pe : (e.ax == e.bx && e.ay == e.by') = false) (kf : f.k = 1) (pf : (f.ax == f.bx && f.ay == f.by') = true) : Fok Tryz.prog 68 [edV e 3 c26, edV f 3 c26] (.one (inV (countE e f) lim)) := by
  rw [show countE e f = onZ e f.ax f.ay by rw [countE_v h1 h2]; simp only [if_pos ke, pt_eq e, pe, Bool.false_eq_true, if_false, if_pos kf, pt_eq f, pf, if_true]]
  unfold onZ
  cases ho : onE e f.ax f.ay with
  | true => exact fok KC [false, false, false, false, false, true, true] [pF (chk_F h1), pF (chk_F h2), pF (neq_F ke), pF pe, pF (neq_F kf), pT pf, pP h1, pT ho] (by kernel_rfl)
  | false => exact fok KC [false, false, false, false, false, true, false] [pF (chk_F h1), pF (chk_F h2), pF (neq_F ke), pF pe, pF (neq_F kf), pT pf, pP h1, pF ho] (by kernel_rfl)
set_option maxRecDepth 100000 in
theorem count_line_line (e f : Ed) (h1 : e.ok = true) (h2 : f.ok = true) (ke : e.k = 1) (pe : (e.ax == e.bx && e.ay == e.by') = false) (kf : f.k = 1) (pf : (f.ax == f.bx && f.ay == f.by') = false) : Fok Tryz.prog 68 [edV e 3 c26, edV f 3 c26] (.one (inV (countE e f) lim)) := by
  rw [show countE e f = linesZ e.ax e.ay e.bx e.by' f.ax f.ay f.bx f.by' by rw [countE_v h1 h2]; simp only [if_pos ke, pt_eq e, pe, Bool.false_eq_true, if_false, if_pos kf, pt_eq f, pf]]
  exact fok KC [false, false, false, false, false, false] [pF (chk_F h1), pF (chk_F h2), pF (neq_F ke), pF pe, pF (neq_F kf), pF pf] (by kernel_rfl)
set_option maxRecDepth 100000 in
theorem count_no (e f : Ed) (h : (e.ok && f.ok) = false) : Fok Tryz.prog 68 [edV e lim lim, edV f lim lim] (.one (inV (countE e f) lim)) := by
  rw [show countE e f = 0 by unfold countE; rw [h]; rfl]
  cases h1 : e.ok with
  | false => exact fok KC [true] [pT (chk_T h1)] (by kernel_rfl)
  | true =>
    rw [h1, Bool.true_and] at h
    exact fok KC [false, true] [pF (chk_F h1), pT (chk_T h)] (by kernel_rfl)
theorem count_ok (e f : Ed) (h1 : e.ok = true) (h2 : f.ok = true) : Fok Tryz.prog 68 [edV e 3 c26, edV f 3 c26] (.one (inV (countE e f) lim)) := by
  by_cases ke : e.k = 1
  · cases pe : (e.ax == e.bx && e.ay == e.by') with
    | true =>
      by_cases kf : f.k = 1
      · cases pf : (f.ax == f.bx && f.ay == f.by') with
        | true => exact count_pt_pt e f h1 h2 ke pe kf pf
        | false => exact count_pt_line e f h1 h2 ke pe kf pf
      · exact count_pt_arc e f h1 h2 ke pe kf
    | false =>
      by_cases kf : f.k = 1
      · cases pf : (f.ax == f.bx && f.ay == f.by') with
        | true => exact count_line_pt e f h1 h2 ke pe kf pf
        | false => exact count_line_line e f h1 h2 ke pe kf pf
      · exact count_line_arc e f h1 h2 ke pe kf
  · by_cases kf : f.k = 1
    · cases pf : (f.ax == f.bx && f.ay == f.by') with
      | true => exact count_arc_pt e f h1 h2 ke kf pf
      | false => exact count_arc_line e f h1 h2 ke kf pf
    · exact count_arc_arc e f h1 h2 ke kf
theorem countE_bd (e f : Ed) : (countE e f).natAbs ≤ 4 := by
  cases h : (e.ok && f.ok) with
  | false => rw [show countE e f = 0 by unfold countE; rw [h]; rfl]; decide
  | true =>
    simp only [Bool.and_eq_true] at h
    have b1 := onZ_bd e f.ax f.ay
    have b2 := onZ_bd f e.ax e.ay
    have b3 := linesZ_bd e.ax e.ay e.bx e.by' f.ax f.ay f.bx f.by'
    have b4 := countZ_bd (laE e f).delta (laE e f).list
    have b5 := countZ_bd (laE f e).delta (laE f e).list
    have b6 : -1 ≤ arcsZ e f ∧ arcsZ e f ≤ 4 := by
      unfold arcsZ
      split
      · exact sameZ_bd _ _ _ _ _
      · have := countZ_bd (aaE e f).delta (aaE e f).list; omega
    rw [countE_v h.1 h.2]
    unfold crossZ
    (repeat' split) <;> omega
def cCountE : Con where
  f := 68
  g := fun | [⟨true, l⟩, ⟨true, m⟩] => (match toEd l, toEd m with | some e, some f => some (.one (inV (countE e f) 4), []) | _, _ => none) | _ => none
  ok := by
    intro args res ps h hp
    split at h <;> try cases h
    split at h <;> cases h
    rename_i e f he hf
    cases h : (e.ok && f.ok) with
    | false => exact ((count_no e f h).bd (countE_bd e f)).pre fun W => rvs_1 (ed_lim he) (rvs_1 (ed_lim hf) rvs_0)
    | true =>
      simp only [Bool.and_eq_true] at h
      exact ((count_ok e f h.1 h.2).bd (countE_bd e f)).pre fun W => rvs_1 (ed_ok he h.1) (rvs_1 (ed_ok hf h.2) rvs_0)
theorem meetEdges_ok (e f : Ed) : Fok Tryz.prog 22 [edV e lim lim, edV f lim lim] (.one (blV (countE e f != 0))) := fok [cCountE] [] [] (by kernel_rfl)
def cMeet : Con where
  f := 22
  g := fun | [⟨true, l⟩, ⟨true, m⟩] => (match toEd l, toEd m with | some e, some f => some (.one (blV (!(countE e f == 0))), []) | _, _ => none) | _ => none
  ok := by
    intro args res ps h hp
    split at h <;> try cases h
    split at h <;> cases h
    rename_i e f he hf
    exact (meetEdges_ok e f).pre fun W => rvs_1 (ed_lim he) (rvs_1 (ed_lim hf) rvs_0)
end Go.Proofs.YtighahcllmoajaaGreat
