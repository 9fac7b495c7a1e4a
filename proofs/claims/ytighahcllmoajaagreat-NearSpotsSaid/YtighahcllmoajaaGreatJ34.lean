/- Commons of the frames of the laws on near: arrays of ints. (They follow the kit's proof-skeleton.) | Plain: edges that are so many times as great. | Plain: distances before they are reduced, how they compare, and the candidates' distances. | Plain: edges that are so many times as great meet as often, and have candidates so many times as great. -/
import Derived.Test.YtighahcllmoajaaGreatJ32
import Derived.Test.YtighahcllmoajaaGreatJ33
import Derived.Test.YtighahcllmoajaaGreatJ29
import Derived.Test.YtighahcllmoajaaGreatJ30
set_option linter.unusedVariables false
set_option linter.unusedSimpArgs false

set_option maxRecDepth 100000
namespace Go.Proofs.YtighahcllmoajaaGreat.fin
open Go.ChangeShapes Go.WideShapes Go.ChangeAt Go.RowKit Go.Joins
set_option linter.unusedVariables false
def In8 (z : Int) : Prop := 0 <= z /\ z <= 255
theorem int8_of {W : World} {base : Nat} {v : Value} (h : Cell.okWide Tryz.prog W .any base 5 v) : ∃ z, v = .int .u8 z /\ In8 z := by
 have hu := Tryz.underlying5
 unfold Cell.okWide at h
 rw [hu] at h
 cases v with
 | int k z =>
  simp only [Cell.ok, hu, IntKind.has] at h
  obtain ⟨rfl, h1, h2⟩ := h
  simp [IntKind.min, IntKind.max, IntKind.signed, IntKind.bits] at h1 h2
  exact ⟨z, rfl, h1, h2⟩
 | _ => simp [Cell.ok, hu] at h
theorem arr_k {kd : IntKind} {te : TypeId} {Q : Int -> Prop} {W : World} {base n k : Nat} {t e : TypeId} {v : Value} (one : ∀ {v : Value}, Cell.okWide Tryz.prog W .any base te v -> ∃ z, v = .int kd z /\ Q z) (hu : Tryz.prog.underlying t = some (.array k e)) (hC : Tryz.prog.cellsOf t = n) (hT : Tryz.prog.cellTypes Tryz.prog.depth t = some (List.replicate n te))
  (hv : Value.okWide Tryz.prog W .any base t v) : ∃ L : List Int, L.length = n /\ v = .agg (L.map (Value.int kd)).toArray /\ ∀ z ∈ L, Q z := by
 unfold Value.okWide at hv
 rw [hu] at hv
 obtain ⟨cs, rfl, hsz, ts, hts, _, hc⟩ := hv
 rw [hC] at hsz
 obtain rfl : List.replicate n te = ts := Option.some.inj (hT.symm.trans hts)
 have hz : ∀ i, i < n -> ∃ z, cs[i]? = some (.int kd z) /\ Q z := by
  intro i hi
  have hq : cs[i]? = some cs[i] := Array.getElem?_eq_getElem (by omega)
  obtain ⟨u, h1, h2⟩ := hc i _ hq
  rw [List.length_replicate, Nat.mod_eq_of_lt hi, List.getElem?_replicate, if_pos hi] at h1
  cases h1
  obtain ⟨z, h3, h4⟩ := one h2
  exact ⟨z, by rw [hq, h3], h4⟩
 have key : ∀ l : List Value, (∀ v ∈ l, ∃ z, v = .int kd z /\ Q z) -> ∃ L : List Int, L.length = l.length /\ l = L.map (Value.int kd) /\ ∀ z ∈ L, Q z := by
  intro l
  induction l with
  | nil => exact fun _ => ⟨[], rfl, rfl, fun z h => by cases h⟩
  | cons x l ih =>
   intro h
   obtain ⟨z, rfl, hz⟩ := h x (List.mem_cons_self ..)
   obtain ⟨L, h1, h2, h3⟩ := ih (fun v hv => h v (List.mem_cons_of_mem _ hv))
   refine ⟨z :: L, by simp [h1], by rw [List.map_cons, <- h2], fun y hy => ?_⟩
   rcases List.mem_cons.1 hy with rfl | hy
   ·exact hz
   ·exact h3 y hy
 obtain ⟨L, h1, h2, h3⟩ := key cs.toList (fun v hv => by
  obtain ⟨i, hi, rfl⟩ := List.getElem_of_mem hv
  simp only [Array.length_toList] at hi
  obtain ⟨z, h1, h2⟩ := hz i (by omega)
  rw [Array.getElem?_eq_getElem hi] at h1
  exact ⟨z, by simpa using h1, h2⟩)
 exact ⟨L, by simpa [hsz] using h1, by rw [<- h2], h3⟩
theorem ints_arr {W : World} {base n k : Nat} {t e : TypeId} {v : Value} (hu : Tryz.prog.underlying t = some (.array k e)) (hC : Tryz.prog.cellsOf t = n) (hT : Tryz.prog.cellTypes Tryz.prog.depth t = some (List.replicate n 3))
  (hv : Value.okWide Tryz.prog W .any base t v) : ∃ L : List Int, L.length = n /\ v = .agg (L.map (Value.int .i64)).toArray /\ ∀ z ∈ L, In64 z := arr_k int_of hu hC hT hv
theorem ints_arr8 {W : World} {base n k : Nat} {t e : TypeId} {v : Value} (hu : Tryz.prog.underlying t = some (.array k e)) (hC : Tryz.prog.cellsOf t = n) (hT : Tryz.prog.cellTypes Tryz.prog.depth t = some (List.replicate n 5))
  (hv : Value.okWide Tryz.prog W .any base t v) : ∃ L : List Int, L.length = n /\ v = .agg (L.map (Value.int .u8)).toArray /\ ∀ z ∈ L, In8 z := arr_k int8_of hu hC hT hv
theorem rv_u8 {w V : World} {r : Nat -> Nat} {k : Nat} : ∀ {L : List Int}, RepV w V r k ⟨true, L.map fun z => .v (.int .u8 z)⟩ (.agg (L.map (Value.int .u8)).toArray) := by
 intro L
 refine rv_t.2 ⟨_, ?_, rfl⟩
 induction L with
 | nil => rfl
 | cons z L ih => exact rl_v.2 ⟨rfl, _, rfl, ih⟩
end Go.Proofs.YtighahcllmoajaaGreat.fin

namespace Go.Proofs.YtighahcllmoajaaGreat
open Go.RowKit
def scE (t : Int) (e : Ed) : Ed := ⟨e.k, t * e.ax, t * e.ay, t * e.bx, t * e.by', t * e.cx, t * e.cy⟩
theorem rot_sc (t : Int) (x y : Int) : ∀ n, rot n (t * x, t * y) = (t * (rot n (x, y)).1, t * (rot n (x, y)).2)
 | 0 => rfl
 | n + 1 => by simp only [rot, rot_sc t x y n, Int.mul_neg]
theorem madeE_sc (L : List Int) (t : Int) : madeE L t = scE t (madeE L 1) := by
 unfold madeE scE
 simp only [Int.one_mul]
 split
 ·simp
 ·have h1 : ∀ n, rot n (t * (1 + nextV L (nextK L (nextK L (nextK L 0))) 12), 0) = (t * (rot n (1 + nextV L (nextK L (nextK L (nextK L 0))) 12, 0)).1, t * (rot n (1 + nextV L (nextK L (nextK L (nextK L 0))) 12, 0)).2) := fun n => by
   have := rot_sc t (1 + nextV L (nextK L (nextK L (nextK L 0))) 12) 0 n
   rwa [Int.mul_zero] at this
  have h2 : ∀ n, rot n (0, t * (1 + nextV L (nextK L (nextK L (nextK L 0))) 12)) = (t * (rot n (0, 1 + nextV L (nextK L (nextK L (nextK L 0))) 12)).1, t * (rot n (0, 1 + nextV L (nextK L (nextK L (nextK L 0))) 12)).2) := fun n => by
   have := rot_sc t 0 (1 + nextV L (nextK L (nextK L (nextK L 0))) 12) n
   rwa [Int.mul_zero] at this
  rw [h1, h2]
  split <;> simp only [Int.mul_add]
theorem mul_lt_sc {t : Int} (ht : 0 < t) (x y : Int) : t * x < t * y ↔ x < y := Int.mul_lt_mul_left ht
theorem mul_le_sc {t : Int} (ht : 0 < t) (x y : Int) : t * x <= t * y ↔ x <= y := Int.mul_le_mul_left ht
theorem mul_eq_sc {t : Int} (ht : 0 < t) (x y : Int) : t * x = t * y ↔ x = y := ⟨fun h => Int.eq_of_mul_eq_mul_left (by omega) h, fun h => by rw [h]⟩
theorem sideI_sc {t : Int} (ht : 0 < t) (x : Int) : sideI (t * x) = sideI x := by
 have h1 := mul_lt_sc ht 0 x
 have h2 := mul_lt_sc ht x 0
 rw [Int.mul_zero] at h1 h2
 unfold sideI
 simp only [h1, h2]
theorem sideZ_both {t : Int} (ht : 0 < t) (a b c : Int) : sideZ (t * a) (t * b) c = sideZ a b c := by
 unfold sideZ
 rw [sgn_mul ht, sgn_mul ht, show t * a * (t * a) = t * t * (a * a) by grind, show t * b * (t * b) * c = t * t * (b * b * c) by grind, cmpZ_mul (Int.mul_pos ht ht)]
theorem sq_lt0 {t : Int} (ht : 0 < t) (d : Int) : t * d < 0 ↔ d < 0 := by
 have := mul_lt_sc ht d 0
 rwa [Int.mul_zero] at this
theorem countZ_sc {t : Int} (ht : 0 < t) (d : Int) (l l' : List (Int × Int)) (h : ∀ s : Int, goodS (t * d) s l' = goodS d s l) : countZ (t * d) l' = countZ d l := by
 have e1 : decide (t * d < 0) = decide (d < 0) := by rw [decide_eq_decide]; exact sq_lt0 ht d
 have e2 : ((digs (t * d).natAbs).length = 0) = ((digs d.natAbs).length = 0) := by
  have k := fun n : Nat => digs_length_le n 0
  have k1 := k (t * d).natAbs
  have k2 := k d.natAbs
  simp only [Nat.le_zero, Nat.pow_zero, Nat.lt_one_iff] at k1 k2
  rw [k1, k2, Int.natAbs_mul, Nat.mul_eq_zero]
  apply propext
  constructor
  ·rintro (h | h)
   ·omega
   ·exact h
  ·exact .inr
 have e3 : signL (decide (t * d < 0)) (digs (t * d).natAbs).length = signL (decide (d < 0)) (digs d.natAbs).length := by
  unfold signL
  rw [e1]
  simp only [e2]
 unfold countZ countL
 rw [e3]
 simp only [h]
theorem cross_sc {t : Int} (ht : 0 < t) (a b : LA) (hS : b.S = t * t * a.S) (hh : b.h = t * t * a.h) (hF : b.F = t * t * a.F) (hr : b.r = t * a.r) (h1 : b.u1 = t * a.u1) (h2 : b.u2 = t * a.u2) (h3 : b.v1 = t * a.v1) (h4 : b.v2 = t * a.v2) :
  countZ b.delta b.list = countZ a.delta a.list := by
 have hg : 0 < t * t := Int.mul_pos ht ht
 have hd : b.delta = t * t * (t * t) * a.delta := by unfold LA.delta; rw [hS, hh, hF, hr]; grind
 rw [hd]
 refine countZ_sc (Int.mul_pos hg hg) _ _ _ fun s => ?_
 have k1 : ∀ x y, sideZ (t * t * x) (s * y) (t * t * (t * t) * a.delta) = sideZ x (s * y) a.delta := fun x y => sideZ_scale hg _ _ _
 have k2 : ∀ x y, sideZ (t * t * t * x) (s * (t * y)) (t * t * (t * t) * a.delta) = sideZ x (s * y) a.delta := fun x y => by
  rw [show t * t * t * x = t * (t * t * x) by grind, show s * (t * y) = t * (s * y) by grind, sideZ_both ht]
  exact k1 x y
 unfold goodS LA.list
 simp only [List.all_cons, List.all_nil]
 rw [hS, hh, h1, h2, h3, h4]
 rw [show 0 - t * t * a.h = t * t * (0 - a.h) by grind, show t * t * a.S - t * t * (0 - a.h) = t * t * (a.S - (0 - a.h)) by grind,
  show t * t * a.S * (t * a.u1) - t * t * a.h * (t * a.u2) = t * t * t * (a.S * a.u1 - a.h * a.u2) by grind, show t * t * a.S * (t * a.v1) - t * t * a.h * (t * a.v2) = t * t * t * (a.S * a.v1 - a.h * a.v2) by grind]
 rw [k1, k1, k2, k2]
theorem arcs_sc {t : Int} (ht : 0 < t) (a b : AA) (hS : b.S = t * t * a.S) (hr : b.r = t * a.r) (hq : b.q = t * a.q) (h1 : b.du = t * a.du) (h2 : b.dv = t * a.dv) (h3 : b.ds = t * a.ds) (h4 : b.dt = t * a.dt) (p1 : b.pu = t * a.pu) (p2 : b.pv = t * a.pv) (p3 : b.ps = t * a.ps) (p4 : b.pt = t * a.pt) :
  countZ b.delta b.list = countZ a.delta a.list := by
 have hg : 0 < t * t := Int.mul_pos ht ht
 have hk : b.k = t * t * a.k := by unfold AA.k; rw [hS, hr, hq]; grind
 have hd : b.delta = t * t * (t * t) * a.delta := by unfold AA.delta; rw [hS, hk, hr]; grind
 rw [hd]
 refine countZ_sc (Int.mul_pos hg hg) _ _ _ fun s => ?_
 have k2 : ∀ x y, sideZ (t * t * t * x) (s * (t * y)) (t * t * (t * t) * a.delta) = sideZ x (s * y) a.delta := fun x y => by
  rw [show t * t * t * x = t * (t * t * x) by grind, show s * (t * y) = t * (s * y) by grind, sideZ_both ht]
  exact sideZ_scale hg _ _ _
 unfold goodS AA.list
 simp only [List.all_cons, List.all_nil]
 rw [hS, hk, h1, h2, h3, h4, p1, p2, p3, p4]
 rw [show t * t * a.k * (t * a.du) = t * t * t * (a.k * a.du) by grind, show t * t * a.k * (t * a.dv) = t * t * t * (a.k * a.dv) by grind,
  show (t * t * a.k - 2 * (t * t * a.S)) * (t * a.ds) = t * t * t * ((a.k - 2 * a.S) * a.ds) by grind, show (t * t * a.k - 2 * (t * t * a.S)) * (t * a.dt) = t * t * t * ((a.k - 2 * a.S) * a.dt) by grind]
 rw [k2, k2, k2, k2]
end Go.Proofs.YtighahcllmoajaaGreat

namespace Go.Proofs.YtighahcllmoajaaGreat
open Go.RowKit
theorem side0 (y t : Int) : sideZ y t 0 = sgn y := by
 have : sgn 0 = 0 := rfl
 unfold sideZ
 rw [this, Int.mul_zero, Int.mul_zero, if_pos (Int.le_refl 0)]
 rcases sgn_cases y with ⟨h, _⟩ | ⟨h, _⟩ | ⟨h, _⟩ <;> rw [h] <;> decide
theorem cmp_red1 {g : Int} (h : 0 < g) (A s n d t m e : Int) : cmpR A s (g * n) (g * d) t m e = cmpR A s n d t m e := by
 unfold cmpR
 rw [show A * (g * d) = g * (A * d) by grind, show g * n * (g * d) = g * g * (n * d) by grind, sideZ_scale h,
  show A * A * (g * d) * e + g * n * e - m * (g * d) = g * (A * A * d * e + n * e - m * d) by grind, sideZ_scale h]
theorem cmp_red2 {g : Int} (h : 0 < g) (A s n d t m e : Int) : cmpR A s n d t (g * m) (g * e) = cmpR A s n d t m e := by
 unfold cmpR
 rw [show A * A * d * (g * e) + n * (g * e) - g * m * d = g * (A * A * d * e + n * e - m * d) by grind, show 2 * A * s * (g * e) = g * (2 * A * s * e) by grind, sideZ_both h]
theorem cmp_scl {t : Int} (ht : 0 < t) (A s n d u m e : Int) : cmpR (t * A) s (t * t * n) d u (t * t * m) e = cmpR A s n d u m e := by
 unfold cmpR
 have k : ∀ x y c : Int, sideZ (t * t * x) (t * y) (t * t * c) = sideZ x y c := fun x y c => by
  rw [show t * t * x = t * (t * x) by grind, sideZ_both ht, sideZ_scale ht]
 rw [show t * A * d = t * (A * d) by grind, show t * t * n * d = t * t * (n * d) by grind, sideZ_scale ht,
  show t * A * (t * A) * d * e + t * t * n * e - t * t * m * d = t * t * (A * A * d * e + n * e - m * d) by grind, show 2 * (t * A) * s * e = t * (2 * A * s * e) by grind, k]
structure Q4 where
 a : Int
 s : Int
 n : Int
 d : Int
def Q4.rt (x : Q4) : Rt := dR x.a x.s x.n x.d
structure Q4.ok (x : Q4) : Prop where
 s : x.s = 1 \/ x.s = -1
 n0 : 0 <= x.n
 n1 : x.n < 85070591730234615865843651857942052864 * 4
 d0 : 0 < x.d
 d1 : x.d < 85070591730234615865843651857942052864 * 4
def nz (s n : Int) : Int := if n = 0 then 0 else s
def cmpQ (x y : Q4) : Int := cmpR (x.a - y.a) (nz x.s x.n) x.n x.d (nz y.s y.n) y.n y.d
def intQ (i : Int) : Q4 := ⟨i, 1, 0, 1⟩
theorem rootOf_nz {a s : Int} {n d : Nat} (hs : s = 1 \/ s = -1) (hd : 0 < d) : rootOf a s n d = ⟨a, nz s n, ofZ ((n / Nat.gcd n d : Nat) : Int), ofZ ((d / Nat.gcd n d : Nat) : Int)⟩ := by
 unfold rootOf nz
 by_cases h : n = 0
 ·subst h
  rw [if_pos (.inr rfl), if_pos (by simp), Nat.gcd_zero_left, Nat.zero_div, Nat.div_self hd]
  congr 1
  exact lit_0.symm
 ·rw [if_neg (by omega), if_neg (by omega)]
theorem Q4.ok.root {x : Q4} (h : x.ok) : x.rt = rootOf x.a x.s x.n.toNat x.d.toNat /\ x.rt.Ok /\ x.rt.right = true := by
 obtain ⟨e, h1, h2, h3⟩ := dR_root (add := x.a) (s := x.s) (by rcases h.s with h | h <;> omega) h.n0 h.n1 h.d0 h.d1
 obtain ⟨k1, k2⟩ := whole_ok (add := x.a) (s := x.s) (by rcases h.s with h | h <;> omega) h1 h2 h3
 have e : x.rt = rootOf x.a x.s x.n.toNat x.d.toNat := e
 rw [e]
 exact ⟨rfl, k1, k2⟩
theorem cmpQ_rt {x y : Q4} (hx : x.ok) (hy : y.ok) : cmpRt x.rt y.rt = cmpQ x y := by
 obtain ⟨e1, _, r1⟩ := hx.root
 obtain ⟨e2, _, r2⟩ := hy.root
 unfold cmpRt
 rw [r1, r2]
 simp only [Bool.and_self, if_true]
 have d1 := hx.d0
 have d2 := hy.d0
 have p1 : 0 < x.d.toNat := by omega
 have p2 : 0 < y.d.toNat := by omega
 rw [e1, e2, rootOf_nz hx.s p1, rootOf_nz hy.s p2]
 simp only [ofZ_z]
 have n1 : ((x.n.toNat : Nat) : Int) = x.n := Int.toNat_of_nonneg hx.n0
 have n2 : ((y.n.toNat : Nat) : Int) = y.n := Int.toNat_of_nonneg hy.n0
 have m1 : ((x.d.toNat : Nat) : Int) = x.d := Int.toNat_of_nonneg (by omega)
 have m2 : ((y.d.toNat : Nat) : Int) = y.d := Int.toNat_of_nonneg (by omega)
 rw [n1, n2]
 have key : ∀ n d : Nat, 0 < d -> 0 < (Nat.gcd n d : Int) /\ (n : Int) = (Nat.gcd n d : Int) * ((n / Nat.gcd n d : Nat) : Int) /\ (d : Int) = (Nat.gcd n d : Int) * ((d / Nat.gcd n d : Nat) : Int) := fun n d h => by
  have hg : 0 < Nat.gcd n d := Nat.gcd_pos_of_pos_right _ h
  exact ⟨by omega, by rw [<- Int.natCast_mul, Nat.mul_div_cancel' (Nat.gcd_dvd_left _ _)], by rw [<- Int.natCast_mul, Nat.mul_div_cancel' (Nat.gcd_dvd_right _ _)]⟩
 obtain ⟨g1, a1, b1⟩ := key x.n.toNat x.d.toNat p1
 obtain ⟨g2, a2, b2⟩ := key y.n.toNat y.d.toNat p2
 rw [n1] at a1
 rw [n2] at a2
 rw [m1] at b1
 rw [m2] at b2
 unfold cmpQ
 rw [<- cmp_red1 g1 _ _ _ _ _ _ _, <- cmp_red2 g2 _ _ _ _ _ _ _, <- a1, <- a2, <- b1, <- b2]
theorem u0 : (0 : Int) < 1 := by decide
theorem u1 : (1 : Int) < 85070591730234615865843651857942052864 * 4 := by decide
theorem uz : (0 : Int) < 85070591730234615865843651857942052864 * 4 := by decide
theorem intQ_ok (i : Int) : (intQ i).ok := ⟨.inl rfl, Int.le_refl 0, uz, u0, u1⟩
theorem intQ_rt (i : Int) : (intQ i).rt = ⟨i, 0, zero, ofZ 1⟩ := by
 rw [(intQ_ok i).root.1]
 unfold rootOf
 rw [if_pos (.inr rfl)]
 rfl
def scQ (t : Int) (x : Q4) : Q4 := ⟨t * x.a, x.s, t * t * x.n, x.d⟩
def simQ (x y : Q4) : Prop := ∀ z, cmpQ x z = cmpQ y z /\ cmpQ z x = cmpQ z y
theorem simQ.refl (x : Q4) : simQ x x := fun _ => ⟨rfl, rfl⟩
theorem nz_mul {g : Int} (h : 0 < g) (s n : Int) : nz s (g * n) = nz s n := by
 unfold nz
 have : g * n = 0 ↔ n = 0 := by rw [Int.mul_eq_zero]; omega
 simp only [this]
theorem simQ.mul {g : Int} (h : 0 < g) (a s n d : Int) : simQ ⟨a, s, g * n, g * d⟩ ⟨a, s, n, d⟩ := fun z => by
 unfold cmpQ
 simp only [nz_mul h]
 exact ⟨cmp_red1 h _ _ _ _ _ _ _, cmp_red2 h _ _ _ _ _ _ _⟩
theorem cmpQ_sc {t : Int} (ht : 0 < t) (x y : Q4) : cmpQ (scQ t x) (scQ t y) = cmpQ x y := by
 unfold cmpQ scQ
 simp only [nz_mul (Int.mul_pos ht ht), <- Int.mul_sub]
 exact cmp_scl ht _ _ _ _ _ _ _
def leastQ : List Q4 -> Q4
 | [] => intQ 0
 | x :: l => l.foldl (fun x y => if cmpQ y x < 0 then y else x) x
def simL (t : Int) : List Q4 -> List Q4 -> Prop
 | [], [] => True
 | a :: l, b :: m => simQ b (scQ t a) /\ simL t l m
 | _, _ => False
theorem least_sim {t : Int} (ht : 0 < t) : ∀ {l m : List Q4} {x y : Q4}, simQ y (scQ t x) -> simL t l m ->
  simQ (m.foldl (fun x y => if cmpQ y x < 0 then y else x) y) (scQ t (l.foldl (fun x y => if cmpQ y x < 0 then y else x) x))
 | [], [], x, y, h, _ => h
 | [], _ :: _, _, _, _, h => h.elim
 | _ :: _, [], _, _, _, h => h.elim
 | a :: l, b :: m, x, y, h, ⟨h1, h2⟩ => by
  simp only [List.foldl_cons]
  have e : cmpQ b y = cmpQ a x := by rw [(h1 y).1, (h _).2, cmpQ_sc ht]
  rw [e]
  split
  ·exact least_sim ht h1 h2
  ·exact least_sim ht h h2
def endQ (px py qx qy : Int) : Q4 := ⟨0, 1, sqI (px - qx) (py - qy), 1⟩
def lineQ (e : Ed) (px py : Int) : Q4 :=
 if (px - e.ax) * (e.bx - e.ax) + (py - e.ay) * (e.by' - e.ay) <= 0 then endQ px py e.ax e.ay
 else if sqI (e.bx - e.ax) (e.by' - e.ay) <= (px - e.ax) * (e.bx - e.ax) + (py - e.ay) * (e.by' - e.ay) then endQ px py e.bx e.by'
 else ⟨0, 1, ((e.bx - e.ax) * (py - e.ay) - (e.by' - e.ay) * (px - e.ax)) * ((e.bx - e.ax) * (py - e.ay) - (e.by' - e.ay) * (px - e.ax)), sqI (e.bx - e.ax) (e.by' - e.ay)⟩
def arcQ (e : Ed) (px py : Int) : Q4 :=
 if inQ e (px - e.cx) (py - e.cy) then
  (if radZ e * radZ e <= sqI (px - e.cx) (py - e.cy) then ⟨-radZ e, 1, sqI (px - e.cx) (py - e.cy), 1⟩ else ⟨radZ e, -1, sqI (px - e.cx) (py - e.cy), 1⟩)
 else if sqI (px - e.bx) (py - e.by') < sqI (px - e.ax) (py - e.ay) then endQ px py e.bx e.by' else endQ px py e.ax e.ay
def pointQ (e : Ed) (px py : Int) : Q4 := if e.k = 1 then lineQ e px py else arcQ e px py
def footQ (l a : Ed) : List Q4 :=
 let dx := l.bx - l.ax
 let dy := l.by' - l.ay
 let t := (a.cx - l.ax) * dx + (a.cy - l.ay) * dy
 let c := dx * (a.cy - l.ay) - dy * (a.cx - l.ax)
 let nx := if 0 < c then dy else -dy
 let ny := if 0 < c then -dx else dx
 if t <= 0 \/ sqI dx dy <= t \/ c * c <= radZ a * radZ a * sqI dx dy \/ inQ a nx ny = false then [] else [⟨-radZ a, 1, c * c, sqI dx dy⟩]
def centQ (a b : Ed) : List Q4 :=
 let vx := b.cx - a.cx
 let vy := b.cy - a.cy
 let r := radZ a
 let s := radZ b
 let n := sqI vx vy
 if (r + s) * (r + s) < n then (if inQ a vx vy && inQ b (-vx) (-vy) then [⟨-r - s, 1, n, 1⟩] else [])
 else if (r - s) * (r - s) <= n then []
 else if s < r then (if inQ a vx vy && inQ b vx vy then [⟨r - s, -1, n, 1⟩] else [])
 else (if inQ a (-vx) (-vy) && inQ b (-vx) (-vy) then [⟨s - r, -1, n, 1⟩] else [])
def innerQ (a b : Ed) : List Q4 := if a.k = 1 then (if b.k = 1 then [] else footQ a b) else if b.k = 1 then footQ b a else centQ a b
def candQ (a b : Ed) : List Q4 := [pointQ b a.ax a.ay, pointQ b a.bx a.by', pointQ a b.ax b.ay, pointQ a b.bx b.by'] ++ innerQ a b
theorem lt64 {x : Int} (h : I64 x) : x < 85070591730234615865843651857942052864 * 4 := by unfold I64 at h; omega
theorem endQ_ok {px py qx qy : Int} (h1 : Co px) (h2 : Co py) (h3 : Co qx) (h4 : Co qy) : (endQ px py qx qy).ok :=
 ⟨.inl rfl, sqI_nn _ _, lt64 ((h1.sub h3).sq (h2.sub h4)), u0, u1⟩
theorem pointQ_ok {e : Ed} {x y : Int} (he : e.ok = true) (hx : Co x) (hy : Co y) : (pointQ e x y).ok := by
 obtain ⟨⟨a1, a2⟩, ⟨b1, b2⟩, c1, c2⟩ := ok_right he
 unfold pointQ
 split
 ·unfold lineQ
  split
  ·exact endQ_ok hx hy a1 a2
  split
  ·exact endQ_ok hx hy b1 b2
  rename_i h1 h2
  have iC : I64 ((e.bx - e.ax) * (y - e.ay) - (e.by' - e.ay) * (x - e.ax)) := (b1.sub a1).cross (hy.sub a2) (b2.sub a2) (hx.sub a1)
  have iQ : I64 (sqI (e.bx - e.ax) (e.by' - e.ay)) := (b1.sub a1).sq (b2.sub a2)
  exact ⟨.inl rfl, sqz_nn _, (sq_lt iC).2, by show 0 < sqI _ _; omega, lt64 iQ⟩
 ·unfold arcQ
  have iN : I64 (sqI (x - e.cx) (y - e.cy)) := (hx.sub c1).sq (hy.sub c2)
  split
  ·split
   ·exact ⟨.inl rfl, sqI_nn _ _, lt64 iN, u0, u1⟩
   ·exact ⟨.inr rfl, sqI_nn _ _, lt64 iN, u0, u1⟩
  split
  ·exact endQ_ok hx hy b1 b2
  ·exact endQ_ok hx hy a1 a2
theorem pointR_Q {e : Ed} {x y : Int} (he : e.ok = true) (hp : coordB x y = true) : (pointR e x y).1 = (pointQ e x y).rt := by
 unfold pointR pointQ
 rw [he, hp]
 simp only [Bool.and_self, Bool.not_true, Bool.false_eq_true, if_false]
 split
 ·unfold lineR lineQ
  (repeat' split) <;> rfl
 ·unfold arcR arcQ
  (repeat' split) <;> rfl
theorem ite_mem {p : Prop} [Decidable p] {x z : Q4} (h : z ∈ if p then [] else [x]) : ¬ p /\ z = x := by
 split at h
 ·cases h
 ·exact ⟨by assumption, List.mem_singleton.1 h⟩
theorem map_ite {α : Type} (f : α -> Rt) {p : Prop} [Decidable p] (x : α) : (if p then [] else [x]).map f = if p then [] else [f x] := by split <;> rfl
theorem footQ_ok {l a : Ed} (hl : l.ok = true) (ha : a.ok = true) : ∀ x ∈ footQ l a, x.ok := by
 obtain ⟨⟨l1, l2⟩, ⟨l3, l4⟩, _⟩ := ok_right hl
 obtain ⟨_, _, a5, a6⟩ := ok_right ha
 intro x hx
 unfold footQ at hx
 obtain ⟨h, rfl⟩ := ite_mem hx
 have iC : I64 ((l.bx - l.ax) * (a.cy - l.ay) - (l.by' - l.ay) * (a.cx - l.ax)) := (l3.sub l1).cross (a6.sub l2) (l4.sub l2) (a5.sub l1)
 have iQ : I64 (sqI (l.bx - l.ax) (l.by' - l.ay)) := (l3.sub l1).sq (l4.sub l2)
 have h1 := Int.not_le.1 fun g => h (.inl g)
 have h2 := Int.not_le.1 fun g => h (.inr (.inl g))
 exact ⟨.inl rfl, sqz_nn _, (sq_lt iC).2, Int.lt_trans h1 h2, lt64 iQ⟩
theorem centQ_ok {a b : Ed} (ha : a.ok = true) (hb : b.ok = true) : ∀ x ∈ centQ a b, x.ok := by
 obtain ⟨_, _, a5, a6⟩ := ok_right ha
 obtain ⟨_, _, b5, b6⟩ := ok_right hb
 have iN : I64 (sqI (b.cx - a.cx) (b.cy - a.cy)) := (b5.sub a5).sq (b6.sub a6)
 unfold centQ
 simp only
 intro x hx
 (repeat' split at hx) <;> first | (cases hx; done) | (first | exact List.mem_singleton.1 hx ▸ ⟨.inl rfl, sqI_nn _ _, lt64 iN, u0, u1⟩ | exact List.mem_singleton.1 hx ▸ ⟨.inr rfl, sqI_nn _ _, lt64 iN, u0, u1⟩)
theorem innerQ_ok {a b : Ed} (ha : a.ok = true) (hb : b.ok = true) : ∀ x ∈ innerQ a b, x.ok := by
 intro x hx
 unfold innerQ at hx
 split at hx
 ·split at hx
  ·cases hx
  ·exact footQ_ok ha hb x hx
 ·split at hx
  ·exact footQ_ok hb ha x hx
  ·exact centQ_ok ha hb x hx
theorem footR_Q (l a : Ed) : (footR l a).map Pr.d = (footQ l a).map Q4.rt := by
 unfold footR footQ
 simp only [map_ite, Q4.rt]
theorem centR_Q (a b : Ed) : (centR a b).map Pr.d = (centQ a b).map Q4.rt := by
 unfold centR centQ
 simp only
 (repeat' split) <;> rfl
theorem innerR_Q (a b : Ed) : (innerR a b).map Pr.d = (innerQ a b).map Q4.rt := by
 unfold innerR innerQ
 split
 ·split
  ·rfl
  ·exact footR_Q a b
 ·split
  ·rw [List.map_map]; exact footR_Q b a
  ·exact centR_Q a b
theorem candR_Q {a b : Ed} (ha : a.ok = true) (hb : b.ok = true) : (candR a b).map Pr.d = (candQ a b).map Q4.rt := by
 have ca := ok_right ha
 have cb := ok_right hb
 unfold candR candQ
 rw [List.map_append, List.map_append, innerR_Q, pointR_Q hb (coordB_iff.2 ca.1), pointR_Q hb (coordB_iff.2 ca.2.1), pointR_Q ha (coordB_iff.2 cb.1), pointR_Q ha (coordB_iff.2 cb.2.1)]
 rfl
theorem candQ_ok {a b : Ed} (ha : a.ok = true) (hb : b.ok = true) : ∀ x ∈ candQ a b, x.ok := by
 obtain ⟨⟨a1, a2⟩, ⟨a3, a4⟩, _⟩ := ok_right ha
 obtain ⟨⟨b1, b2⟩, ⟨b3, b4⟩, _⟩ := ok_right hb
 intro x hx
 unfold candQ at hx
 rcases List.mem_append.1 hx with hx | hx
 ·simp only [List.mem_cons, List.not_mem_nil, or_false] at hx
  rcases hx with rfl | rfl | rfl | rfl
  ·exact pointQ_ok hb a1 a2
  ·exact pointQ_ok hb a3 a4
  ·exact pointQ_ok ha b1 b2
  ·exact pointQ_ok ha b3 b4
 ·exact innerQ_ok ha hb x hx
theorem fold_Q : ∀ {l : List Pr} {m : List Q4} {x : Pr} {y : Q4}, x.d = y.rt -> y.ok -> l.map Pr.d = m.map Q4.rt -> (∀ z ∈ m, z.ok) -> (l.foldl betterP x).d = (m.foldl (fun x y => if cmpQ y x < 0 then y else x) y).rt
 | [], [], _, _, h, _, _, _ => h
 | [], _ :: _, _, _, _, _, e, _ => by cases e
 | _ :: _, [], _, _, _, _, e, _ => by cases e
 | a :: l, b :: m, x, y, h, ho, e, hm => by
  simp only [List.map_cons, List.cons.injEq] at e
  have hb := hm b (List.mem_cons_self ..)
  have hm' : ∀ z ∈ m, z.ok := fun z hz => hm z (List.mem_cons_of_mem _ hz)
  simp only [List.foldl_cons]
  have k : cmpRt a.d x.d = cmpQ b y := by rw [e.1, h, cmpQ_rt hb ho]
  unfold betterP at *
  rw [k]
  split
  ·exact fold_Q e.1 hb e.2 hm'
  ·exact fold_Q h ho e.2 hm'
theorem least_Q {l : List Pr} {m : List Q4} (h0 : l ≠ []) (e : l.map Pr.d = m.map Q4.rt) (hm : ∀ z ∈ m, z.ok) : (leastP l).d = (leastQ m).rt := by
 cases l with
 | nil => exact absurd rfl h0
 | cons x l =>
  cases m with
  | nil => cases e
  | cons y m =>
   simp only [List.map_cons, List.cons.injEq] at e
   exact fold_Q e.1 (hm y (List.mem_cons_self ..)) e.2 fun z hz => hm z (List.mem_cons_of_mem _ hz)
theorem edgesR_Q {a b : Ed} (ha : a.ok = true) (hb : b.ok = true) (hc : countE a b = 0) : (edgesR a b).d = (leastQ (candQ a b)).rt := by
 unfold edgesR
 rw [if_neg (by rw [ha, hb, hc]; decide)]
 exact least_Q (by unfold candR; exact fun h => nomatch h) (candR_Q ha hb) (candQ_ok ha hb)
theorem fold_mem : ∀ {m : List Q4} {y : Q4}, (m.foldl (fun x y => if cmpQ y x < 0 then y else x) y) = y \/ (m.foldl (fun x y => if cmpQ y x < 0 then y else x) y) ∈ m
 | [], _ => .inl rfl
 | b :: m, y => by
  simp only [List.foldl_cons]
  split
  ·rcases fold_mem (m := m) (y := b) with h | h
   ·rw [h]; exact .inr (List.mem_cons_self ..)
   ·exact .inr (List.mem_cons_of_mem _ h)
  ·rcases fold_mem (m := m) (y := y) with h | h
   ·exact .inl h
   ·exact .inr (List.mem_cons_of_mem _ h)
theorem candQ_ne (a b : Ed) : candQ a b ≠ [] := fun h => nomatch h
theorem leastQ_mem {m : List Q4} (h : m ≠ []) : leastQ m ∈ m := by
 cases m with
 | nil => exact absurd rfl h
 | cons y m =>
  show m.foldl _ y ∈ y :: m
  rcases fold_mem (m := m) (y := y) with h | h
  ·rw [h]; exact List.mem_cons_self ..
  ·exact List.mem_cons_of_mem _ h
theorem leastQ_le' {m : List Q4} (h : m ≠ []) (hm : ∀ z ∈ m, z.ok) : (leastQ m).ok := hm _ (leastQ_mem h)
end Go.Proofs.YtighahcllmoajaaGreat

namespace Go.Proofs.YtighahcllmoajaaGreat
open Go.RowKit
def tI (e : Ed) (x y : Int) : Int := (x - e.ax) * (e.bx - e.ax) + (y - e.ay) * (e.by' - e.ay)
def cI (e : Ed) (x y : Int) : Int := (e.bx - e.ax) * (y - e.ay) - (e.by' - e.ay) * (x - e.ax)
def qI (e : Ed) : Int := sqI (e.bx - e.ax) (e.by' - e.ay)
theorem lineQ_eq (e : Ed) (x y : Int) : lineQ e x y = if tI e x y <= 0 then endQ x y e.ax e.ay else if qI e <= tI e x y then endQ x y e.bx e.by' else ⟨0, 1, cI e x y * cI e x y, qI e⟩ := rfl
theorem simL_ite {t : Int} {p : Prop} [Decidable p] {x y : Q4} (h : simQ y (scQ t x)) : simL t (if p then [] else [x]) (if p then [] else [y]) := by
 split
 ·trivial
 ·exact ⟨h, trivial⟩
theorem mul_le0 {t : Int} (ht : 0 < t) (x : Int) : t * x <= 0 ↔ x <= 0 := by
 have := mul_le_sc ht x 0
 rwa [Int.mul_zero] at this
theorem mul_ge0 {t : Int} (ht : 0 < t) (x : Int) : 0 <= t * x ↔ 0 <= x := by
 have := mul_le_sc ht 0 x
 rwa [Int.mul_zero] at this
theorem mul_eq0 {t : Int} (ht : 0 < t) (x : Int) : t * x = 0 ↔ x = 0 := by
 have := mul_eq_sc ht x 0
 rwa [Int.mul_zero] at this
theorem mul_gt0 {t : Int} (ht : 0 < t) (x : Int) : 0 < t * x ↔ 0 < x := by
 have := mul_lt_sc ht 0 x
 rwa [Int.mul_zero] at this
theorem max_sc {t : Int} (ht : 0 < t) (x y : Int) : max (t * x) (t * y) = t * max x y := by
 have := mul_le_sc ht x y
 rw [Int.max_def, Int.max_def]
 split <;> split <;> first | rfl | (exfalso; omega)
theorem min_sc {t : Int} (ht : 0 < t) (x y : Int) : min (t * x) (t * y) = t * min x y := by
 have := mul_le_sc ht x y
 rw [Int.min_def, Int.min_def]
 split <;> split <;> first | rfl | (exfalso; omega)
theorem rad_sc {t : Int} (ht : 0 < t) {e : Ed} (h : e.ok = true) (h' : (scE t e).ok = true) : radZ (scE t e) = t * radZ e := by
 unfold radZ
 rw [h, h']
 show (if (true && !(e.k == 1)) = true then max (max (t * e.ax - t * e.cx) (-(t * e.ax - t * e.cx))) (max (t * e.ay - t * e.cy) (-(t * e.ay - t * e.cy))) else 0) = _
 split
 ·rw [<- Int.mul_sub, <- Int.mul_sub, <- Int.mul_neg, <- Int.mul_neg, max_sc ht, max_sc ht, max_sc ht]
 ·rw [Int.mul_zero]
theorem tdiv_sc {t : Int} (ht : 0 < t) (x r : Int) : (t * x).tdiv (t * r) = x.tdiv r := Int.mul_tdiv_mul_of_pos _ _ ht
theorem axes_sc {t : Int} (ht : 0 < t) {e : Ed} (h : e.ok = true) (h' : (scE t e).ok = true) : (scE t e).ux = e.ux /\ (scE t e).uy = e.uy /\ (scE t e).vx = e.vx /\ (scE t e).vy = e.vy := by
 unfold Ed.ux Ed.uy Ed.vx Ed.vy
 rw [rad_sc ht h h']
 simp only [scE, <- Int.mul_sub, tdiv_sc ht]
 exact ⟨trivial, trivial, trivial, trivial⟩
theorem pt_sc {t : Int} (ht : 0 < t) (e : Ed) : (scE t e).pt = e.pt := by
 unfold Ed.pt scE
 simp only [Bool.beq_eq_decide_eq, mul_eq_sc ht]
theorem onE_sc {t : Int} (ht : 0 < t) {e : Ed} (h : e.ok = true) (h' : (scE t e).ok = true) (x y : Int) : onE (scE t e) (t * x) (t * y) = onE e x y := by
 have hg : 0 < t * t := Int.mul_pos ht ht
 unfold onE
 rw [h, h']
 unfold inB
 simp only [scE, min_sc ht, max_sc ht, mul_le_sc ht]
 rw [show (t * e.bx - t * e.ax) * (t * y - t * e.ay) - (t * e.by' - t * e.ay) * (t * x - t * e.ax) = t * t * ((e.bx - e.ax) * (y - e.ay) - (e.by' - e.ay) * (x - e.ax)) by grind, sideI_sc hg]
 rw [show powerI (t * x - t * e.cx) (t * y - t * e.cy) (t * e.ax - t * e.cx) (t * e.ay - t * e.cy) = t * t * powerI (x - e.cx) (y - e.cy) (e.ax - e.cx) (e.ay - e.cy) by unfold powerI; grind]
 simp only [Bool.beq_eq_decide_eq, mul_eq0 hg]
theorem crI_sc {t : Int} (a b c d e f : Int) : crI (t * a) (t * b) (t * c) (t * d) (t * e) (t * f) = t * t * crI a b c d e f := by unfold crI; grind
theorem linesZ_sc {t : Int} (ht : 0 < t) (px py qx qy rx ry sx sy : Int) : linesZ (t * px) (t * py) (t * qx) (t * qy) (t * rx) (t * ry) (t * sx) (t * sy) = linesZ px py qx qy rx ry sx sy := by
 have hg : 0 < t * t := Int.mul_pos ht ht
 unfold linesZ
 simp only [crI_sc, sideI_sc hg]
 have e : ∀ a b : Int, t * a * (t * b) = t * t * (a * b) := fun a b => by grind
 have e0 : ∀ x : Int, max 0 (t * t * x) = t * t * max 0 x := fun x => by
  have := max_sc hg 0 x
  rwa [Int.mul_zero] at this
 simp only [e, e0, <- Int.mul_sub, <- Int.mul_add, min_sc hg, max_sc hg, mul_lt_sc hg, mul_eq_sc hg, mul_eq0 hg, ne_eq]
theorem countE_sc {t : Int} (ht : 0 < t) {a b : Ed} (ha : a.ok = true) (hb : b.ok = true) (ha' : (scE t a).ok = true) (hb' : (scE t b).ok = true) : countE (scE t a) (scE t b) = countE a b := by
 have hg : 0 < t * t := Int.mul_pos ht ht
 have cross : ∀ {l e : Ed}, l.ok = true -> e.ok = true -> (scE t l).ok = true -> (scE t e).ok = true -> crossZ (scE t l) (scE t e) = crossZ l e := fun {l e} hl he hl' he' => by
  obtain ⟨u1, u2, u3, u4⟩ := axes_sc ht he he'
  unfold crossZ
  refine cross_sc ht (laE l e) (laE (scE t l) (scE t e)) ?_ ?_ ?_ (rad_sc ht he he') ?_ ?_ ?_ ?_ <;> (simp only [laE, u1, u2, u3, u4]; simp only [scE]; grind)
 have arcs : arcsZ (scE t a) (scE t b) = arcsZ a b := by
  obtain ⟨u1, u2, u3, u4⟩ := axes_sc ht ha ha'
  obtain ⟨v1, v2, v3, v4⟩ := axes_sc ht hb hb'
  unfold arcsZ
  rw [u1, u2, u3, u4, v1, v2, v3, v4, rad_sc ht ha ha', rad_sc ht hb hb']
  have e1 : (scE t a).cx = (scE t b).cx ↔ a.cx = b.cx := mul_eq_sc ht _ _
  have e2 : (scE t a).cy = (scE t b).cy ↔ a.cy = b.cy := mul_eq_sc ht _ _
  simp only [e1, e2, Bool.beq_eq_decide_eq, mul_eq_sc ht]
  split
  ·rfl
  ·refine arcs_sc ht (aaE a b) (aaE (scE t a) (scE t b)) ?_ (rad_sc ht ha ha') (rad_sc ht hb hb') ?_ ?_ ?_ ?_ ?_ ?_ ?_ ?_ <;> (simp only [aaE, u1, u2, u3, u4, v1, v2, v3, v4]; simp only [scE]; grind)
 unfold countE
 rw [ha, hb, ha', hb']
 rw [arcs, cross ha hb ha' hb', cross hb ha hb' ha', pt_sc ht, pt_sc ht]
 unfold onZ
 show (if (!(true && true)) = true then _ else if a.k = 1 then (if a.pt = true then (if onE (scE t b) (t * a.ax) (t * a.ay) = true then 1 else 0) else if b.k = 1 then (if b.pt = true then (if onE (scE t a) (t * b.ax) (t * b.ay) = true then 1 else 0) else linesZ (t * a.ax) (t * a.ay) (t * a.bx) (t * a.by') (t * b.ax) (t * b.ay) (t * b.bx) (t * b.by')) else crossZ a b)
  else if b.k = 1 then (if b.pt = true then (if onE (scE t a) (t * b.ax) (t * b.ay) = true then 1 else 0) else crossZ b a) else arcsZ a b) = _
 rw [onE_sc ht ha ha', onE_sc ht hb hb', linesZ_sc ht]
theorem sqI_sc {t : Int} (x y : Int) : sqI (t * x) (t * y) = t * t * sqI x y := by unfold sqI; grind
theorem endQ_sc {t : Int} (_ : 0 < t) (a b c d : Int) : endQ (t * a) (t * b) (t * c) (t * d) = scQ t (endQ a b c d) := by
 unfold endQ scQ
 rw [<- Int.mul_sub, <- Int.mul_sub, sqI_sc, Int.mul_zero]
theorem tI_sc {t : Int} (e : Ed) (x y : Int) : tI (scE t e) (t * x) (t * y) = t * t * tI e x y := by unfold tI scE; grind
theorem cI_sc {t : Int} (e : Ed) (x y : Int) : cI (scE t e) (t * x) (t * y) = t * t * cI e x y := by unfold cI scE; grind
theorem qI_sc {t : Int} (e : Ed) : qI (scE t e) = t * t * qI e := by unfold qI scE sqI; grind
theorem lineQ_sc {t : Int} (ht : 0 < t) (e : Ed) (x y : Int) : simQ (lineQ (scE t e) (t * x) (t * y)) (scQ t (lineQ e x y)) := by
 have hg : 0 < t * t := Int.mul_pos ht ht
 rw [lineQ_eq, lineQ_eq]
 simp only [tI_sc, qI_sc, cI_sc, mul_le0 hg, mul_le_sc hg]
 split
 ·rw [<- endQ_sc ht]; exact simQ.refl _
 split
 ·rw [<- endQ_sc ht]; exact simQ.refl _
 unfold scQ
 simp only [Int.mul_zero]
 rw [show t * t * cI e x y * (t * t * cI e x y) = t * t * (t * t * (cI e x y * cI e x y)) by grind]
 exact simQ.mul hg _ _ _ _
theorem wiB_sc {t : Int} (ht : 0 < t) (a b c d e f : Int) : wiB (t * a) (t * b) (t * c) (t * d) (t * e) (t * f) = wiB a b c d e f := by
 have hg : 0 < t * t := Int.mul_pos ht ht
 unfold wiB
 rw [show t * c * (t * b) - t * d * (t * a) = t * t * (c * b - d * a) by grind, show t * a * (t * f) - t * b * (t * e) = t * t * (a * f - b * e) by grind]
 simp only [mul_ge0 hg]
theorem inQ_sc {t : Int} (ht : 0 < t) (e : Ed) (x y : Int) : inQ (scE t e) (t * x) (t * y) = inQ e x y := by
 unfold inQ
 simp only [scE, <- Int.mul_sub, wiB_sc ht, Bool.beq_eq_decide_eq, mul_eq0 ht]
theorem arcQ_sc {t : Int} (ht : 0 < t) {e : Ed} (h : e.ok = true) (h' : (scE t e).ok = true) (x y : Int) : arcQ (scE t e) (t * x) (t * y) = scQ t (arcQ e x y) := by
 have hg : 0 < t * t := Int.mul_pos ht ht
 have c1 : t * x - (scE t e).cx = t * (x - e.cx) := (Int.mul_sub ..).symm
 have c2 : t * y - (scE t e).cy = t * (y - e.cy) := (Int.mul_sub ..).symm
 have c3 : t * x - (scE t e).bx = t * (x - e.bx) := (Int.mul_sub ..).symm
 have c4 : t * y - (scE t e).by' = t * (y - e.by') := (Int.mul_sub ..).symm
 have c5 : t * x - (scE t e).ax = t * (x - e.ax) := (Int.mul_sub ..).symm
 have c6 : t * y - (scE t e).ay = t * (y - e.ay) := (Int.mul_sub ..).symm
 unfold arcQ
 rw [c1, c2, c3, c4, c5, c6, inQ_sc ht, sqI_sc, sqI_sc, sqI_sc, rad_sc ht h h', show t * radZ e * (t * radZ e) = t * t * (radZ e * radZ e) by grind]
 simp only [mul_le_sc hg, mul_lt_sc hg]
 split
 ·split
  ·unfold scQ; simp only [Int.mul_neg]
  ·rfl
 split
 ·exact endQ_sc ht _ _ _ _
 ·exact endQ_sc ht _ _ _ _
theorem pointQ_sc {t : Int} (ht : 0 < t) {e : Ed} (h : e.ok = true) (h' : (scE t e).ok = true) (x y : Int) : simQ (pointQ (scE t e) (t * x) (t * y)) (scQ t (pointQ e x y)) := by
 unfold pointQ
 show simQ (if e.k = 1 then _ else _) _
 split
 ·exact lineQ_sc ht e x y
 ·rw [arcQ_sc ht h h']; exact simQ.refl _
theorem footQ_sc {t : Int} (ht : 0 < t) {l a : Ed} (h : a.ok = true) (h' : (scE t a).ok = true) : simL t (footQ l a) (footQ (scE t l) (scE t a)) := by
 have hg : 0 < t * t := Int.mul_pos ht ht
 have key : ∀ l a : Ed, footQ l a = if tI l a.cx a.cy <= 0 \/ qI l <= tI l a.cx a.cy \/ cI l a.cx a.cy * cI l a.cx a.cy <= radZ a * radZ a * qI l \/ inQ a (if 0 < cI l a.cx a.cy then l.by' - l.ay else -(l.by' - l.ay)) (if 0 < cI l a.cx a.cy then -(l.bx - l.ax) else l.bx - l.ax) = false then [] else [⟨-radZ a, 1, cI l a.cx a.cy * cI l a.cx a.cy, qI l⟩] := fun _ _ => rfl
 rw [key, key]
 have c1 : tI (scE t l) (scE t a).cx (scE t a).cy = t * t * tI l a.cx a.cy := tI_sc _ _ _
 have c2 : cI (scE t l) (scE t a).cx (scE t a).cy = t * t * cI l a.cx a.cy := cI_sc _ _ _
 have c3 : (scE t l).by' - (scE t l).ay = t * (l.by' - l.ay) := (Int.mul_sub ..).symm
 have c4 : (scE t l).bx - (scE t l).ax = t * (l.bx - l.ax) := (Int.mul_sub ..).symm
 rw [c1, c2, c3, c4, qI_sc, rad_sc ht h h']
 have i1 : ∀ (p : Prop) [Decidable p] (x y : Int), (if p then t * x else -(t * y)) = t * (if p then x else -y) := fun p _ x y => by split <;> simp [Int.mul_neg]
 have i2 : ∀ (p : Prop) [Decidable p] (x y : Int), (if p then -(t * x) else t * y) = t * (if p then -x else y) := fun p _ x y => by split <;> simp [Int.mul_neg]
 simp only [mul_gt0 hg, i1, i2, inQ_sc ht, mul_le0 hg, mul_le_sc hg]
 have e1 : t * t * cI l a.cx a.cy * (t * t * cI l a.cx a.cy) = t * t * (t * t) * (cI l a.cx a.cy * cI l a.cx a.cy) := by grind
 have e2 : t * radZ a * (t * radZ a) * (t * t * qI l) = t * t * (t * t) * (radZ a * radZ a * qI l) := by grind
 rw [e1, e2]
 simp only [mul_le_sc (Int.mul_pos hg hg)]
 refine simL_ite ?_
 unfold scQ
 rw [show t * t * (t * t) * (cI l a.cx a.cy * cI l a.cx a.cy) = t * t * (t * t * (cI l a.cx a.cy * cI l a.cx a.cy)) by grind, Int.mul_neg]
 exact simQ.mul hg _ _ _ _
theorem centQ_sc {t : Int} (ht : 0 < t) {a b : Ed} (ha : a.ok = true) (hb : b.ok = true) (ha' : (scE t a).ok = true) (hb' : (scE t b).ok = true) : simL t (centQ a b) (centQ (scE t a) (scE t b)) := by
 have hg : 0 < t * t := Int.mul_pos ht ht
 have c1 : (scE t b).cx - (scE t a).cx = t * (b.cx - a.cx) := (Int.mul_sub ..).symm
 have c2 : (scE t b).cy - (scE t a).cy = t * (b.cy - a.cy) := (Int.mul_sub ..).symm
 unfold centQ
 simp only [c1, c2, rad_sc ht ha ha', rad_sc ht hb hb', sqI_sc, <- Int.mul_add, <- Int.mul_sub, <- Int.mul_neg, inQ_sc ht, mul_lt_sc ht]
 have e : ∀ x : Int, t * x * (t * x) = t * t * (x * x) := fun x => by grind
 simp only [e, mul_lt_sc hg, mul_le_sc hg]
 (repeat' split) <;> first | trivial | exact ⟨simQ.refl _, trivial⟩
theorem candQ_sc {t : Int} (ht : 0 < t) {a b : Ed} (ha : a.ok = true) (hb : b.ok = true) (ha' : (scE t a).ok = true) (hb' : (scE t b).ok = true) : simL t (candQ a b) (candQ (scE t a) (scE t b)) := by
 refine ⟨pointQ_sc ht hb hb' _ _, pointQ_sc ht hb hb' _ _, pointQ_sc ht ha ha' _ _, pointQ_sc ht ha ha' _ _, ?_⟩
 show simL t (innerQ a b) (innerQ (scE t a) (scE t b))
 unfold innerQ
 show simL t _ (if a.k = 1 then (if b.k = 1 then _ else _) else if b.k = 1 then _ else _)
 split
 ·split
  ·trivial
  ·exact footQ_sc ht hb hb'
 ·split
  ·exact footQ_sc ht ha ha'
  ·exact centQ_sc ht ha hb ha' hb'
theorem least_sc {t : Int} (ht : 0 < t) {a b : Ed} (ha : a.ok = true) (hb : b.ok = true) (ha' : (scE t a).ok = true) (hb' : (scE t b).ok = true) : simQ (leastQ (candQ (scE t a) (scE t b))) (scQ t (leastQ (candQ a b))) := by
 have h := candQ_sc ht ha hb ha' hb'
 exact least_sim ht h.1 h.2
theorem sim_int {t : Int} (ht : 0 < t) {x y : Q4} (hs : simQ y (scQ t x)) (hx : x.ok) (hy : y.ok) (n : Int) : cmpRt y.rt ⟨n * t, 0, zero, ofZ 1⟩ = cmpRt x.rt ⟨n, 0, zero, ofZ 1⟩ := by
 rw [<- intQ_rt, <- intQ_rt, cmpQ_rt hx (intQ_ok _), cmpQ_rt hy (intQ_ok _), (hs _).1, <- cmpQ_sc ht x]
 congr 1
 unfold scQ intQ
 simp only [Int.mul_zero, Int.mul_comm]
end Go.Proofs.YtighahcllmoajaaGreat
