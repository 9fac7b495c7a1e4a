/- Plain: the edge that etchantref06 makes is valid. | Contract: r06.At, by the kernel's walker. | Plain: a made root against a whole number; the candidate of a line and an arc. | Contract: near.Edges, by the kernel's walker. | The examples of law 08, by the kernel's walker. | Commons of the frames of the laws on near. (They follow the kit's proof-skeleton.) | The law NearPoints, by the kernel's walker. -/
import Derived.Test.YtighahcllmoajaaGreatJ31
import Derived.Test.YtighahcllmoajaaGreatJ29
import Derived.Test.YtighahcllmoajaaGreatJ30
import Derived.Test.YtighahcllmoajaaGreatJ27
import Derived.Test.YtighahcllmoajaaGreatRows
import Derived.WalkKit
import Derived.ProofKit
import Derived.OpenShut
import Derived.ShutString
import Derived.ChangeOld
import Derived.Below
import Derived.Lib.SmallJoins
set_option linter.unusedVariables false
set_option linter.unusedSimpArgs false

namespace Go.Proofs.YtighahcllmoajaaGreat
open Go.RowKit
theorem ok_line {a b c d : Int} (ha : -1000 <= a /\ a <= 1000) (hb : -1000 <= b /\ b <= 1000) (hc : -1000 <= c /\ c <= 1000) (hd : -1000 <= d /\ d <= 1000) : (⟨1, a, b, c, d, 0, 0⟩ : Ed).ok = true := by
  simp only [Ed.ok, Ed.right, Bool.and_eq_true]
  refine ⟨⟨⟨coordB_iff.2 ?_, coordB_iff.2 ?_⟩, coordB_iff.2 ?_⟩, ?_⟩
  · unfold Co; omega
  · unfold Co; omega
  · unfold Co; omega
  · simp [Ed.lone]
theorem aq_rot (t x y : Int) : applyQ 0 0 t false x y = rot (modZ t 4).toNat (x, y) := by unfold applyQ applyP; simp [mir]
theorem ok_arc6 {cx cy r t k : Int} (hx : -1000 <= cx /\ cx <= 1000) (hy : -1000 <= cy /\ cy <= 1000) (hr : 1 <= r /\ r <= 1000) (ht : 0 <= t /\ t < 4) (hk : k = 2 \/ k = 3) : (arc6 cx cy r t k).ok = true := by
  have ca : ∀ a b : Int, a + b - a = b := fun a b => by omega
  have cb : ∀ a b : Int, a - b - a = -b := fun a b => by omega
  have cc : ∀ a b : Int, a + -b - a = -b := fun a b => by omega
  have n0 : ¬ r = 0 := by omega
  have n1 : ¬ -r = 0 := by omega
  have q0 : (modZ 0 4).toNat = 0 := by decide
  have q1 : (modZ 1 4).toNat = 1 := by decide
  have q2 : (modZ 2 4).toNat = 2 := by decide
  have q3 : (modZ 3 4).toNat = 3 := by decide
  have q4 : (modZ 4 4).toNat = 0 := by decide
  have q5 : (modZ 5 4).toNat = 1 := by decide
  have q6 : (modZ 6 4).toNat = 2 := by decide
  unfold arc6
  simp only [aq_rot]
  obtain rfl | rfl | rfl | rfl : t = 0 \/ t = 1 \/ t = 2 \/ t = 3 := by omega
  all_goals
    rcases hk with rfl | rfl <;>
      (simp only [Ed.ok, Ed.right, Bool.and_eq_true, if_true, show ((2 : Int) = 3) = False by simp, if_false, show (0 : Int) + 1 = 1 by rfl, show (0 : Int) + 3 = 3 by rfl, show (1 : Int) + 1 = 2 by rfl, show (1 : Int) + 3 = 4 by rfl, show (2 : Int) + 1 = 3 by rfl, show (2 : Int) + 3 = 5 by rfl, show (3 : Int) + 1 = 4 by rfl, show (3 : Int) + 3 = 6 by rfl, q0, q1, q2, q3, q4, q5, q6, rot]
       refine ⟨⟨⟨coordB_iff.2 ?_, coordB_iff.2 ?_⟩, coordB_iff.2 ?_⟩, ?_⟩
       · unfold Co; omega
       · unfold Co; omega
       · unfold Co; omega
       · simp [Ed.quarter, quarterB, rot, ca, cb, cc, n0, n1]
         try omega)
theorem mad6_ok (L : List Int) : (mad6 L).ok = true := by
  have b0 := nV_bd L 0 (m := 6) (by omega)
  have b1 := nV_bd L 1 (m := 201) (by omega)
  have b2 := nV_bd L 2 (m := 201) (by omega)
  have b3 := nV_bd L 3 (m := 201) (by omega)
  have b4 := nV_bd L 4 (m := 201) (by omega)
  have c3 := nV_bd L 3 (m := 41) (by omega)
  unfold mad6
  simp only
  split
  · exact ok_line (by omega) (by omega) (by omega) (by omega)
  split
  · exact ok_line (by omega) (by omega) (by omega) (by omega)
  split
  · exact ok_line (by omega) (by omega) (by omega) (by omega)
  split
  · have d5 := nV_bd L 5 (m := 90) (by omega)
    have d6 := nV_bd L 6 (m := 4) (by omega)
    have d7 := nV_bd L 7 (m := 2) (by omega)
    exact ok_arc6 (by omega) (by omega) (by omega) (by omega) (by omega)
  · have d5 := nV_bd L 5 (m := 4) (by omega)
    have d6 := nV_bd L 6 (m := 2) (by omega)
    have d3 := nV_bd L 3 (m := 5) (by omega)
    refine ok_arc6 (by omega) (by omega) ?_ (by omega) (by omega)
    obtain ⟨n, hn⟩ : ∃ n : Nat, nV L 3 5 = n := ⟨(nV L 3 5).toNat, by omega⟩
    rw [hn] at d3 ⊢
    obtain rfl | rfl | rfl | rfl | rfl : n = 0 \/ n = 1 \/ n = 2 \/ n = 3 \/ n = 4 := by omega
    all_goals decide
end Go.Proofs.YtighahcllmoajaaGreat

set_option maxRecDepth 100000
namespace Go.Proofs.YtighahcllmoajaaGreat
open Go.RowKit
def sgV (i : Int) : Int := [1, -1].getD i.toNat 0
def hyV (i : Int) : Int := [5, 5, 13, 25, 1].getD i.toNat 0
def lxV (i : Int) : Int := [3, 4, 5, 7, 0].getD i.toNat 0
def lyV (i : Int) : Int := [4, 3, 12, 24, 1].getD i.toNat 0
def shX (L : List Int) (j : Nat) (x y : Int) : Int × Int := if nV L j 2 = 0 then (x + nV L (j + 1) 3 - 1, y) else (x, y)
def at6 (e : Ed) (L : List Int) : Int × Int :=
 if nV L 2 6 = 0 then shX L 3 e.ax e.ay
 else if nV L 2 6 = 1 then shX L 3 e.bx e.by'
 else if nV L 2 6 = 2 then shX L 4 (e.ax + ((e.bx - e.ax) * nV L 3 5).tdiv 4) (e.ay + ((e.by' - e.ay) * nV L 3 5).tdiv 4)
 else if nV L 2 6 = 3 then shX L 7 (e.cx + (sgV (nV L 5 2) * lxV (nV L 3 5) * radZ e).tdiv (hyV (nV L 4 5))) (e.cy + (sgV (nV L 6 2) * lyV (nV L 3 5) * radZ e).tdiv (hyV (nV L 4 5)))
 else if nV L 2 6 = 4 then shX L 3 (nV L 0 241 - 120) e.ay
 else shX L 3 (nV L 0 241 - 120) (nV L 1 241 - 120)
theorem hyV_ne {i : Int} (h : 0 <= i /\ i < 5) : hyV i ≠ 0 := by
 obtain rfl | rfl | rfl | rfl | rfl : i = 0 \/ i = 1 \/ i = 2 \/ i = 3 \/ i = 4 := by omega
 all_goals decide
theorem at6_a (e : Ed) (L : List Int) (h : nV L 2 6 = 0 \/ nV L 2 6 = 1 \/ nV L 2 6 = 2) : Fok Tryz.prog 11 [edV e 3 c26, ⟨false, [.ds L]⟩] (.one (ptL (at6 e L))) := by
 unfold at6 shX
 by_cases h0 : nV L 2 6 = 0
 ·rw [if_pos h0]
  by_cases c : nV L 3 2 = 0
  ·rw [if_pos c]
   exact fokX XD [d06Rad] [true, true] [pT (bq_T h0), pT (bq_T c)] (by kernel_rfl)
  ·rw [if_neg c]
   exact fokX XD [d06Rad] [true, false] [pT (bq_T h0), pF (bq_F c)] (by kernel_rfl)
 rw [if_neg h0]
 by_cases h1 : nV L 2 6 = 1
 ·rw [if_pos h1]
  by_cases c : nV L 3 2 = 0
  ·rw [if_pos c]
   exact fokX XD [d06Rad] [false, true, true] [pF (bq_F h0), pT (bq_T h1), pT (bq_T c)] (by kernel_rfl)
  ·rw [if_neg c]
   exact fokX XD [d06Rad] [false, true, false] [pF (bq_F h0), pT (bq_T h1), pF (bq_F c)] (by kernel_rfl)
 rw [if_neg h1]
 have h2 : nV L 2 6 = 2 := by omega
 rw [if_pos h2]
 by_cases c : nV L 4 2 = 0
 ·rw [if_pos c]
  exact fokX XD [d06Rad] [false, false, true, true] [pF (bq_F h0), pF (bq_F h1), pT (bq_T h2), p4, p4, pT (bq_T c)] (by kernel_rfl)
 ·rw [if_neg c]
  exact fokX XD [d06Rad] [false, false, true, false] [pF (bq_F h0), pF (bq_F h1), pT (bq_T h2), p4, p4, pF (bq_F c)] (by kernel_rfl)
theorem at6_b (e : Ed) (L : List Int) (he : e.ok = true) (h0 : ¬ nV L 2 6 = 0) (h1 : ¬ nV L 2 6 = 1) (h2 : ¬ nV L 2 6 = 2) : Fok Tryz.prog 11 [edV e 3 c26, ⟨false, [.ds L]⟩] (.one (ptL (at6 e L))) := by
 have b3 := nV_bd L 3 (m := 5) (by omega)
 have b4 := nV_bd L 4 (m := 5) (by omega)
 have b5 := nV_bd L 5 (m := 2) (by omega)
 have b6 := nV_bd L 6 (m := 2) (by omega)
 have hn := hyV_ne b4
 unfold at6 shX
 rw [if_neg h0, if_neg h1, if_neg h2]
 by_cases h3 : nV L 2 6 = 3
 ·rw [if_pos h3]
  by_cases c : nV L 7 2 = 0
  ·rw [if_pos c]
   exact fokX XD [d06Rad] [false, false, false, true, true] [pF (bq_F h0), pF (bq_F h1), pF (bq_F h2), pT (bq_T h3), pP he, pP b3, pP b4, pP b5, pP hn, pP b6, pP hn, pT (bq_T c)] (by kernel_rfl)
  ·rw [if_neg c]
   exact fokX XD [d06Rad] [false, false, false, true, false] [pF (bq_F h0), pF (bq_F h1), pF (bq_F h2), pT (bq_T h3), pP he, pP b3, pP b4, pP b5, pP hn, pP b6, pP hn, pF (bq_F c)] (by kernel_rfl)
 rw [if_neg h3]
 by_cases h4 : nV L 2 6 = 4
 ·rw [if_pos h4]
  by_cases c : nV L 3 2 = 0
  ·rw [if_pos c]
   exact fokX XD [d06Rad] [false, false, false, false, true, true] [pF (bq_F h0), pF (bq_F h1), pF (bq_F h2), pF (bq_F h3), pT (bq_T h4), pT (bq_T c)] (by kernel_rfl)
  ·rw [if_neg c]
   exact fokX XD [d06Rad] [false, false, false, false, true, false] [pF (bq_F h0), pF (bq_F h1), pF (bq_F h2), pF (bq_F h3), pT (bq_T h4), pF (bq_F c)] (by kernel_rfl)
 rw [if_neg h4]
 by_cases c : nV L 3 2 = 0
 ·rw [if_pos c]
  exact fokX XD [d06Rad] [false, false, false, false, false, true] [pF (bq_F h0), pF (bq_F h1), pF (bq_F h2), pF (bq_F h3), pF (bq_F h4), pT (bq_T c)] (by kernel_rfl)
 ·rw [if_neg c]
  exact fokX XD [d06Rad] [false, false, false, false, false, false] [pF (bq_F h0), pF (bq_F h1), pF (bq_F h2), pF (bq_F h3), pF (bq_F h4), pF (bq_F c)] (by kernel_rfl)
def dAt : Con where
 f := 11
 g := fun | [⟨true, l⟩, ⟨false, [.ds L]⟩] => (toEd l).map fun e => (.one (ptL (at6 e L)), [e.ok = true]) | _ => none
 ok := by
  intro args res ps h hp
  split at h <;> try cases h
  rename_i l L
  cases he : toEd l with
  | none => simp [he] at h
  | some e =>
   simp only [he, Option.map_some, Option.some.injEq, Prod.mk.injEq] at h
   obtain ⟨rfl, rfl⟩ := h
   refine Fok.pre ?_ fun W => rvs_1 (ed_ok he hp.1) (rvs_1 (fun _ h => h) rvs_0)
   by_cases h0 : nV L 2 6 = 0
   ·exact at6_a e L (.inl h0)
   by_cases h1 : nV L 2 6 = 1
   ·exact at6_a e L (.inr (.inl h1))
   by_cases h2 : nV L 2 6 = 2
   ·exact at6_a e L (.inr (.inr h2))
   ·exact at6_b e L hp.1 h0 h1 h2
end Go.Proofs.YtighahcllmoajaaGreat

namespace Go.Proofs.YtighahcllmoajaaGreat
open Go.RowKit
theorem int_rt (i : Int) : Rt.right ⟨i, 0, zero, ofZ 1⟩ = true := by
 have h := ofP_nat (add := i) (s := 0) (n := 0) (d := 1) (by decide) (by decide +kernel) (by decide +kernel) (by decide)
 obtain ⟨q1, q2, _⟩ := ofP_ok (dig_digs _) (dig_digs _) h
 have e : rootOf i 0 0 1 = ⟨i, 0, zero, ofZ 1⟩ := by unfold rootOf; rw [if_pos (.inl rfl)]
 rw [e] at q1 q2
 exact right_of q2 q1.nr q1.dr
theorem cmp_rint {add s i : Int} {n d : Nat} (hs : s = 1 \/ s = -1) (hn : n < 4294967296 ^ 8) (hd : d < 4294967296 ^ 8) (h0 : 0 < d) : cmpRt (rootOf add s n d) ⟨i, 0, zero, ofZ 1⟩ = sideZ ((add - i) * d) s ((n : Int) * d) := by
 unfold cmpRt
 rw [(whole_ok (by omega) hn hd h0).2, int_rt]
 simp only [Bool.and_self, if_true]
 rw [zero_z, ofZ_z]
 exact cmp_int h0 (by omega)
theorem dR_root {add s n d : Int} (hs : -1 <= s /\ s <= 1) (hn : 0 <= n) (hn2 : n < 85070591730234615865843651857942052864 * 4) (hd : 0 < d) (hd2 : d < 85070591730234615865843651857942052864 * 4) : dR add s n d = rootOf add s n.toNat d.toNat /\ n.toNat < 4294967296 ^ 8 /\ d.toNat < 4294967296 ^ 8 /\ 0 < d.toNat := by
 have b : (85070591730234615865843651857942052864 * 4 : Int) < ((4294967296 ^ 8 : Nat) : Int) := by decide +kernel
 have h1 : n.toNat < 4294967296 ^ 8 := by omega
 have h2 : d.toNat < 4294967296 ^ 8 := by omega
 refine ⟨?_, h1, h2, by omega⟩
 have := ofP_nat (add := add) hs h1 h2 (by omega)
 rw [Int.toNat_of_nonneg hn, Int.toNat_of_nonneg (by omega)] at this
 unfold dR
 rw [this]
theorem sq_lt {c : Int} (h : -9223372036854775808 <= c /\ c <= 9223372036854775807) : 0 <= c * c /\ c * c < 85070591730234615865843651857942052864 * 4 := by
 refine ⟨sqz_nn c, ?_⟩
 have h1 : c.natAbs <= 9223372036854775808 := by omega
 have h2 := Nat.mul_le_mul h1 h1
 rw [<- Int.natAbs_mul_self]
 omega
theorem foot_cmp {r c q : Int} (hr : 0 <= r) (hc : -9223372036854775808 <= c /\ c <= 9223372036854775807) (hq : 0 < q) (hq2 : q <= 9223372036854775807) : cmpRt (dR (-r) 1 (c * c) q) ⟨0, 0, zero, ofZ 1⟩ <= 0 ↔ c * c <= r * r * q := by
 obtain ⟨s1, s2⟩ := sq_lt hc
 obtain ⟨e, h1, h2, h3⟩ := dR_root (add := -r) (s := 1) (by decide) s1 s2 hq (by omega)
 rw [e, cmp_rint (.inl rfl) h1 h2 h3, Int.toNat_of_nonneg s1, Int.toNat_of_nonneg (by omega), show (-r - 0) = -r by omega, side_whole hr hq s1]
 have e2 : q * r * r = r * r * q := by rw [Int.mul_assoc, Int.mul_comm]
 rw [e2]
 unfold sgn cmpZ
 (repeat' split) <;> omega
theorem dR_add (add s : Int) (n d : Nm) : (ofP add s n d).1.add = add \/ (ofP add s n d).1.add = 0 := by
 unfold ofP
 (repeat' split) <;> simp [Rt.no]
end Go.Proofs.YtighahcllmoajaaGreat

set_option maxHeartbeats 4000000
set_option maxRecDepth 100000
namespace Go.Proofs.YtighahcllmoajaaGreat
open Go.RowKit
def KE : List Con := [cPoint, cLeast, cMeet, cCmpInt, cNOf, cPower, cRtOf, cChk, cRad, cQuarter]
def edgV (p : Pr) : AV := .tup [rtV p.d, spV p.a, spV p.b]
theorem lines_eq (e f : Ed) (x y : Bool) : eqZ [.b (e.k == 1), .b (f.k == 1)] [.b x, .b y] = ((e.k == 1) == x && (f.k == 1) == y) := rfl
theorem edges_no (e f : Ed) (h : (e.ok && f.ok && (countE e f == 0)) = false) : Fok Tryz.prog 17 [edV e lim lim, edV f lim lim] (edgV ⟨Rt.no, Sp.no, Sp.no⟩) := by
 cases h1 : e.ok with
 | false => exact fok KE [true] [pT (chk_T h1)] (by kernel_rfl)
 | true =>
  cases h2 : f.ok with
  | false => exact fok KE [false, true] [pF (chk_F h1), pT (chk_T h2)] (by kernel_rfl)
  | true =>
   rw [h1, h2] at h
   have h3 : (!(countE e f == 0)) = true := by simpa using h
   exact fok KE [false, false, true] [pF (chk_F h1), pF (chk_F h2), pT h3] (by kernel_rfl)
theorem leastP_cand (e f : Ed) {l : List Pr} (h : innerR e f = l) : leastP (candR e f) = leastP ([⟨(pointR f e.ax e.ay).1, spP e.ax e.ay, (pointR f e.ax e.ay).2⟩, ⟨(pointR f e.bx e.by').1, spP e.bx e.by', (pointR f e.bx e.by').2⟩,
  ⟨(pointR e f.ax f.ay).1, (pointR e f.ax f.ay).2, spP f.ax f.ay⟩, ⟨(pointR e f.bx f.by').1, (pointR e f.bx f.by').2, spP f.bx f.by'⟩] ++ l) := by subst h; rfl
def tF (l a : Ed) : Int := (a.cx - l.ax) * (l.bx - l.ax) + (a.cy - l.ay) * (l.by' - l.ay)
def cF (l a : Ed) : Int := (l.bx - l.ax) * (a.cy - l.ay) - (l.by' - l.ay) * (a.cx - l.ax)
def qF (l : Ed) : Int := sqI (l.bx - l.ax) (l.by' - l.ay)
def dF (l a : Ed) : Rt := dR (0 - radZ a) 1 (cF l a * cF l a) (max (qF l) 1)
def zF : Rt := ⟨0, 0, zero, ofZ 1⟩
theorem footR_eq (l a : Ed) (nx ny : Int) (hx : nx = if 0 < cF l a then l.by' - l.ay else 0 - (l.by' - l.ay)) (hy : ny = if 0 < cF l a then 0 - (l.bx - l.ax) else l.bx - l.ax) :
  footR l a = if tF l a <= 0 \/ qF l <= tF l a \/ cF l a * cF l a <= radZ a * radZ a * qF l \/ inQ a nx ny = false then [] else [⟨dR (-radZ a) 1 (cF l a * cF l a) (qF l), ⟨l.ax, l.ay, l.bx - l.ax, l.by' - l.ay, tF l a, qF l, 0⟩, ⟨a.cx, a.cy, nx, ny, 0, 0, radZ a⟩⟩] := by
 subst hx hy
 simp only [zero_sub']
 rfl
theorem foot_cases {l a : Ed} (hl : l.ok = true) (ha : a.ok = true) (ka : ¬ a.k = 1) (nx ny : Int) (hx : nx = if 0 < cF l a then l.by' - l.ay else 0 - (l.by' - l.ay)) (hy : ny = if 0 < cF l a then 0 - (l.bx - l.ax) else l.bx - l.ax) :
  (tF l a <= 0 /\ footR l a = []) \/ (¬ tF l a <= 0 /\ qF l <= tF l a /\ footR l a = []) \/ (¬ tF l a <= 0 /\ ¬ qF l <= tF l a /\ cmpRt (dF l a) zF <= 0 /\ footR l a = []) \/
  (¬ tF l a <= 0 /\ ¬ qF l <= tF l a /\ ¬ cmpRt (dF l a) zF <= 0 /\ inQ a nx ny = false /\ footR l a = []) \/
  (¬ tF l a <= 0 /\ ¬ qF l <= tF l a /\ ¬ cmpRt (dF l a) zF <= 0 /\ inQ a nx ny = true /\ footR l a = [⟨dF l a, ⟨l.ax, l.ay, l.bx - l.ax, l.by' - l.ay, tF l a, qF l, 0⟩, ⟨a.cx, a.cy, nx, ny, 0, 0, radZ a⟩⟩]) := by
 have E := footR_eq l a nx ny hx hy
 obtain ⟨⟨l1, l2⟩, ⟨l3, l4⟩, _⟩ := ok_right hl
 obtain ⟨_, _, a5, a6⟩ := ok_right ha
 have iC : I64 (cF l a) := (l3.sub l1).cross (a6.sub l2) (l4.sub l2) (a5.sub l1)
 have iQ : I64 (qF l) := (l3.sub l1).sq (l4.sub l2)
 have hr := rad_pos ha ka
 by_cases h1 : tF l a <= 0
 ·exact .inl ⟨h1, by rw [E, if_pos (.inl h1)]⟩
 by_cases h2 : qF l <= tF l a
 ·exact .inr (.inl ⟨h1, h2, by rw [E, if_pos (.inr (.inl h2))]⟩)
 have hm : max (qF l) 1 = qF l := by omega
 have hd : dF l a = dR (-radZ a) 1 (cF l a * cF l a) (qF l) := by unfold dF; rw [hm, zero_sub']
 have hc := foot_cmp (r := radZ a) (c := cF l a) (q := qF l) (by omega) iC (by omega) iQ.2
 rw [<- hd] at hc
 by_cases h3 : cmpRt (dF l a) zF <= 0
 ·exact .inr (.inr (.inl ⟨h1, h2, h3, by rw [E, if_pos (.inr (.inr (.inl (hc.1 h3))))]⟩))
 have h3' : ¬ cF l a * cF l a <= radZ a * radZ a * qF l := fun h => h3 (hc.2 h)
 cases h4 : inQ a nx ny with
 | false => exact .inr (.inr (.inr (.inl ⟨h1, h2, h3, rfl, by rw [E, if_pos (.inr (.inr (.inr h4)))]⟩)))
 | true =>
  refine .inr (.inr (.inr (.inr ⟨h1, h2, h3, rfl, ?_⟩)))
  rw [E, if_neg (by rintro (h | h | h | h); exact h1 h; exact h2 h; exact h3' h; rw [h4] at h; cases h), hd]
theorem edges_2T (e f : Ed) (h1 : e.ok = true) (h2 : f.ok = true) (h3 : (!(countE e f == 0)) = false) (L1 : eqZ [.b (e.k == 1), .b (f.k == 1)] [.b true, .b false] = true) (kf : ¬ f.k = 1) (IN : innerR e f = footR e f) (hc : 0 < cF e f) : Fok Tryz.prog 17 [edV e 3 c26, edV f 3 c26] (edgV (leastP (candR e f))) := by
 rcases foot_cases (l := e) (a := f) h1 h2 kf (e.by' - e.ay) (0 - (e.bx - e.ax)) (by rw [if_pos hc]) (by rw [if_pos hc]) with ⟨a1, a9⟩ | ⟨a1, a2, a9⟩ | ⟨a1, a2, a3, a9⟩ | ⟨a1, a2, a3, a4, a9⟩ | ⟨a1, a2, a3, a4, a9⟩
 ·rw [leastP_cand e f (l := _) (by rw [IN, a9])]
  exact fok KE [false, false, false, true, true, true] [pF (chk_F h1), pF (chk_F h2), pF h3, pT L1, pP h2, pT (gt_T hc), pT (decide_eq_true a1)] (by kernel_rfl)
 ·rw [leastP_cand e f (l := _) (by rw [IN, a9])]
  exact fok KE [false, false, false, true, true, false, true] [pF (chk_F h1), pF (chk_F h2), pF h3, pT L1, pP h2, pT (gt_T hc), pF (decide_eq_false a1), pT (ge_T a2)] (by kernel_rfl)
 ·rw [leastP_cand e f (l := _) (by rw [IN, a9])]
  exact fok KE [false, false, false, true, true, false, false, true] [pF (chk_F h1), pF (chk_F h2), pF h3, pT L1, pP h2, pT (gt_T hc), pF (decide_eq_false a1), pF (ge_F a2), pT (decide_eq_true a3)] (by kernel_rfl)
 ·rw [leastP_cand e f (l := _) (by rw [IN, a9])]
  exact fok KE [false, false, false, true, true, false, false, false, true] [pF (chk_F h1), pF (chk_F h2), pF h3, pT L1, pP h2, pT (gt_T hc), pF (decide_eq_false a1), pF (ge_F a2), pF (decide_eq_false a3), pP h2, pT (not_T a4)] (by kernel_rfl)
 ·rw [leastP_cand e f (l := _) (by rw [IN, a9])]
  exact fok KE [false, false, false, true, true, false, false, false, false] [pF (chk_F h1), pF (chk_F h2), pF h3, pT L1, pP h2, pT (gt_T hc), pF (decide_eq_false a1), pF (ge_F a2), pF (decide_eq_false a3), pP h2, pF (not_F a4)] (by kernel_rfl)
theorem edges_2F (e f : Ed) (h1 : e.ok = true) (h2 : f.ok = true) (h3 : (!(countE e f == 0)) = false) (L1 : eqZ [.b (e.k == 1), .b (f.k == 1)] [.b true, .b false] = true) (kf : ¬ f.k = 1) (IN : innerR e f = footR e f) (hc : ¬ 0 < cF e f) : Fok Tryz.prog 17 [edV e 3 c26, edV f 3 c26] (edgV (leastP (candR e f))) := by
 rcases foot_cases (l := e) (a := f) h1 h2 kf (0 - (e.by' - e.ay)) (e.bx - e.ax) (by rw [if_neg hc]) (by rw [if_neg hc]) with ⟨a1, a9⟩ | ⟨a1, a2, a9⟩ | ⟨a1, a2, a3, a9⟩ | ⟨a1, a2, a3, a4, a9⟩ | ⟨a1, a2, a3, a4, a9⟩
 ·rw [leastP_cand e f (l := _) (by rw [IN, a9])]
  exact fok KE [false, false, false, true, false, true] [pF (chk_F h1), pF (chk_F h2), pF h3, pT L1, pP h2, pF (gt_F hc), pT (decide_eq_true a1)] (by kernel_rfl)
 ·rw [leastP_cand e f (l := _) (by rw [IN, a9])]
  exact fok KE [false, false, false, true, false, false, true] [pF (chk_F h1), pF (chk_F h2), pF h3, pT L1, pP h2, pF (gt_F hc), pF (decide_eq_false a1), pT (ge_T a2)] (by kernel_rfl)
 ·rw [leastP_cand e f (l := _) (by rw [IN, a9])]
  exact fok KE [false, false, false, true, false, false, false, true] [pF (chk_F h1), pF (chk_F h2), pF h3, pT L1, pP h2, pF (gt_F hc), pF (decide_eq_false a1), pF (ge_F a2), pT (decide_eq_true a3)] (by kernel_rfl)
 ·rw [leastP_cand e f (l := _) (by rw [IN, a9])]
  exact fok KE [false, false, false, true, false, false, false, false, true] [pF (chk_F h1), pF (chk_F h2), pF h3, pT L1, pP h2, pF (gt_F hc), pF (decide_eq_false a1), pF (ge_F a2), pF (decide_eq_false a3), pP h2, pT (not_T a4)] (by kernel_rfl)
 ·rw [leastP_cand e f (l := _) (by rw [IN, a9])]
  exact fok KE [false, false, false, true, false, false, false, false, false] [pF (chk_F h1), pF (chk_F h2), pF h3, pT L1, pP h2, pF (gt_F hc), pF (decide_eq_false a1), pF (ge_F a2), pF (decide_eq_false a3), pP h2, pF (not_F a4)] (by kernel_rfl)
theorem edges_3T (e f : Ed) (h1 : e.ok = true) (h2 : f.ok = true) (h3 : (!(countE e f == 0)) = false) (L1 : eqZ [.b (e.k == 1), .b (f.k == 1)] [.b true, .b false] = false) (L2 : eqZ [.b (e.k == 1), .b (f.k == 1)] [.b false, .b true] = true) (ke : ¬ e.k = 1) (IN : innerR e f = (footR f e).map Pr.swap) (hc : 0 < cF f e) : Fok Tryz.prog 17 [edV e 3 c26, edV f 3 c26] (edgV (leastP (candR e f))) := by
 rcases foot_cases (l := f) (a := e) h2 h1 ke (f.by' - f.ay) (0 - (f.bx - f.ax)) (by rw [if_pos hc]) (by rw [if_pos hc]) with ⟨a1, a9⟩ | ⟨a1, a2, a9⟩ | ⟨a1, a2, a3, a9⟩ | ⟨a1, a2, a3, a4, a9⟩ | ⟨a1, a2, a3, a4, a9⟩
 ·rw [leastP_cand e f (l := _) (by rw [IN, a9])]
  exact fok KE [false, false, false, false, true, true, true] [pF (chk_F h1), pF (chk_F h2), pF h3, pF L1, pT L2, pP h1, pT (gt_T hc), pT (decide_eq_true a1)] (by kernel_rfl)
 ·rw [leastP_cand e f (l := _) (by rw [IN, a9])]
  exact fok KE [false, false, false, false, true, true, false, true] [pF (chk_F h1), pF (chk_F h2), pF h3, pF L1, pT L2, pP h1, pT (gt_T hc), pF (decide_eq_false a1), pT (ge_T a2)] (by kernel_rfl)
 ·rw [leastP_cand e f (l := _) (by rw [IN, a9])]
  exact fok KE [false, false, false, false, true, true, false, false, true] [pF (chk_F h1), pF (chk_F h2), pF h3, pF L1, pT L2, pP h1, pT (gt_T hc), pF (decide_eq_false a1), pF (ge_F a2), pT (decide_eq_true a3)] (by kernel_rfl)
 ·rw [leastP_cand e f (l := _) (by rw [IN, a9])]
  exact fok KE [false, false, false, false, true, true, false, false, false, true] [pF (chk_F h1), pF (chk_F h2), pF h3, pF L1, pT L2, pP h1, pT (gt_T hc), pF (decide_eq_false a1), pF (ge_F a2), pF (decide_eq_false a3), pP h1, pT (not_T a4)] (by kernel_rfl)
 ·rw [leastP_cand e f (l := _) (by rw [IN, a9])]
  exact fok KE [false, false, false, false, true, true, false, false, false, false] [pF (chk_F h1), pF (chk_F h2), pF h3, pF L1, pT L2, pP h1, pT (gt_T hc), pF (decide_eq_false a1), pF (ge_F a2), pF (decide_eq_false a3), pP h1, pF (not_F a4)] (by kernel_rfl)
theorem edges_3F (e f : Ed) (h1 : e.ok = true) (h2 : f.ok = true) (h3 : (!(countE e f == 0)) = false) (L1 : eqZ [.b (e.k == 1), .b (f.k == 1)] [.b true, .b false] = false) (L2 : eqZ [.b (e.k == 1), .b (f.k == 1)] [.b false, .b true] = true) (ke : ¬ e.k = 1) (IN : innerR e f = (footR f e).map Pr.swap) (hc : ¬ 0 < cF f e) : Fok Tryz.prog 17 [edV e 3 c26, edV f 3 c26] (edgV (leastP (candR e f))) := by
 rcases foot_cases (l := f) (a := e) h2 h1 ke (0 - (f.by' - f.ay)) (f.bx - f.ax) (by rw [if_neg hc]) (by rw [if_neg hc]) with ⟨a1, a9⟩ | ⟨a1, a2, a9⟩ | ⟨a1, a2, a3, a9⟩ | ⟨a1, a2, a3, a4, a9⟩ | ⟨a1, a2, a3, a4, a9⟩
 ·rw [leastP_cand e f (l := _) (by rw [IN, a9])]
  exact fok KE [false, false, false, false, true, false, true] [pF (chk_F h1), pF (chk_F h2), pF h3, pF L1, pT L2, pP h1, pF (gt_F hc), pT (decide_eq_true a1)] (by kernel_rfl)
 ·rw [leastP_cand e f (l := _) (by rw [IN, a9])]
  exact fok KE [false, false, false, false, true, false, false, true] [pF (chk_F h1), pF (chk_F h2), pF h3, pF L1, pT L2, pP h1, pF (gt_F hc), pF (decide_eq_false a1), pT (ge_T a2)] (by kernel_rfl)
 ·rw [leastP_cand e f (l := _) (by rw [IN, a9])]
  exact fok KE [false, false, false, false, true, false, false, false, true] [pF (chk_F h1), pF (chk_F h2), pF h3, pF L1, pT L2, pP h1, pF (gt_F hc), pF (decide_eq_false a1), pF (ge_F a2), pT (decide_eq_true a3)] (by kernel_rfl)
 ·rw [leastP_cand e f (l := _) (by rw [IN, a9])]
  exact fok KE [false, false, false, false, true, false, false, false, false, true] [pF (chk_F h1), pF (chk_F h2), pF h3, pF L1, pT L2, pP h1, pF (gt_F hc), pF (decide_eq_false a1), pF (ge_F a2), pF (decide_eq_false a3), pP h1, pT (not_T a4)] (by kernel_rfl)
 ·rw [leastP_cand e f (l := _) (by rw [IN, a9])]
  exact fok KE [false, false, false, false, true, false, false, false, false, false] [pF (chk_F h1), pF (chk_F h2), pF h3, pF L1, pT L2, pP h1, pF (gt_F hc), pF (decide_eq_false a1), pF (ge_F a2), pF (decide_eq_false a3), pP h1, pF (not_F a4)] (by kernel_rfl)
def nF (e f : Ed) : Int := sqI (f.cx - e.cx) (f.cy - e.cy)
def wF (e f : Ed) (x y u v : Int) (d : Rt) : List Pr := if inQ e x y && inQ f u v then [⟨d, ⟨e.cx, e.cy, x, y, 0, 0, radZ e⟩, ⟨f.cx, f.cy, u, v, 0, 0, radZ f⟩⟩] else []
theorem centR_eq (e f : Ed) : centR e f = if (radZ e + radZ f) * (radZ e + radZ f) < nF e f then wF e f (f.cx - e.cx) (f.cy - e.cy) (0 - (f.cx - e.cx)) (0 - (f.cy - e.cy)) (dR (0 - radZ e - radZ f) 1 (nF e f) 1)
  else if (radZ e - radZ f) * (radZ e - radZ f) <= nF e f then []
  else if radZ f < radZ e then wF e f (f.cx - e.cx) (f.cy - e.cy) (f.cx - e.cx) (f.cy - e.cy) (dR (radZ e - radZ f) (-1) (nF e f) 1)
  else wF e f (0 - (f.cx - e.cx)) (0 - (f.cy - e.cy)) (0 - (f.cx - e.cx)) (0 - (f.cy - e.cy)) (dR (radZ f - radZ e) (-1) (nF e f) 1) := by
 simp only [zero_sub']
 rfl
theorem edges_4a (e f : Ed) (h1 : e.ok = true) (h2 : f.ok = true) (h3 : (!(countE e f == 0)) = false) (L1 : eqZ [.b (e.k == 1), .b (f.k == 1)] [.b true, .b false] = false) (L2 : eqZ [.b (e.k == 1), .b (f.k == 1)] [.b false, .b true] = false) (L3 : eqZ [.b (e.k == 1), .b (f.k == 1)] [.b false, .b false] = true) (IN : innerR e f = centR e f) (g : (radZ e + radZ f) * (radZ e + radZ f) < nF e f) : Fok Tryz.prog 17 [edV e 3 c26, edV f 3 c26] (edgV (leastP (candR e f))) := by
 have C := centR_eq e f
 rw [if_pos g] at C
 unfold wF at C
 cases q1 : inQ e (f.cx - e.cx) (f.cy - e.cy) with
 | false =>
  rw [leastP_cand e f (l := []) (by rw [IN, C, q1]; rfl)]
  exact fok KE [false, false, false, false, false, true, true, true] [pF (chk_F h1), pF (chk_F h2), pF h3, pF L1, pF L2, pT L3, pP h1, pP h2, pT (gt_T g), pP h1, pT (not_T q1)] (by kernel_rfl)
 | true =>
  cases q2 : inQ f (0 - (f.cx - e.cx)) (0 - (f.cy - e.cy)) with
  | false =>
   rw [leastP_cand e f (l := []) (by rw [IN, C, q1, q2]; rfl)]
   exact fok KE [false, false, false, false, false, true, true, false, true] [pF (chk_F h1), pF (chk_F h2), pF h3, pF L1, pF L2, pT L3, pP h1, pP h2, pT (gt_T g), pP h1, pF (not_F q1), pP h2, pT (not_T q2)] (by kernel_rfl)
  | true =>
   rw [leastP_cand e f (l := _) (by rw [IN, C, q1, q2, Bool.and_self, if_pos rfl])]
   exact fok KE [false, false, false, false, false, true, true, false, false] [pF (chk_F h1), pF (chk_F h2), pF h3, pF L1, pF L2, pT L3, pP h1, pP h2, pT (gt_T g), pP h1, pF (not_F q1), pP h2, pF (not_F q2)] (by kernel_rfl)
theorem edges_4b (e f : Ed) (h1 : e.ok = true) (h2 : f.ok = true) (h3 : (!(countE e f == 0)) = false) (L1 : eqZ [.b (e.k == 1), .b (f.k == 1)] [.b true, .b false] = false) (L2 : eqZ [.b (e.k == 1), .b (f.k == 1)] [.b false, .b true] = false) (L3 : eqZ [.b (e.k == 1), .b (f.k == 1)] [.b false, .b false] = true) (IN : innerR e f = centR e f) (g : ¬ (radZ e + radZ f) * (radZ e + radZ f) < nF e f) (g2 : ¬ (radZ e - radZ f) * (radZ e - radZ f) <= nF e f) (g3 : radZ f < radZ e) : Fok Tryz.prog 17 [edV e 3 c26, edV f 3 c26] (edgV (leastP (candR e f))) := by
 have C := centR_eq e f
 rw [if_neg g, if_neg g2, if_pos g3] at C
 unfold wF at C
 cases q1 : inQ e (f.cx - e.cx) (f.cy - e.cy) with
 | false =>
  rw [leastP_cand e f (l := []) (by rw [IN, C, q1]; rfl)]
  exact fok KE [false, false, false, false, false, true, false, false, true, true] [pF (chk_F h1), pF (chk_F h2), pF h3, pF L1, pF L2, pT L3, pP h1, pP h2, pF (gt_F g), pF (ge_F g2), pT (gt_T g3), pP h1, pT (not_T q1)] (by kernel_rfl)
 | true =>
  cases q2 : inQ f (f.cx - e.cx) (f.cy - e.cy) with
  | false =>
   rw [leastP_cand e f (l := []) (by rw [IN, C, q1, q2]; rfl)]
   exact fok KE [false, false, false, false, false, true, false, false, true, false, true] [pF (chk_F h1), pF (chk_F h2), pF h3, pF L1, pF L2, pT L3, pP h1, pP h2, pF (gt_F g), pF (ge_F g2), pT (gt_T g3), pP h1, pF (not_F q1), pP h2, pT (not_T q2)] (by kernel_rfl)
  | true =>
   rw [leastP_cand e f (l := _) (by rw [IN, C, q1, q2, Bool.and_self, if_pos rfl])]
   exact fok KE [false, false, false, false, false, true, false, false, true, false, false] [pF (chk_F h1), pF (chk_F h2), pF h3, pF L1, pF L2, pT L3, pP h1, pP h2, pF (gt_F g), pF (ge_F g2), pT (gt_T g3), pP h1, pF (not_F q1), pP h2, pF (not_F q2)] (by kernel_rfl)
theorem edges_4c (e f : Ed) (h1 : e.ok = true) (h2 : f.ok = true) (h3 : (!(countE e f == 0)) = false) (L1 : eqZ [.b (e.k == 1), .b (f.k == 1)] [.b true, .b false] = false) (L2 : eqZ [.b (e.k == 1), .b (f.k == 1)] [.b false, .b true] = false) (L3 : eqZ [.b (e.k == 1), .b (f.k == 1)] [.b false, .b false] = true) (IN : innerR e f = centR e f) (g : ¬ (radZ e + radZ f) * (radZ e + radZ f) < nF e f) (g2 : ¬ (radZ e - radZ f) * (radZ e - radZ f) <= nF e f) (g3 : ¬ radZ f < radZ e) : Fok Tryz.prog 17 [edV e 3 c26, edV f 3 c26] (edgV (leastP (candR e f))) := by
 have C := centR_eq e f
 rw [if_neg g, if_neg g2, if_neg g3] at C
 unfold wF at C
 cases q1 : inQ e (0 - (f.cx - e.cx)) (0 - (f.cy - e.cy)) with
 | false =>
  rw [leastP_cand e f (l := []) (by rw [IN, C, q1]; rfl)]
  exact fok KE [false, false, false, false, false, true, false, false, false, true] [pF (chk_F h1), pF (chk_F h2), pF h3, pF L1, pF L2, pT L3, pP h1, pP h2, pF (gt_F g), pF (ge_F g2), pF (gt_F g3), pP h1, pT (not_T q1)] (by kernel_rfl)
 | true =>
  cases q2 : inQ f (0 - (f.cx - e.cx)) (0 - (f.cy - e.cy)) with
  | false =>
   rw [leastP_cand e f (l := []) (by rw [IN, C, q1, q2]; rfl)]
   exact fok KE [false, false, false, false, false, true, false, false, false, false, true] [pF (chk_F h1), pF (chk_F h2), pF h3, pF L1, pF L2, pT L3, pP h1, pP h2, pF (gt_F g), pF (ge_F g2), pF (gt_F g3), pP h1, pF (not_F q1), pP h2, pT (not_T q2)] (by kernel_rfl)
  | true =>
   rw [leastP_cand e f (l := _) (by rw [IN, C, q1, q2, Bool.and_self, if_pos rfl])]
   exact fok KE [false, false, false, false, false, true, false, false, false, false, false] [pF (chk_F h1), pF (chk_F h2), pF h3, pF L1, pF L2, pT L3, pP h1, pP h2, pF (gt_F g), pF (ge_F g2), pF (gt_F g3), pP h1, pF (not_F q1), pP h2, pF (not_F q2)] (by kernel_rfl)
theorem edges_ok (e f : Ed) (h1 : e.ok = true) (h2 : f.ok = true) (h3 : (!(countE e f == 0)) = false) : Fok Tryz.prog 17 [edV e 3 c26, edV f 3 c26] (edgV (leastP (candR e f))) := by
 by_cases ke : e.k = 1 <;> by_cases kf : f.k = 1
 ·have L1 : eqZ [.b (e.k == 1), .b (f.k == 1)] [.b true, .b false] = false := by rw [ke, kf]; rfl
  have L2 : eqZ [.b (e.k == 1), .b (f.k == 1)] [.b false, .b true] = false := by rw [ke, kf]; rfl
  have L3 : eqZ [.b (e.k == 1), .b (f.k == 1)] [.b false, .b false] = false := by rw [ke, kf]; rfl
  rw [leastP_cand e f (l := []) (by unfold innerR; rw [if_pos ke, if_pos kf])]
  exact fok KE [false, false, false, false, false, false] [pF (chk_F h1), pF (chk_F h2), pF h3, pF L1, pF L2, pF L3] (by kernel_rfl)
 ·have L1 : eqZ [.b (e.k == 1), .b (f.k == 1)] [.b true, .b false] = true := by rw [ke, show (f.k == 1) = false by simpa using kf]; rfl
  have IN : innerR e f = footR e f := by unfold innerR; rw [if_pos ke, if_neg kf]
  by_cases hc : 0 < cF e f
  ·exact edges_2T e f h1 h2 h3 L1 kf IN hc
  ·exact edges_2F e f h1 h2 h3 L1 kf IN hc
 ·have L1 : eqZ [.b (e.k == 1), .b (f.k == 1)] [.b true, .b false] = false := by rw [kf, show (e.k == 1) = false by simpa using ke]; rfl
  have L2 : eqZ [.b (e.k == 1), .b (f.k == 1)] [.b false, .b true] = true := by rw [kf, show (e.k == 1) = false by simpa using ke]; rfl
  have IN : innerR e f = (footR f e).map Pr.swap := by unfold innerR; rw [if_neg ke, if_pos kf]
  by_cases hc : 0 < cF f e
  ·exact edges_3T e f h1 h2 h3 L1 L2 ke IN hc
  ·exact edges_3F e f h1 h2 h3 L1 L2 ke IN hc
 ·have L1 : eqZ [.b (e.k == 1), .b (f.k == 1)] [.b true, .b false] = false := by rw [show (e.k == 1) = false by simpa using ke]; rfl
  have L2 : eqZ [.b (e.k == 1), .b (f.k == 1)] [.b false, .b true] = false := by rw [show (e.k == 1) = false by simpa using ke, show (f.k == 1) = false by simpa using kf]; rfl
  have L3 : eqZ [.b (e.k == 1), .b (f.k == 1)] [.b false, .b false] = true := by rw [show (e.k == 1) = false by simpa using ke, show (f.k == 1) = false by simpa using kf]; rfl
  have IN : innerR e f = centR e f := by unfold innerR; rw [if_neg ke, if_neg kf]
  by_cases g : (radZ e + radZ f) * (radZ e + radZ f) < nF e f
  ·exact edges_4a e f h1 h2 h3 L1 L2 L3 IN g
  ·by_cases g2 : (radZ e - radZ f) * (radZ e - radZ f) <= nF e f
   ·rw [leastP_cand e f (l := []) (by rw [IN, centR_eq, if_neg g, if_pos g2])]
    exact fok KE [false, false, false, false, false, true, false, true] [pF (chk_F h1), pF (chk_F h2), pF h3, pF L1, pF L2, pT L3, pP h1, pP h2, pF (gt_F g), pT (ge_T g2)] (by kernel_rfl)
   ·by_cases g3 : radZ f < radZ e
    ·exact edges_4b e f h1 h2 h3 L1 L2 L3 IN g g2 g3
    ·exact edges_4c e f h1 h2 h3 L1 L2 L3 IN g g2 g3
def cEdges : Con where
 f := 17
 g := fun | [⟨true, l⟩, ⟨true, m⟩] => (match toEd l, toEd m with | some e, some f => some (edgV (edgesR e f), []) | _, _ => none) | _ => none
 ok := by
  intro args res ps h hp
  split at h <;> try cases h
  split at h <;> cases h
  rename_i e f he hf
  cases hc : (e.ok && f.ok && (countE e f == 0)) with
  | false =>
   rw [show edgesR e f = ⟨Rt.no, Sp.no, Sp.no⟩ by unfold edgesR; rw [if_pos]; revert hc; cases e.ok <;> cases f.ok <;> simp]
   exact (edges_no e f hc).pre fun W => rvs_1 (ed_lim he) (rvs_1 (ed_lim hf) rvs_0)
  | true =>
   simp only [Bool.and_eq_true] at hc
   rw [show edgesR e f = leastP (candR e f) by unfold edgesR; rw [if_neg]; rw [hc.1.1, hc.1.2, hc.2]; decide]
   exact (edges_ok e f hc.1.1 hc.1.2 (by rw [hc.2]; rfl)).pre fun W => rvs_1 (ed_ok he hc.1.1) (rvs_1 (ed_ok hf hc.1.2) rvs_0)
end Go.Proofs.YtighahcllmoajaaGreat

set_option maxRecDepth 1000000
namespace Go.Proofs.YtighahcllmoajaaGreat
open Go.RowKit
def KS : List Con := [cPoint, cEdges, cRight, cCmpInt, d02Same, d01Of, d02Of]
def pC : Pf := ⟨true = true, rfl⟩
theorem sanity8 : Fok Tryz.prog 9 [] (.one (blV true)) :=
 fok KS (List.replicate 27 true) (List.replicate 27 pC) (by kernel_rfl)
theorem blb {V W : World} {r : Nat -> Nat} {k : Nat} {b : Bool} {x : Value} (h : RepV V W r k (blV b) x) : RepV V W r k ⟨false, [.b b]⟩ x := by
 obtain ⟨_, rfl⟩ := rv_v.1 h
 exact RepI.val (i := .b b) rfl
def cSan : Con where
 f := 9
 g := fun | [] => some (.one ⟨false, [.b true]⟩, []) | _ => none
 ok := by
  intro args res ps h _
  split at h <;> cases h
  exact sanity8.mono fun W x h => blb h
theorem eqZ_self7 (a b c d e f g : Int) : eqZ [.i a, .i b, .i c, .i d, .i e, .i f, .i g] [.i a, .i b, .i c, .i d, .i e, .i f, .i g] = true := by simp [eqZ, eqS]
theorem law_true {f : FuncId} {args : List V1} (h : Fok Tryz.prog f args (.one (blV true))) {W : World} {vals : List Value} (hv : RepVs W W (fun _ => 0) 0 args vals) : Calls Tryz.prog f vals.toArray W fun e w' => e = .returned (.bool true) /\ Below W.heap.size W w' :=
 (h W vals hv).mono fun e w' ⟨v, e1, h1, h2⟩ => ⟨by rw [e1, (rv_v.1 h1).2], h2⟩
end Go.Proofs.YtighahcllmoajaaGreat

set_option maxRecDepth 100000
namespace Go.Proofs.YtighahcllmoajaaGreat.fin
open Go.ChangeShapes Go.WideShapes Go.ChangeAt Go.RowKit Go.Joins
set_option linter.unusedVariables false
def In64 (z : Int) : Prop := -9223372036854775808 <= z /\ z <= 9223372036854775807
theorem list_cons {α : Type} {L : List α} {n : Nat} (h : L.length = n + 1) : ∃ x M, L = x :: M /\ M.length = n := by
 cases L with
 | nil => simp at h
 | cons x M => exact ⟨x, M, rfl, by simpa using h⟩
theorem own : ownKnob Tryz.prog.godebug = none := by kernel_rfl
theorem laidOut : laidOutB Tryz.prog = true := by kernel_rfl
theorem cells24 : Tryz.prog.cellsOf 24 = 2 := by kernel_rfl
theorem cells3 : Tryz.prog.cellsOf 3 = 1 := by kernel_rfl
def IsRow (k : IntKind) (w : World) (a : Option Addr) (len cap : Nat) (zs : List Int) : Prop :=
 (a = none /\ len = 0 /\ cap = 0 /\ zs = []) \/
 ∃ x, a = some x /\ len <= cap /\ cap <= maxLen /\ zs.length = cap /\ (∀ i, i < zs.length -> w.cell? (x.add i) = some (.int k (zs.getD i 0))) /\ ∀ n ∈ zs, (Lit.int k n).wf = true
theorem IsRow.ints {w : World} {a : Option Addr} {len cap : Nat} {zs : List Int} (h : IsRow .i64 w a len cap zs) : Ints w a len (zs.take len) /\ len <= cap /\ cap <= 9223372036854775807 := by
 rcases h with ⟨rfl, rfl, rfl, rfl⟩ | ⟨x, rfl, hl, hm, hz, hc, _⟩
 ·exact ⟨⟨rfl, by omega, fun h => absurd h (by omega)⟩, by omega, by omega⟩
 ·unfold maxLen at hm
  refine ⟨⟨by rw [List.length_take, hz]; omega, by omega, fun h0 => ?_⟩, hl, by omega⟩
  obtain ⟨b, o, rfl, hd⟩ := ints_at hc (by omega)
  refine ⟨b, o, rfl, ?_, fun i hi => ?_⟩
  ·exact World.block_lt_of_cell? w _ (hd 0 (by omega))
  ·rw [hd i (by omega), List.getElem?_take_of_lt hi]
   rfl
theorem int_of {W : World} {base : Nat} {v : Value} (h : Cell.okWide Tryz.prog W .any base 3 v) : ∃ z, v = .int .i64 z /\ In64 z := by
 have hu := Tryz.underlying3
 unfold Cell.okWide at h
 rw [hu] at h
 cases v with
 | int k z =>
  simp only [Cell.ok, hu, IntKind.has] at h
  obtain ⟨rfl, h1, h2⟩ := h
  simp [IntKind.min, IntKind.max, IntKind.signed, IntKind.bits] at h1 h2
  exact ⟨z, rfl, h1, h2⟩
 | _ => simp [Cell.ok, hu] at h
theorem ints_st {W : World} {base n : Nat} {t : TypeId} {v : Value} {fs : Array Field} (hu : Tryz.prog.underlying t = some (.struct fs)) (hC : Tryz.prog.cellsOf t = n) (hT : Tryz.prog.cellTypes Tryz.prog.depth t = some (List.replicate n 3))
  (hv : Value.okWide Tryz.prog W .any base t v) : ∃ L : List Int, L.length = n /\ v = .agg (L.map (Value.int .i64)).toArray /\ ∀ z ∈ L, In64 z := by
 unfold Value.okWide at hv
 rw [hu] at hv
 obtain ⟨cs, rfl, hsz, ts, hts, _, hc⟩ := hv
 rw [hC] at hsz
 obtain rfl : List.replicate n 3 = ts := Option.some.inj (hT.symm.trans hts)
 have hz : ∀ i, i < n -> ∃ z, cs[i]? = some (.int .i64 z) /\ In64 z := by
  intro i hi
  have hq : cs[i]? = some cs[i] := Array.getElem?_eq_getElem (by omega)
  obtain ⟨u, h1, h2⟩ := hc i _ hq
  rw [List.length_replicate, Nat.mod_eq_of_lt hi, List.getElem?_replicate, if_pos hi] at h1
  cases h1
  obtain ⟨z, h3, h4⟩ := int_of h2
  exact ⟨z, by rw [hq, h3], h4⟩
 have key : ∀ l : List Value, (∀ v ∈ l, ∃ z, v = .int .i64 z /\ In64 z) -> ∃ L : List Int, L.length = l.length /\ l = L.map (Value.int .i64) /\ ∀ z ∈ L, In64 z := by
  intro l
  induction l with
  | nil => exact fun _ => ⟨[], rfl, rfl, fun z h => by cases h⟩
  | cons x l ih =>
   intro h
   obtain ⟨z, rfl, hz⟩ := h x (List.mem_cons_self ..)
   obtain ⟨L, h1, h2, h3⟩ := ih (fun v hv => h v (List.mem_cons_of_mem _ hv))
   refine ⟨z :: L, by simp [h1], by rw [List.map_cons, <- h2], fun y hy => ?_⟩
   rcases List.mem_cons.1 hy with rfl | hy
   ·exact hz
   ·exact h3 y hy
 obtain ⟨L, h1, h2, h3⟩ := key cs.toList (fun v hv => by
  obtain ⟨i, hi, rfl⟩ := List.getElem_of_mem hv
  simp only [Array.length_toList] at hi
  obtain ⟨z, h1, h2⟩ := hz i (by omega)
  rw [Array.getElem?_eq_getElem hi] at h1
  exact ⟨z, by simpa using h1, h2⟩)
 exact ⟨L, by simpa [hsz] using h1, by rw [<- h2], h3⟩
theorem ints_in {H : Type} {enc : TypeId × Value -> H} {W : World} {base : Nat} {v : Value} {d : DataW H} {p : List MemPlace} (hv : Value.okWide Tryz.prog W .any base 22 v) (h : DataW.Trod enc Tryz.prog W 0 (fun _ => true) true 22 v d p) : ∃ a len cap zs, v = .slice a len cap /\ IsRow .i64 W a len cap zs := by
 obtain ⟨a2, len2, cap2, rfl⟩ := okWide_slice Tryz.underlying22 hv
 obtain ⟨fuel, hf⟩ := h
 rcases open_ints Tryz.underlying22 Tryz.underlying3 (by kernel_rfl) hf with ⟨hcs, _⟩ | ⟨x, l, c, zs, hcs, _, hl, hm, hz, _, hcell, hwz⟩
 ·simp [Value.cells] at hcs
  obtain ⟨rfl, rfl, rfl⟩ := hcs
  exact ⟨_, _, _, [], rfl, .inl ⟨rfl, rfl, rfl, rfl⟩⟩
 ·simp [Value.cells] at hcs
  obtain ⟨rfl, rfl, rfl⟩ := hcs
  exact ⟨_, _, _, zs, rfl, .inr ⟨_, rfl, hl, hm, by simpa using hz, hcell, hwz⟩⟩
theorem rv_ds {w V : World} {r : Nat -> Nat} {k : Nat} {a : Option Addr} {len cap : Nat} {zs : List Int} (h : IsRow .i64 w a len cap zs) : RepV w V r k ⟨false, [.ds (zs.take len)]⟩ (.slice a len cap) := by
 obtain ⟨h1, h2, h3⟩ := IsRow.ints h
 exact RepI.val (i := .ds _) ⟨_, rfl, a, len, cap, rfl, h1, h2, h3⟩
theorem rv_st {w V : World} {r : Nat -> Nat} {k : Nat} : ∀ {L : List Int}, (∀ z ∈ L, In64 z) -> RepV w V r k ⟨true, L.map fun z => .i z lim⟩ (.agg (L.map (Value.int .i64)).toArray) := by
 intro L h
 refine rv_t.2 ⟨_, ?_, rfl⟩
 induction L with
 | nil => rfl
 | cons z L ih => exact rl_i.2 ⟨lim64 (h z (List.mem_cons_self ..)), _, rfl, ih (fun x hx => h x (List.mem_cons_of_mem _ hx))⟩
theorem u8_bd {n : Int} (h : (Lit.int .u8 n).wf = true) : 0 <= n /\ n <= 255 := by
 simpa [Lit.wf, IntKind.has, IntKind.min, IntKind.max, IntKind.signed, IntKind.bits] using h
end Go.Proofs.YtighahcllmoajaaGreat.fin

set_option maxRecDepth 1000000
namespace Go.Proofs.YtighahcllmoajaaGreat
open Go.RowKit
theorem neS (s : Sp) : (!eqZ [.i s.x, .i s.y, .i s.dx, .i s.dy, .i s.p, .i s.q, .i s.len] [.i s.x, .i s.y, .i s.dx, .i s.dy, .i s.p, .i s.q, .i s.len]) = false := by rw [eqZ_self7]; rfl
theorem neR (r : Rt) : (!sameR r r) = false := by rw [sameR_self]; rfl
abbrev p300 : Pf := ⟨(300 : Int) ≠ 0, by decide⟩
def pS (e : Ed) (x y : Int) : Pf := pF (neS (pointR e x y).2)
def pR (e : Ed) (x y : Int) : Pf := pF (neR (pointR e x y).1)
theorem nearPoints_ok (L M : List Int) (e : Ed) (x y : Int) : Fok Tryz.prog 3 [⟨false, [.ds L]⟩, ⟨false, [.ds M]⟩, ⟨true, [.i e.k lim, .i e.ax lim, .i e.ay lim, .i e.bx lim, .i e.by' lim, .i e.cx lim, .i e.cy lim, .i x lim, .i y lim]⟩] (.one (blV true)) :=
 fok [cSan, dMade, dAt, cPoint, dPoint, d02Same] (List.replicate 12 false)
  [pP (mad6_ok L), p300, p300,
   pS (mad6 L) (at6 (mad6 L) M).1 (at6 (mad6 L) M).2, pS e (at6 (mad6 L) M).1 (at6 (mad6 L) M).2, pR (mad6 L) (at6 (mad6 L) M).1 (at6 (mad6 L) M).2, pR e (at6 (mad6 L) M).1 (at6 (mad6 L) M).2,
   pS (mad6 L) x y, pS e x y, pR (mad6 L) x y, pR e x y,
   pS (mad6 L) (x.tmod 300) (y.tmod 300), pS e (x.tmod 300) (y.tmod 300), pR (mad6 L) (x.tmod 300) (y.tmod 300), pR e (x.tmod 300) (y.tmod 300)] (by kernel_rfl)
end Go.Proofs.YtighahcllmoajaaGreat
