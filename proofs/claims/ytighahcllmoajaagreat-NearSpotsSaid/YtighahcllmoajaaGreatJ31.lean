/- Contract: r02.Cmp, by the kernel's walker. | Contracts: root.side, Cmp, CmpInt, by the kernel's walker. | Contracts for the kernel's walker: near.least. | Contracts of the reference for the kernel's walker. | Contract: r08.Quarter, r08.Point, by the kernel's walker. | Contracts: r05.Apply at any turn, r06.Arc, by the kernel's walker. | Contract: r06.Made, by the kernel's walker. -/
import Derived.Test.YtighahcllmoajaaGreatJ30
import Derived.Test.YtighahcllmoajaaGreatJ29
set_option linter.unusedVariables false
set_option linter.unusedSimpArgs false

set_option maxRecDepth 100000
namespace Go.Proofs.YtighahcllmoajaaGreat
open Go.RowKit
def rightZC (f : FuncId) (H : ∀ a : Rt, Dig a.n.d /\ Dig a.d.d -> Fok Tryz.prog f [rtV a] (.one (blV a.right))) : Con where
 f := f
 g := fun | [⟨true, [.i a _, .i s _, .d (.zi n _), .d (.zi d _)]⟩] => some (.one (blV (Rt.right ⟨a, s, ofZ n, ofZ d⟩)), []) | _ => none
 ok := by
  intro args res ps h hp
  split at h <;> cases h
  rename_i a _ s _ n N d D
  refine Fok.pre (H ⟨a, s, ofZ n, ofZ d⟩ ⟨dig_digs _, dig_digs _⟩) fun W => rvs_1 (fun v hv => ?_) fun _ h => h
  simp only [rv_t, rl_i, rl_zi, rl_nil] at hv
  obtain ⟨_, ⟨⟨_, i1⟩, _, rfl, ⟨_, i2⟩, _, rfl, _, n1, p1, l1, c1, h1, _, rfl, _, m1, q1, k1, d1, h2, _, rfl, rfl⟩, rfl⟩ := hv
  exact rv_t.2 ⟨_, rl_i.2 ⟨lim64 i1, _, rfl, rl_i.2 ⟨lim64 i2, _, rfl, rl_num.2 ⟨n1, p1, l1, c1, h1, _, rfl, rl_num.2 ⟨m1, q1, k1, d1, h2, _, rfl, rfl⟩⟩⟩⟩, rfl⟩
def d2RightZ : Con := rightZC 98 r2Right_fok
def c8 : Nat := 4294967296 ^ 8
def rzV (a s n d : Int) : V1 := ⟨true, [.i a lim, .i s 1, .d (.zi n c8), .d (.zi d c8)]⟩
def K2D : List Con := d2RightZ :: d2Side :: K2C
theorem r2Cmp_z (a s n d b t m e : Int) (h1 : Rt.right ⟨a, s, ofZ n, ofZ d⟩ = true) (h2 : Rt.right ⟨b, t, ofZ m, ofZ e⟩ = true) (h0 : 0 <= n * d) : Fok Tryz.prog 58 [rzV a s n d, rzV b t m e] (.one (inV (cmpR (a - b) s n d t m e) lim)) := by
 unfold cmpR
 by_cases h : sideZ ((a - b) * d) s (n * d) ≠ t
 ·rw [if_pos h]
  by_cases g : t < sideZ ((a - b) * d) s (n * d)
  ·rw [show max (min (sideZ ((a - b) * d) s (n * d) - t) 1) (-1) = 1 by omega]
   exact fok K2D [false, false, true, true] [pF (nt_F h1), pF (nt_F h2), pP h0, pT (ne_T h), pT (gt_T g)] (by kernel_rfl)
  ·rw [show max (min (sideZ ((a - b) * d) s (n * d) - t) 1) (-1) = -1 by omega]
   exact fok K2D [false, false, true, false] [pF (nt_F h1), pF (nt_F h2), pP h0, pT (ne_T h), pF (gt_F g)] (by kernel_rfl)
 ·rw [if_neg h, show (a - b) * (a - b) * d * e + n * e - m * d = (a - b) * (a - b) * (d * e) + n * e - m * d by grind, show 2 * (a - b) * s * e = 2 * s * (a - b) * e by grind]
  exact fok K2D [false, false, false] [pF (nt_F h1), pF (nt_F h2), pP h0, pF (ne_F h), pP h0] (by kernel_rfl)
theorem cmpRt_bd (a b : Rt) : (cmpRt a b).natAbs <= 1 /\ I64 (cmpRt a b) := by
 have sg3 : ∀ {x : Int}, -1 <= x /\ x <= 1 -> x = -1 \/ x = 0 \/ x = 1 := fun h => by omega
 have key : -1 <= cmpRt a b /\ cmpRt a b <= 1 := by
  unfold cmpRt
  split
  ·unfold cmpR
   split
   ·omega
   ·have h := sg3 (sideZ_bd ((a.add - b.add) * a.d.z) a.s (a.n.z * a.d.z))
    have g := sg3 (sideZ_bd ((a.add - b.add) * (a.add - b.add) * a.d.z * b.d.z + a.n.z * b.d.z - b.n.z * a.d.z) (2 * (a.add - b.add) * a.s * b.d.z) (a.n.z * a.d.z))
    generalize sideZ ((a.add - b.add) * a.d.z) a.s (a.n.z * a.d.z) = u at h
    generalize sideZ ((a.add - b.add) * (a.add - b.add) * a.d.z * b.d.z + a.n.z * b.d.z - b.n.z * a.d.z) (2 * (a.add - b.add) * a.s * b.d.z) (a.n.z * a.d.z) = v at g
    rcases h with rfl | rfl | rfl <;> rcases g with rfl | rfl | rfl <;> decide
  ·decide
 exact ⟨by omega, by unfold I64; omega⟩
theorem rz_of {V W : World} {r : Nat -> Nat} {k : Nat} {a s : Int} {A S : Nat} {n d : Nm} (h : Rt.right ⟨a, s, n, d⟩ = true) (dn : Dig n.d) (dd : Dig d.d) : (n = ofZ n.z /\ d = ofZ d.z /\ 0 <= n.z * d.z) /\ ∀ v, RepV V W r k ⟨true, [.i a A, .i s S, .d (.num n), .d (.num d)]⟩ v -> RepV V W r k (rzV a s n.z d.z) v := by
 have ok := (right_ok (a := ⟨a, s, n, d⟩) dn dd h).1
 have en := ofZ_of_right dn ok.nr
 have ed := ofZ_of_right dd ok.dr
 have zn : n.z = (val n.d : Int) := ok.zs.1
 have zd : d.z = (val d.d : Int) := ok.zs.2
 have bd : ∀ {x : List Nat}, Dig x -> x.length <= 8 -> val x <= c8 := fun hx hl => Nat.le_trans (Nat.le_of_lt (val_lt hx)) (Nat.pow_le_pow_right (by decide) hl)
 refine ⟨⟨en.symm, ed.symm, by rw [zn, zd]; exact Int.mul_nonneg (by omega) (by omega)⟩, fun v hv => ?_⟩
 simp only [rv_t, rl_i, rl_num, rl_nil] at hv
 obtain ⟨_, ⟨⟨_, i1⟩, _, rfl, ⟨_, i2⟩, _, rfl, n1, p1, l1, c1, h1, _, rfl, m1, q1, k1, d1, h2, _, rfl, rfl⟩, rfl⟩ := hv
 have b1 := bd dn ok.nl
 have b2 := bd dd ok.dl
 have sl := ok.sl
 have su := ok.su
 simp only at sl su
 exact rv_t.2 ⟨_, rl_i.2 ⟨lim64 i1, _, rfl, rl_i.2 ⟨⟨by omega, i2⟩, _, rfl, rl_zi.2 ⟨by omega, n1, p1, l1, c1, en.symm ▸ h1, _, rfl, rl_zi.2 ⟨by omega, m1, q1, k1, d1, ed.symm ▸ h2, _, rfl, rfl⟩⟩⟩⟩, rfl⟩
def cmpC (f : FuncId) (N : ∀ a b : Rt, Dig a.n.d /\ Dig a.d.d -> Dig b.n.d /\ Dig b.d.d -> (a.right && b.right) = false -> Fok Tryz.prog f [rtV a, rtV b] (.one (inV 0 lim)))
  (H : ∀ a s n d b t m e : Int, Rt.right ⟨a, s, ofZ n, ofZ d⟩ = true -> Rt.right ⟨b, t, ofZ m, ofZ e⟩ = true -> 0 <= n * d -> Fok Tryz.prog f [rzV a s n d, rzV b t m e] (.one (inV (cmpR (a - b) s n d t m e) lim))) : Con where
 f := f
 g := fun | [⟨true, [.i a _, .i s _, .d (.num n), .d (.num d)]⟩, ⟨true, [.i b _, .i t _, .d (.num m), .d (.num e)]⟩] => some (.one (inV (cmpRt ⟨a, s, n, d⟩ ⟨b, t, m, e⟩) 1), []) | _ => none
 ok := by
  intro args res ps h hp
  split at h <;> cases h
  rename_i a A s S n d b B t T m e
  intro W vals hv
  obtain ⟨v1, g1, l1, rfl, hv1⟩ := rvs_cons.1 hv
  obtain ⟨v2, g2, l2, rfl, hv2⟩ := rvs_cons.1 hv1
  obtain ⟨k1, dn, dd, _⟩ := rt_at g1
  obtain ⟨k2, dm, de, _⟩ := rt_at g2
  have b0 := (cmpRt_bd ⟨a, s, n, d⟩ ⟨b, t, m, e⟩).1
  cases hr : (Rt.right ⟨a, s, n, d⟩ && Rt.right ⟨b, t, m, e⟩) with
  | false =>
   have e0 : cmpRt ⟨a, s, n, d⟩ ⟨b, t, m, e⟩ = 0 := by unfold cmpRt; rw [hr]; rfl
   rw [e0]
   exact (N _ _ ⟨dn, dd⟩ ⟨dm, de⟩ hr).bd (by decide) W _ (rvs_cons.2 ⟨_, k1, _, rfl, rvs_cons.2 ⟨_, k2, _, rfl, hv2⟩⟩)
  | true =>
   have e0 : cmpRt ⟨a, s, n, d⟩ ⟨b, t, m, e⟩ = cmpR (a - b) s n.z d.z t m.z e.z := by unfold cmpRt; rw [hr]; rfl
   rw [e0] at b0 ⊢
   simp only [Bool.and_eq_true] at hr
   obtain ⟨⟨x1, x2, x3⟩, x4⟩ := rz_of (V := W) (W := W) (r := fun _ => 0) (k := 0) (A := A) (S := S) hr.1 dn dd
   obtain ⟨⟨y1, y2, _⟩, y4⟩ := rz_of (V := W) (W := W) (r := fun _ => 0) (k := 0) (A := B) (S := T) hr.2 dm de
   exact (H a s n.z d.z b t m.z e.z (by rw [<- x1, <- x2]; exact hr.1) (by rw [<- y1, <- y2]; exact hr.2) x3).bd b0 W _ (rvs_cons.2 ⟨_, x4 _ g1, _, rfl, rvs_cons.2 ⟨_, y4 _ g2, _, rfl, hv2⟩⟩)
theorem r2Cmp_no (a b : Rt) (h : (a.right && b.right) = false) : Fok Tryz.prog 58 [rtV a, rtV b] (.one (inV 0 lim)) := by
 cases h1 : a.right with
 | false => exact fok [d02Right] [true] [pT (nt_T h1)] (by kernel_rfl)
 | true =>
  rw [h1] at h
  exact fok [d02Right] [false, true] [pF (nt_F h1), pT (nt_T h)] (by kernel_rfl)
def d02Cmp : Con := cmpC 58 (fun a b _ _ h => r2Cmp_no a b h) r2Cmp_z
end Go.Proofs.YtighahcllmoajaaGreat

set_option maxRecDepth 100000
namespace Go.Proofs.YtighahcllmoajaaGreat
open Go.RowKit
def cZAdd : Con := zBinC 106 addP (· + ·) (· + ·) (fun A B => decide (A + B < c2048)) num_Add zadd_c
def cZCmp : Con := zCmpC 69 fun a b _ _ _ _ _ _ _ _ w h1 h2 => num_Cmp a b _ _ _ _ _ _ _ _ w h1 h2
def cRightZ : Con := rightZC 24 fun a _ => rtRight_fok a
def KZ : List Con := [cZOf, cZMul, cZAdd, cZCmp]
theorem rtSide_fok (a b c : Int) : Fok Tryz.prog 66 [ziV a c672, ziV b c672, ziV c c672] (.one (inV (sideZ a b c) lim)) := by
 unfold sideZ
 by_cases h : 0 <= sgn a * (sgn b * sgn c)
 ·rw [if_pos h]
  exact fok KZ [true] [pT (decide_eq_true h)] (by kernel_rfl)
 ·rw [if_neg h, show a * a = 1 * a * a by rw [Int.one_mul], show b * b * c = 1 * b * b * c by rw [Int.one_mul]]
  exact fok KZ [false] [pF (decide_eq_false h)] (by kernel_rfl)
def cZSide : Con := sideC 66 c672 fun a b c _ _ _ _ => rtSide_fok a b c
def KRt : List Con := cRightZ :: cZSide :: KZ
theorem rtCmp_z (a s n d b t m e : Int) (h1 : Rt.right ⟨a, s, ofZ n, ofZ d⟩ = true) (h2 : Rt.right ⟨b, t, ofZ m, ofZ e⟩ = true) (h0 : 0 <= n * d) : Fok Tryz.prog 20 [rzV a s n d, rzV b t m e] (.one (inV (cmpR (a - b) s n d t m e) lim)) := by
 have h3 : 0 <= 1 * n * d := by rw [Int.one_mul]; exact h0
 have hU : sideZ (1 * (0 + a + 1 * -1 * b) * d) s (1 * n * d) = sideZ ((a - b) * d) s (n * d) := by
  rw [show 1 * (0 + a + 1 * -1 * b) * d = (a - b) * d by grind, Int.one_mul]
 have hV : sideZ (0 + 1 * (0 + a + 1 * -1 * b) * (0 + a + 1 * -1 * b) * d * e + 1 * n * e + 1 * -1 * (1 * m * d)) (1 * 2 * (0 + a + 1 * -1 * b) * s * e) (1 * n * d) = sideZ ((a - b) * (a - b) * d * e + n * e - m * d) (2 * (a - b) * s * e) (n * d) := by
  rw [show 0 + 1 * (0 + a + 1 * -1 * b) * (0 + a + 1 * -1 * b) * d * e + 1 * n * e + 1 * -1 * (1 * m * d) = (a - b) * (a - b) * d * e + n * e - m * d by grind, show 1 * 2 * (0 + a + 1 * -1 * b) * s * e = 2 * (a - b) * s * e by grind, Int.one_mul]
 unfold cmpR
 rw [<- hU, <- hV]
 by_cases h : sideZ (1 * (0 + a + 1 * -1 * b) * d) s (1 * n * d) ≠ t
 ·rw [if_pos h]
  exact fok KRt [false, false, true] [pF (nt_F h1), pF (nt_F h2), pP h3, pT (ne_T h)] (by kernel_rfl)
 ·rw [if_neg h]
  exact fok KRt [false, false, false] [pF (nt_F h1), pF (nt_F h2), pP h3, pF (ne_F h), pP h3] (by kernel_rfl)
theorem rtCmp_no (a b : Rt) (h : (a.right && b.right) = false) : Fok Tryz.prog 20 [rtV a, rtV b] (.one (inV 0 lim)) := by
 cases h1 : a.right with
 | false => exact fok [cRight] [true] [pT (nt_T h1)] (by kernel_rfl)
 | true =>
  rw [h1] at h
  exact fok [cRight] [false, true] [pF (nt_F h1), pT (nt_T h)] (by kernel_rfl)
def cCmp : Con := cmpC 20 (fun a b _ _ h => rtCmp_no a b h) rtCmp_z
theorem rtCmpInt_fok (a : Rt) (z : Int) : Fok Tryz.prog 23 [rtV a, inV z lim] (.one (inV (cmpRt a ⟨z, 0, zero, ofZ 1⟩) lim)) := fok [cCmp, cNOf] [] [] (by kernel_rfl)
def cCmpInt : Con where
 f := 23
 g := fun | [⟨true, [.i a _, .i s _, .d (.num n), .d (.num d)]⟩, ⟨false, [.i z _]⟩] => some (.one (inV (cmpRt ⟨a, s, n, d⟩ ⟨z, 0, zero, ofZ 1⟩) 1), []) | _ => none
 ok := by
  intro args res ps h hp
  split at h <;> cases h
  rename_i a _ s _ n d z _
  exact ((rtCmpInt_fok ⟨a, s, n, d⟩ z).bd (cmpRt_bd _ _).1).pre fun W => rvs_1 (fun _ h => (rt_at h).1) (rvs_1 in_lim fun _ h => h)
end Go.Proofs.YtighahcllmoajaaGreat

set_option maxHeartbeats 1000000
set_option maxRecDepth 100000
namespace Go.Proofs.YtighahcllmoajaaGreat
open Go.RowKit
def toRt : List It -> Option (Rt × List It)
 | a :: s :: .d (.num n) :: .d (.num d) :: l => match asI a, asI s with | some (a, _), some (s, _) => some (⟨a, s, n, d⟩, l) | _, _ => none
 | _ => none
theorem asI_F {V : World} {i : It} {z : Int} {B : Nat} {cs : List Value} (h : asI i = some (z, B)) (hr : Rep0 V i cs) : cs = [.int .i64 z] /\ I64 z := by
 unfold asI at h
 split at h <;> cases h
 ·exact ⟨hr.1, hr.2.2⟩
 ·exact hr
theorem toRt_rep {V : World} {l m : List It} {a : Rt} {cs : List Value} (h : toRt l = some (a, m)) (hr : RepF V l cs) : ∃ n p k c b q j d r, cs = .int .i64 a.add :: .int .i64 a.s :: .bool n :: .slice p k c :: .bool b :: .slice q j d :: r /\ NR V n p k c a.n /\ NR V b q j d a.d /\ (I64 a.add /\ I64 a.s) /\ RepF V m r := by
 unfold toRt at h
 split at h
 ·split at h
  ·cases h
   rename_i h1 h2
   obtain ⟨c1, d1, rfl, r1, c2, d2, rfl, r2, c3, d3, rfl, ⟨n, p, k, c, rfl, h3⟩, c4, d4, rfl, ⟨b, q, j, d, rfl, h4⟩, r5⟩ := hr
   obtain ⟨rfl, i1⟩ := asI_F h1 r1
   obtain ⟨rfl, i2⟩ := asI_F h2 r2
   exact ⟨n, p, k, c, b, q, j, d, d4, rfl, h3, h4, ⟨i1, i2⟩, r5⟩
  ·cases h
 ·cases h
def intsN : Nat -> List It -> Option (List Int × List It)
 | 0, l => some ([], l)
 | _ + 1, [] => none
 | n + 1, i :: l => match asI i, intsN n l with | some (z, _), some (r, m) => some (z :: r, m) | _, _ => none
theorem intsN_rep {V : World} : ∀ {n : Nat} {l m : List It} {zs : List Int} {cs : List Value}, intsN n l = some (zs, m) -> RepF V l cs -> zs.length = n /\ (∀ z ∈ zs, I64 z) /\ ∃ r, cs = zs.map (Value.int .i64) ++ r /\ RepF V m r
 | 0, _, _, _, cs, h, hr => by unfold intsN at h; cases h; exact ⟨rfl, nofun, cs, rfl, hr⟩
 | n + 1, [], _, _, _, h, _ => by unfold intsN at h; cases h
 | n + 1, i :: l, m, zs, cs, h, ⟨c, d, e, h1, h2⟩ => by
  unfold intsN at h
  split at h
  ·rename_i z _ r m' hz hr
   cases h
   obtain ⟨k1, k2, q, k3, k4⟩ := intsN_rep hr h2
   obtain ⟨rfl, hi⟩ := asI_F hz h1
   refine ⟨by simp [k1], fun x hx => ?_, q, by rw [e, k3]; rfl, k4⟩
   rcases List.mem_cons.1 hx with rfl | hx
   ·exact hi
   ·exact k2 x hx
  ·cases h
def Sp.of : List Int -> Sp
 | [x, y, dx, dy, p, q, len] => ⟨x, y, dx, dy, p, q, len⟩
 | _ => Sp.no
def toPr (l : List It) : Option (Pr × List It) :=
 match toRt l with
 | some (d, l) => (match intsN 7 l with
  | some (a, l) => (match intsN 7 l with
   | some (b, l) => some (⟨d, Sp.of a, Sp.of b⟩, l)
   | none => none)
  | none => none)
 | none => none
def toPrs : Nat -> List It -> Option (List Pr)
 | 0, _ => some []
 | n + 1, l => match toPr l with
  | some (x, l) => (match toPrs n l with | some r => some (x :: r) | none => none)
  | none => none
def Sp.i64 (s : Sp) : Prop := I64 s.x /\ I64 s.y /\ I64 s.dx /\ I64 s.dy /\ I64 s.p /\ I64 s.q /\ I64 s.len
def Pr.i64 (x : Pr) : Prop := (I64 x.d.add /\ I64 x.d.s) /\ x.a.i64 /\ x.b.i64
theorem seven {zs : List Int} (h : zs.length = 7) : ∃ a b c d e f g, zs = [a, b, c, d, e, f, g] := by
 match zs, h with
 | [a, b, c, d, e, f, g], _ => exact ⟨a, b, c, d, e, f, g, rfl⟩
theorem sp_of {zs : List Int} (h : zs.length = 7) (hi : ∀ z ∈ zs, I64 z) : (Sp.of zs).i64 /\ zs = [(Sp.of zs).x, (Sp.of zs).y, (Sp.of zs).dx, (Sp.of zs).dy, (Sp.of zs).p, (Sp.of zs).q, (Sp.of zs).len] := by
 obtain ⟨a, b, c, d, e, f, g, rfl⟩ := seven h
 exact ⟨⟨hi a (by simp), hi b (by simp), hi c (by simp), hi d (by simp), hi e (by simp), hi f (by simp), hi g (by simp)⟩, rfl⟩
def prV (e : Pr) (n : Bool) (p : Option Addr) (l c : Nat) (m : Bool) (q : Option Addr) (k d : Nat) : List Value :=
 [.int .i64 e.d.add, .int .i64 e.d.s, .bool n, .slice p l c, .bool m, .slice q k d, .int .i64 e.a.x, .int .i64 e.a.y, .int .i64 e.a.dx, .int .i64 e.a.dy, .int .i64 e.a.p, .int .i64 e.a.q, .int .i64 e.a.len,
  .int .i64 e.b.x, .int .i64 e.b.y, .int .i64 e.b.dx, .int .i64 e.b.dy, .int .i64 e.b.p, .int .i64 e.b.q, .int .i64 e.b.len]
theorem toPr_rep {V : World} {l m : List It} {x : Pr} {cs : List Value} (hx : toPr l = some (x, m)) (hr : RepF V l cs) : ∃ n p k c b q j d r, cs = prV x n p k c b q j d ++ r /\ NR V n p k c x.d.n /\ NR V b q j d x.d.d /\ x.i64 /\ RepF V m r := by
 unfold toPr at hx
 split at hx <;> (try (cases hx; done))
 rename_i d l1 h1
 split at hx <;> (try (cases hx; done))
 rename_i a l2 h2
 split at hx <;> (try (cases hx; done))
 rename_i b l3 h3
 cases hx
 obtain ⟨n1, p1, k1, c1, m1, q1, j1, d1, r1, e1, nr1, nr2, i1, rf1⟩ := toRt_rep h1 hr
 obtain ⟨la, ia, r2, e2, rf2⟩ := intsN_rep h2 rf1
 obtain ⟨lb, ib, r3, e3, rf3⟩ := intsN_rep h3 rf2
 refine ⟨n1, p1, k1, c1, m1, q1, j1, d1, r3, ?_, nr1, nr2, ⟨i1, (sp_of la ia).1, (sp_of lb ib).1⟩, rf3⟩
 obtain ⟨a0, a1, a2, a3, a4, a5, a6, rfl⟩ := seven la
 obtain ⟨b0, b1, b2, b3, b4, b5, b6, rfl⟩ := seven lb
 rw [e1, e2, e3]
 rfl
def prL (x : Pr) : List It := (rtV x.d).l ++ ((spV x.a).l ++ (spV x.b).l)
theorem rf_i {V : World} {z : Int} {l : List It} {cs : List Value} (h : I64 z) (h2 : RepF V l cs) : RepF V (.i z lim :: l) (.int .i64 z :: cs) := ⟨[_], cs, rfl, ⟨rfl, lim64 h⟩, h2⟩
theorem rf_n {V : World} {x : Nm} {n : Bool} {p : Option Addr} {k c : Nat} {l : List It} {cs : List Value} (h : NR V n p k c x) (h2 : RepF V l cs) : RepF V (.d (.num x) :: l) (.bool n :: .slice p k c :: cs) := ⟨[_, _], cs, rfl, ⟨n, p, k, c, rfl, h⟩, h2⟩
theorem pr_low {V : World} {x : Pr} {n b : Bool} {p q : Option Addr} {k c j d : Nat} {m : List It} {cs : List Value} (hi : x.i64) (h1 : NR V n p k c x.d.n) (h2 : NR V b q j d x.d.d) (h : RepF V m cs) : RepF V (prL x ++ m) (prV x n p k c b q j d ++ cs) := by
 obtain ⟨⟨i1, i2⟩, ⟨a1, a2, a3, a4, a5, a6, a7⟩, ⟨b1, b2, b3, b4, b5, b6, b7⟩⟩ := hi
 exact rf_i i1 (rf_i i2 (rf_n h1 (rf_n h2 (rf_i a1 (rf_i a2 (rf_i a3 (rf_i a4 (rf_i a5 (rf_i a6 (rf_i a7 (rf_i b1 (rf_i b2 (rf_i b3 (rf_i b4 (rf_i b5 (rf_i b6 (rf_i b7 h)))))))))))))))))
theorem toPrs_low {V : World} : ∀ {n : Nat} {l : List It} {L : List Pr} {cs : List Value}, toPrs n l = some L -> RepF V l cs -> cs.length = n * 20 -> L.length = n /\ RepF V (L.map prL).flatten cs
 | 0, l, L, cs, h, _, hl => by
  unfold toPrs at h
  cases h
  have : cs = [] := List.eq_nil_of_length_eq_zero (by simpa using hl)
  subst this
  exact ⟨rfl, rfl⟩
 | n + 1, l, L, cs, h, hr, hl => by
  unfold toPrs at h
  split at h <;> (try (cases h; done))
  rename_i x l' hx
  split at h <;> (try (cases h; done))
  rename_i r hr'
  cases h
  obtain ⟨n1, p1, k1, c1, m1, q1, j1, d1, r3, e1, nr1, nr2, i1, rf⟩ := toPr_rep hx hr
  have hl3 : r3.length = n * 20 := by
   rw [e1, List.length_append] at hl
   have : (prV x n1 p1 k1 c1 m1 q1 j1 d1).length = 20 := rfl
   omega
  obtain ⟨z1, z2⟩ := toPrs_low hr' rf hl3
  refine ⟨by simp [z1], ?_⟩
  rw [e1, List.map_cons, List.flatten_cons]
  exact pr_low i1 nr1 nr2 z2
def prI (x : Pr) : V1 := ⟨true, (rtV x.d).l ++ ((spV x.a).l ++ (spV x.b).l)⟩
def lessP (x y : Pr) : Bool := decide (cmpRt y.d x.d < 0)
theorem betterP_T {x y : Pr} (h : lessP x y = true) : betterP x y = y := if_pos (of_decide_eq_true h)
theorem betterP_F {x y : Pr} (h : lessP x y = false) : betterP x y = x := if_neg (of_decide_eq_false h)
def lsA (L : List Pr) : List V1 := [⟨false, [.fs 0 (L.map prL).flatten L.length 20]⟩, ⟨false, [.v (.func (.func 54) #[] #[])]⟩]
theorem least_4 (p1 p2 p3 p4 : Pr) : Fok Tryz.prog 53 (lsA [p1, p2, p3, p4]) (.one (prI (leastP [p1, p2, p3, p4]))) := by
 cases H2 : lessP p1 p2 with
 | true =>
  cases H3 : lessP p2 p3 with
  | true =>
   cases H4 : lessP p3 p4 with
   | true =>
    rw [show leastP [p1, p2, p3, p4] = p4 by simp only [leastP, List.foldl_cons, List.foldl_nil, betterP_T H2, betterP_T H3, betterP_T H4]]
    exact fok [cCmp] [true, true, true] [pT H2, pT H3, pT H4] (by kernel_rfl)
   | false =>
    rw [show leastP [p1, p2, p3, p4] = p3 by simp only [leastP, List.foldl_cons, List.foldl_nil, betterP_T H2, betterP_T H3, betterP_F H4]]
    exact fok [cCmp] [true, true, false] [pT H2, pT H3, pF H4] (by kernel_rfl)
  | false =>
   cases H4 : lessP p2 p4 with
   | true =>
    rw [show leastP [p1, p2, p3, p4] = p4 by simp only [leastP, List.foldl_cons, List.foldl_nil, betterP_T H2, betterP_F H3, betterP_T H4]]
    exact fok [cCmp] [true, false, true] [pT H2, pF H3, pT H4] (by kernel_rfl)
   | false =>
    rw [show leastP [p1, p2, p3, p4] = p2 by simp only [leastP, List.foldl_cons, List.foldl_nil, betterP_T H2, betterP_F H3, betterP_F H4]]
    exact fok [cCmp] [true, false, false] [pT H2, pF H3, pF H4] (by kernel_rfl)
 | false =>
  cases H3 : lessP p1 p3 with
  | true =>
   cases H4 : lessP p3 p4 with
   | true =>
    rw [show leastP [p1, p2, p3, p4] = p4 by simp only [leastP, List.foldl_cons, List.foldl_nil, betterP_F H2, betterP_T H3, betterP_T H4]]
    exact fok [cCmp] [false, true, true] [pF H2, pT H3, pT H4] (by kernel_rfl)
   | false =>
    rw [show leastP [p1, p2, p3, p4] = p3 by simp only [leastP, List.foldl_cons, List.foldl_nil, betterP_F H2, betterP_T H3, betterP_F H4]]
    exact fok [cCmp] [false, true, false] [pF H2, pT H3, pF H4] (by kernel_rfl)
  | false =>
   cases H4 : lessP p1 p4 with
   | true =>
    rw [show leastP [p1, p2, p3, p4] = p4 by simp only [leastP, List.foldl_cons, List.foldl_nil, betterP_F H2, betterP_F H3, betterP_T H4]]
    exact fok [cCmp] [false, false, true] [pF H2, pF H3, pT H4] (by kernel_rfl)
   | false =>
    rw [show leastP [p1, p2, p3, p4] = p1 by simp only [leastP, List.foldl_cons, List.foldl_nil, betterP_F H2, betterP_F H3, betterP_F H4]]
    exact fok [cCmp] [false, false, false] [pF H2, pF H3, pF H4] (by kernel_rfl)
theorem least_5T (p1 p2 p3 p4 p5 : Pr) (H2 : lessP p1 p2 = true) : Fok Tryz.prog 53 (lsA [p1, p2, p3, p4, p5]) (.one (prI (leastP [p1, p2, p3, p4, p5]))) := by
 cases H3 : lessP p2 p3 with
 | true =>
  cases H4 : lessP p3 p4 with
  | true =>
   cases H5 : lessP p4 p5 with
   | true =>
    rw [show leastP [p1, p2, p3, p4, p5] = p5 by simp only [leastP, List.foldl_cons, List.foldl_nil, betterP_T H2, betterP_T H3, betterP_T H4, betterP_T H5]]
    exact fok [cCmp] [true, true, true, true] [pT H2, pT H3, pT H4, pT H5] (by kernel_rfl)
   | false =>
    rw [show leastP [p1, p2, p3, p4, p5] = p4 by simp only [leastP, List.foldl_cons, List.foldl_nil, betterP_T H2, betterP_T H3, betterP_T H4, betterP_F H5]]
    exact fok [cCmp] [true, true, true, false] [pT H2, pT H3, pT H4, pF H5] (by kernel_rfl)
  | false =>
   cases H5 : lessP p3 p5 with
   | true =>
    rw [show leastP [p1, p2, p3, p4, p5] = p5 by simp only [leastP, List.foldl_cons, List.foldl_nil, betterP_T H2, betterP_T H3, betterP_F H4, betterP_T H5]]
    exact fok [cCmp] [true, true, false, true] [pT H2, pT H3, pF H4, pT H5] (by kernel_rfl)
   | false =>
    rw [show leastP [p1, p2, p3, p4, p5] = p3 by simp only [leastP, List.foldl_cons, List.foldl_nil, betterP_T H2, betterP_T H3, betterP_F H4, betterP_F H5]]
    exact fok [cCmp] [true, true, false, false] [pT H2, pT H3, pF H4, pF H5] (by kernel_rfl)
 | false =>
  cases H4 : lessP p2 p4 with
  | true =>
   cases H5 : lessP p4 p5 with
   | true =>
    rw [show leastP [p1, p2, p3, p4, p5] = p5 by simp only [leastP, List.foldl_cons, List.foldl_nil, betterP_T H2, betterP_F H3, betterP_T H4, betterP_T H5]]
    exact fok [cCmp] [true, false, true, true] [pT H2, pF H3, pT H4, pT H5] (by kernel_rfl)
   | false =>
    rw [show leastP [p1, p2, p3, p4, p5] = p4 by simp only [leastP, List.foldl_cons, List.foldl_nil, betterP_T H2, betterP_F H3, betterP_T H4, betterP_F H5]]
    exact fok [cCmp] [true, false, true, false] [pT H2, pF H3, pT H4, pF H5] (by kernel_rfl)
  | false =>
   cases H5 : lessP p2 p5 with
   | true =>
    rw [show leastP [p1, p2, p3, p4, p5] = p5 by simp only [leastP, List.foldl_cons, List.foldl_nil, betterP_T H2, betterP_F H3, betterP_F H4, betterP_T H5]]
    exact fok [cCmp] [true, false, false, true] [pT H2, pF H3, pF H4, pT H5] (by kernel_rfl)
   | false =>
    rw [show leastP [p1, p2, p3, p4, p5] = p2 by simp only [leastP, List.foldl_cons, List.foldl_nil, betterP_T H2, betterP_F H3, betterP_F H4, betterP_F H5]]
    exact fok [cCmp] [true, false, false, false] [pT H2, pF H3, pF H4, pF H5] (by kernel_rfl)
theorem least_5F (p1 p2 p3 p4 p5 : Pr) (H2 : lessP p1 p2 = false) : Fok Tryz.prog 53 (lsA [p1, p2, p3, p4, p5]) (.one (prI (leastP [p1, p2, p3, p4, p5]))) := by
 cases H3 : lessP p1 p3 with
 | true =>
  cases H4 : lessP p3 p4 with
  | true =>
   cases H5 : lessP p4 p5 with
   | true =>
    rw [show leastP [p1, p2, p3, p4, p5] = p5 by simp only [leastP, List.foldl_cons, List.foldl_nil, betterP_F H2, betterP_T H3, betterP_T H4, betterP_T H5]]
    exact fok [cCmp] [false, true, true, true] [pF H2, pT H3, pT H4, pT H5] (by kernel_rfl)
   | false =>
    rw [show leastP [p1, p2, p3, p4, p5] = p4 by simp only [leastP, List.foldl_cons, List.foldl_nil, betterP_F H2, betterP_T H3, betterP_T H4, betterP_F H5]]
    exact fok [cCmp] [false, true, true, false] [pF H2, pT H3, pT H4, pF H5] (by kernel_rfl)
  | false =>
   cases H5 : lessP p3 p5 with
   | true =>
    rw [show leastP [p1, p2, p3, p4, p5] = p5 by simp only [leastP, List.foldl_cons, List.foldl_nil, betterP_F H2, betterP_T H3, betterP_F H4, betterP_T H5]]
    exact fok [cCmp] [false, true, false, true] [pF H2, pT H3, pF H4, pT H5] (by kernel_rfl)
   | false =>
    rw [show leastP [p1, p2, p3, p4, p5] = p3 by simp only [leastP, List.foldl_cons, List.foldl_nil, betterP_F H2, betterP_T H3, betterP_F H4, betterP_F H5]]
    exact fok [cCmp] [false, true, false, false] [pF H2, pT H3, pF H4, pF H5] (by kernel_rfl)
 | false =>
  cases H4 : lessP p1 p4 with
  | true =>
   cases H5 : lessP p4 p5 with
   | true =>
    rw [show leastP [p1, p2, p3, p4, p5] = p5 by simp only [leastP, List.foldl_cons, List.foldl_nil, betterP_F H2, betterP_F H3, betterP_T H4, betterP_T H5]]
    exact fok [cCmp] [false, false, true, true] [pF H2, pF H3, pT H4, pT H5] (by kernel_rfl)
   | false =>
    rw [show leastP [p1, p2, p3, p4, p5] = p4 by simp only [leastP, List.foldl_cons, List.foldl_nil, betterP_F H2, betterP_F H3, betterP_T H4, betterP_F H5]]
    exact fok [cCmp] [false, false, true, false] [pF H2, pF H3, pT H4, pF H5] (by kernel_rfl)
  | false =>
   cases H5 : lessP p1 p5 with
   | true =>
    rw [show leastP [p1, p2, p3, p4, p5] = p5 by simp only [leastP, List.foldl_cons, List.foldl_nil, betterP_F H2, betterP_F H3, betterP_F H4, betterP_T H5]]
    exact fok [cCmp] [false, false, false, true] [pF H2, pF H3, pF H4, pT H5] (by kernel_rfl)
   | false =>
    rw [show leastP [p1, p2, p3, p4, p5] = p1 by simp only [leastP, List.foldl_cons, List.foldl_nil, betterP_F H2, betterP_F H3, betterP_F H4, betterP_F H5]]
    exact fok [cCmp] [false, false, false, false] [pF H2, pF H3, pF H4, pF H5] (by kernel_rfl)
theorem len4 {L : List Pr} (h : L.length = 4) : ∃ a b c d, L = [a, b, c, d] := by
 obtain ⟨a, _, rfl, h1⟩ := len_s h
 obtain ⟨b, _, rfl, h2⟩ := len_s h1
 obtain ⟨c, _, rfl, h3⟩ := len_s h2
 obtain ⟨d, _, rfl, h4⟩ := len_s h3
 obtain rfl := List.eq_nil_of_length_eq_zero h4
 exact ⟨a, b, c, d, rfl⟩
theorem least_ok {L : List Pr} {n : Nat} (hn : n = 4 \/ n = 5) (hl : L.length = n) : Fok Tryz.prog 53 (lsA L) (.one (prI (leastP L))) := by
 rcases hn with h | h
 ·obtain ⟨a, b, c, d, rfl⟩ := len4 (hl.trans h)
  exact least_4 a b c d
 ·obtain ⟨a, M, rfl, hM⟩ := len_s (hl.trans h)
  obtain ⟨b, c, d, e, rfl⟩ := len4 hM
  cases H2 : lessP a b with
  | true => exact least_5T a b c d e H2
  | false => exact least_5F a b c d e H2
def cLeast : Con where
 f := 53
 g := fun | [⟨false, [.fs o l n z]⟩, ⟨false, [.v (.func (.func k) a b)]⟩] => if (o = 0 /\ z = 20 /\ (n = 4 \/ n = 5)) /\ (k = 54 /\ a.size = 0 /\ b.size = 0) then (toPrs n l).map fun L => (.one (prI (leastP L)), []) else none | _ => none
 ok := by
  intro args res ps h hp
  split at h <;> try cases h
  rename_i o l n z k a b
  split at h <;> try cases h
  rename_i hb
  obtain ⟨⟨rfl, rfl, hn⟩, rfl, ha, hb⟩ := hb
  cases hL : toPrs n l with
  | none => simp [hL] at h
  | some L =>
   simp only [hL, Option.map_some, Option.some.injEq, Prod.mk.injEq] at h
   obtain ⟨rfl, rfl⟩ := h
   rw [Array.eq_empty_of_size_eq_zero ha, Array.eq_empty_of_size_eq_zero hb]
   intro W vals hv
   have hv2 := hv
   simp only [rvs_cons, rvs_nil] at hv2
   obtain ⟨x, hx, _, rfl, y, hy, _, rfl, rfl⟩ := hv2
   obtain ⟨g, q, xs, T, e1, e2, e3, e4, e5, c, d, e6, e7, e8⟩ := hx.scal
   obtain ⟨l1, l2⟩ := toPrs_low hL e7 e8
   have hA : RepVs W W (fun _ => 0) 0 (lsA L) [x, y] := by
    refine rvs_cons.2 ⟨x, ?_, _, rfl, rvs_cons.2 ⟨y, hy, _, rfl, rfl⟩⟩
    rw [l1]
    exact RepI.val (i := .fs 0 _ n 20) ⟨g, q, xs, T, e1, e2, e3, e4, e5, c, d, e6, l2, e8⟩
   exact least_ok hn l1 W _ hA
end Go.Proofs.YtighahcllmoajaaGreat

namespace Go.Proofs.YtighahcllmoajaaGreat
open Go.RowKit
def d01Mul : Con := nBinC 128 mulP (fun _ _ => []) fun a b _ _ _ _ _ _ _ _ w _ h1 h2 => r01_Mul a b _ _ _ _ _ _ _ _ w h1 h2
def KR : List Con := [d01Of, d01Mul, d01Cmp, d02Of, d02Cmp, d06Chk, d06Rad, d05Right]
end Go.Proofs.YtighahcllmoajaaGreat

set_option maxRecDepth 100000
namespace Go.Proofs.YtighahcllmoajaaGreat
open Go.RowKit
theorem dwithin_ok (dx dy fx fy tx ty : Int) : Fok Tryz.prog 130 [ptV dx dy c27, ptV fx fy c27, ptV tx ty c27] (.one (blV (wiB dx dy fx fy tx ty))) := by
 unfold wiB
 by_cases h : 0 <= fx * dy - fy * dx
 ·rw [decide_eq_true h, Bool.true_and]
  exact fok [] [true] [pT (ge_T h)] (by kernel_rfl)
 ·rw [decide_eq_false h]
  exact fok [] [false] [pF (ge_F h)] (by kernel_rfl)
def dWithin : Con where
 f := 130
 g := fun | [⟨true, [.i dx A, .i dy B]⟩, ⟨true, [.i fx C, .i fy D]⟩, ⟨true, [.i tx E, .i ty F]⟩] => if (A <= c27 /\ B <= c27) /\ (C <= c27 /\ D <= c27) /\ (E <= c27 /\ F <= c27) then some (.one (blV (wiB dx dy fx fy tx ty)), []) else none | _ => none
 ok := by
  intro args res ps h hp
  split at h <;> try cases h
  split at h <;> cases h
  rename_i hb
  exact (dwithin_ok _ _ _ _ _ _).pre fun W => rvs_1 (pt_low hb.1.1 hb.1.2) (rvs_1 (pt_low hb.2.1.1 hb.2.1.2) (rvs_1 (pt_low hb.2.2.1 hb.2.2.2) rvs_0))
theorem dquarter_ok (e : Ed) (x y : Int) : Fok Tryz.prog 92 [edV e 3 c26, ptV x y c27] (.one (blV (inQ e x y))) := by
 by_cases hk : e.k = 3
 ·have h1 : (e.k == 3) = true := by simpa using hk
  cases hz : (x == 0 && y == 0) with
  | true =>
   rw [show inQ e x y = false by unfold inQ; rw [hz]; rfl]
   exact fok [dWithin] [true, false] [pT h1, pF (neB_F hz)] (by kernel_rfl)
  | false =>
   rw [show inQ e x y = wiB x y (e.bx - e.cx) (e.by' - e.cy) (e.ax - e.cx) (e.ay - e.cy) by unfold inQ; rw [hz, if_pos hk]; rfl]
   exact fok [dWithin] [true, true] [pT h1, pT (neB_T hz)] (by kernel_rfl)
 ·have h1 : (e.k == 3) = false := by simpa using hk
  cases hz : (x == 0 && y == 0) with
  | true =>
   rw [show inQ e x y = false by unfold inQ; rw [hz]; rfl]
   exact fok [dWithin] [false, false] [pF h1, pF (neB_F hz)] (by kernel_rfl)
  | false =>
   rw [show inQ e x y = wiB x y (e.ax - e.cx) (e.ay - e.cy) (e.bx - e.cx) (e.by' - e.cy) by unfold inQ; rw [hz, if_neg hk]; rfl]
   exact fok [dWithin] [false, true] [pF h1, pT (neB_T hz)] (by kernel_rfl)
def dQuarter : Con where
 f := 92
 g := fun | [⟨true, l⟩, ⟨true, [.i x A, .i y B]⟩] => if A <= c27 /\ B <= c27 then (toEd l).map fun e => (.one (blV (inQ e x y)), [e.ok = true]) else none | _ => none
 ok := by
  intro args res ps h hp
  split at h <;> try cases h
  split at h <;> try cases h
  rename_i hb
  rename_i l x A y B
  cases he : toEd l with
  | none => simp [he] at h
  | some e =>
   simp only [he, Option.map_some, Option.some.injEq, Prod.mk.injEq] at h
   obtain ⟨rfl, rfl⟩ := h
   exact (dquarter_ok e x y).pre fun W => rvs_1 (ed_ok he hp.1) (rvs_1 (pt_low hb.1 hb.2) rvs_0)
def fracD (add s c d : Int) : Rt := (ofP add s (mulP (ofZ c) (ofZ c)).1 (ofZ d)).1
theorem fracD_eq {add s c d : Int} (h : I64 c) : fracD add s c d = dR add s (c * c) d := by
 unfold fracD dR
 rw [mulP_sq h]
def KRP : List Con := [d01Of, d01Mul, d02Of, d06Chk, d06Rad, d05Right, dQuarter]
theorem le_T {a b : Int} (h : a <= b) : decide (a <= b) = true := by simpa using h
theorem le_F {a b : Int} (h : ¬ a <= b) : decide (a <= b) = false := by simpa using h
theorem dpoint_ok (e : Ed) (x y : Int) (hok : e.ok = true) (hc : coordB x y = true) : Fok Tryz.prog 14 [edV e 3 c26, ptV x y c26] (rsV (pointR e x y)) := by
 have P1 := pF (chk_F hok)
 have P2 := pF (coord_F hc)
 have e0 : pointR e x y = if e.k = 1 then lineR e x y else arcR e x y := by unfold pointR; rw [hok, hc]; rfl
 rw [e0]
 by_cases hk : e.k = 1
 ·have hk1 : (e.k == 1) = true := by simpa using hk
  obtain ⟨⟨l1, l2⟩, ⟨l3, l4⟩, _⟩ := ok_right hok
  obtain ⟨x1, y1⟩ := coordB_iff.1 hc
  have iC : I64 ((e.bx - e.ax) * (y - e.ay) - (e.by' - e.ay) * (x - e.ax)) := (l3.sub l1).cross (y1.sub l2) (l4.sub l2) (x1.sub l1)
  rw [if_pos hk]
  unfold lineR
  split
  ·rename_i h1
   exact fok KRP [false, false, true, false, true] [P2, P1, pT hk1, pF (gt_F (Int.not_lt.2 h1)), pT (le_T h1)] (by kernel_rfl)
  ·rename_i h1
   split
   ·rename_i h2
    exact fok KRP [false, false, true, true, false, false] [P2, P1, pT hk1, pT (gt_T (Int.not_le.1 h1)), pF (lt_F (Int.not_lt.2 h2)), pF (le_F h1)] (by kernel_rfl)
   ·rename_i h2
    rw [<- fracD_eq iC]
    exact fok KRP [false, false, true, true, true] [P2, P1, pT hk1, pT (gt_T (Int.not_le.1 h1)), pT (lt_T (Int.not_le.1 h2))] (by kernel_rfl)
 ·have hk1 : (e.k == 1) = false := by simpa using hk
  rw [if_neg hk]
  unfold arcR
  split
  ·rename_i hq
   by_cases h2 : radZ e * radZ e <= sqI (x - e.cx) (y - e.cy)
   ·rw [if_pos h2, <- zero_sub' (radZ e)]
    exact fok KRP [false, false, false, true, true] [P2, P1, pF hk1, pP hok, pP hok, pT hq, pT (ge_T h2)] (by kernel_rfl)
   ·rw [if_neg h2]
    exact fok KRP [false, false, false, true, false] [P2, P1, pF hk1, pP hok, pP hok, pT hq, pF (ge_F h2)] (by kernel_rfl)
  ·rename_i hq
   replace hq := Bool.eq_false_iff.2 hq
   split
   ·rename_i h2
    exact fok KRP [false, false, false, false, true] [P2, P1, pF hk1, pP hok, pP hok, pF hq, pT (decide_eq_true h2)] (by kernel_rfl)
   ·rename_i h2
    exact fok KRP [false, false, false, false, false] [P2, P1, pF hk1, pP hok, pP hok, pF hq, pF (decide_eq_false h2)] (by kernel_rfl)
theorem dpoint_no (e : Ed) (x y : Int) (h : (e.ok && coordB x y) = false) : Fok Tryz.prog 14 [edV e lim lim, ptV x y lim] (rsV (pointR e x y)) := by
 rw [show pointR e x y = (Rt.no, Sp.no) by unfold pointR; rw [h]; rfl]
 cases hc : coordB x y with
 | false => exact fok KRP [true] [pT (coord_T hc)] (by kernel_rfl)
 | true =>
  rw [hc, Bool.and_true] at h
  exact fok KRP [false, true] [pF (coord_F hc), pT (chk_T h)] (by kernel_rfl)
def dPoint : Con where
 f := 14
 g := fun | [⟨true, l⟩, ⟨true, [.i x _, .i y _]⟩] => (toEd l).map fun e => (rsV (pointR e x y), []) | _ => none
 ok := by
  intro args res ps h hp
  split at h <;> try cases h
  rename_i l x A y B
  cases he : toEd l with
  | none => simp [he] at h
  | some e =>
   simp only [he, Option.map_some, Option.some.injEq, Prod.mk.injEq] at h
   obtain ⟨rfl, rfl⟩ := h
   cases hc : (e.ok && coordB x y) with
   | false => exact (dpoint_no e x y hc).pre fun W => rvs_1 (ed_lim he) (rvs_1 pt_lim rvs_0)
   | true =>
    simp only [Bool.and_eq_true] at hc
    exact (dpoint_ok e x y hc.1 hc.2).pre fun W => rvs_1 (ed_ok he hc.1) (rvs_1 (pt_co (coordB_iff.1 hc.2)) rvs_0)
end Go.Proofs.YtighahcllmoajaaGreat

set_option maxRecDepth 100000
namespace Go.Proofs.YtighahcllmoajaaGreat
open Go.RowKit
def c40 : Nat := 1099511627776
abbrev p4 : Pf := ⟨(4 : Int) ≠ 0, by decide⟩
def moV (ax ay n : Int) (m : Bool) (A : Nat) : V1 := ⟨true, [.i ax A, .i ay A, .i n A, .v (.bool m)]⟩
def ptL (p : Int × Int) : V1 := ⟨true, [.i p.1 lim, .i p.2 lim]⟩
def applyQ (ax ay n : Int) (m : Bool) (x y : Int) : Int × Int := applyP ax ay (modZ n 4) m x y
theorem modZ_n (n : Int) : modZ n 4 = (n.tmod 4 + 4).tmod 4 := rfl
theorem tn0 {n x y ax ay : Int} {m : Bool} (h : modZ n 4 = 0) : applyQ ax ay n m x y = ((if m then 0 - x else x) + ax, y + ay) := by
 unfold applyQ applyP; rw [h]; cases m <;> simp [rot, mir]
theorem tn1 {n x y ax ay : Int} {m : Bool} (h : modZ n 4 = 1) : applyQ ax ay n m x y = (0 - y + ax, (if m then 0 - x else x) + ay) := by
 unfold applyQ applyP; rw [h]; cases m <;> simp [rot, mir]
theorem tn2 {n x y ax ay : Int} {m : Bool} (h : modZ n 4 = 2) : applyQ ax ay n m x y = (0 - (if m then 0 - x else x) + ax, 0 - y + ay) := by
 unfold applyQ applyP; rw [h]; cases m <;> simp [rot, mir]
theorem tn3 {n x y ax ay : Int} {m : Bool} (h : modZ n 4 = 3) : applyQ ax ay n m x y = (y + ax, 0 - (if m then 0 - x else x) + ay) := by
 unfold applyQ applyP; rw [h]; cases m <;> simp [rot, mir]
theorem dapply_ok (ax ay n x y : Int) (m : Bool) : Fok Tryz.prog 34 [moV ax ay n m c40, ptV x y c40] (.one (ptL (applyQ ax ay n m x y))) := by
 have hb := modZ_bd n (m := 4) (by omega)
 by_cases h1 : modZ n 4 = 1
 ·rw [tn1 h1]
  cases m with
  | true => exact fok [] [true, true] [pT rfl, p4, p4, pT (bq_T h1)] (by kernel_rfl)
  | false => exact fok [] [false, true] [pF rfl, p4, p4, pT (bq_T h1)] (by kernel_rfl)
 by_cases h2 : modZ n 4 = 2
 ·rw [tn2 h2]
  cases m with
  | true => exact fok [] [true, false, true] [pT rfl, p4, p4, pF (bq_F h1), pT (bq_T h2)] (by kernel_rfl)
  | false => exact fok [] [false, false, true] [pF rfl, p4, p4, pF (bq_F h1), pT (bq_T h2)] (by kernel_rfl)
 by_cases h3 : modZ n 4 = 3
 ·rw [tn3 h3]
  cases m with
  | true => exact fok [] [true, false, false, true] [pT rfl, p4, p4, pF (bq_F h1), pF (bq_F h2), pT (bq_T h3)] (by kernel_rfl)
  | false => exact fok [] [false, false, false, true] [pF rfl, p4, p4, pF (bq_F h1), pF (bq_F h2), pT (bq_T h3)] (by kernel_rfl)
 ·rw [tn0 (by omega)]
  cases m with
  | true => exact fok [] [true, false, false, false] [pT rfl, p4, p4, pF (bq_F h1), pF (bq_F h2), pF (bq_F h3)] (by kernel_rfl)
  | false => exact fok [] [false, false, false, false] [pF rfl, p4, p4, pF (bq_F h1), pF (bq_F h2), pF (bq_F h3)] (by kernel_rfl)
theorem rot_bd (t : Nat) {x y : Int} {D E : Nat} (h1 : x.natAbs <= D) (h2 : y.natAbs <= E) : (rot t (x, y)).1.natAbs <= D + E /\ (rot t (x, y)).2.natAbs <= D + E := by
 induction t with
 | zero => exact ⟨by simp only [rot]; omega, by simp only [rot]; omega⟩
 | succ t ih =>
  obtain ⟨a, b⟩ := ih
  simp only [rot]
  omega
theorem applyQ_bd {ax ay n x y : Int} {m : Bool} {A B D E : Nat} (a1 : ax.natAbs <= A) (a2 : ay.natAbs <= B) (h1 : x.natAbs <= D) (h2 : y.natAbs <= E) : (applyQ ax ay n m x y).1.natAbs <= A + B + D + E /\ (applyQ ax ay n m x y).2.natAbs <= A + B + D + E := by
 unfold applyQ applyP mir
 cases m
 ·obtain ⟨u1, u2⟩ := rot_bd (modZ n 4).toNat h1 h2
  simp only [Bool.false_eq_true, if_false]
  omega
 ·obtain ⟨u1, u2⟩ := rot_bd (D := D) (modZ n 4).toNat (x := -x) (by omega) h2
  simp only [if_true]
  omega
def appC (f : FuncId) (S : Int -> List Prop) (H : ∀ (ax ay n x y : Int) (m : Bool), All (S n) -> Fok Tryz.prog f [moV ax ay n m c40, ptV x y c40] (.one (ptL (applyQ ax ay n m x y)))) : Con where
 f := f
 g := fun | [⟨true, [.i ax A, .i ay B, .i n C, .v (.bool m)]⟩, ⟨true, [.i x D, .i y E]⟩] => if (A <= c40 /\ B <= c40 /\ C <= c40) /\ D <= c40 /\ E <= c40 then some (.one ⟨true, [.i (applyQ ax ay n m x y).1 (A + B + D + E), .i (applyQ ax ay n m x y).2 (A + B + D + E)]⟩, S n) else none | _ => none
 ok := by
  intro args res ps h hp
  split at h <;> try cases h
  split at h <;> cases h
  rename_i ax A ay B n C m x D y E hb
  intro W vals hv
  have hv2 := hv
  simp only [rvs_cons, rvs_nil, rv_t, rl_i, rl_v, rl_nil] at hv2
  obtain ⟨_, ⟨_, ⟨⟨a1, i1⟩, _, rfl, ⟨a2, i2⟩, _, rfl, ⟨a3, i3⟩, _, rfl, _, _, rfl, rfl⟩, rfl⟩, _, rfl, _, ⟨_, ⟨⟨a4, i4⟩, _, rfl, ⟨a5, i5⟩, _, rfl, rfl⟩, rfl⟩, _, rfl, rfl⟩ := hv2
  have hb2 := hb
  unfold c40 at hb2
  obtain ⟨q1, q2⟩ := applyQ_bd (n := n) (m := m) a1 a2 a4 a5
  refine (H ax ay n x y m hp W _ (rvs_cons.2 ⟨_, rv_t.2 ⟨_, rl_i.2 ⟨⟨by omega, i1⟩, _, rfl, rl_i.2 ⟨⟨by omega, i2⟩, _, rfl, rl_i.2 ⟨⟨by omega, i3⟩, _, rfl, rl_v.2 ⟨rfl, _, rfl, rfl⟩⟩⟩⟩, rfl⟩, _, rfl, rvs_cons.2 ⟨_, rv_t.2 ⟨_, rl_i.2 ⟨⟨by omega, i4⟩, _, rfl, rl_i.2 ⟨⟨by omega, i5⟩, _, rfl, rfl⟩⟩, rfl⟩, _, rfl, rfl⟩⟩)).mono fun e w' ⟨v, e1, h1, h2⟩ => ⟨v, e1, ?_, h2⟩
  simp only [RepA, ptL, rv_t, rl_i, rl_nil] at h1 ⊢
  obtain ⟨cs, ⟨⟨_, g1⟩, _, rfl, ⟨_, g2⟩, _, rfl, rfl⟩, e2⟩ := h1
  exact ⟨_, ⟨⟨q1, g1⟩, _, rfl, ⟨q2, g2⟩, _, rfl, rfl⟩, e2⟩
def dApply : Con := appC 34 (fun _ => []) fun ax ay n x y m _ => dapply_ok ax ay n x y m
end Go.Proofs.YtighahcllmoajaaGreat

set_option maxRecDepth 100000
namespace Go.Proofs.YtighahcllmoajaaGreat
open Go.RowKit
def nK (L : List Int) : Nat -> Nat
 | 0 => 0
 | n + 1 => nextK L (nK L n)
def nV (L : List Int) (n : Nat) (m : Int) : Int := nextV L (nK L n) m
def arc6 (cx cy r t k : Int) : Ed :=
 ⟨k, cx + (applyQ 0 0 t false r 0).1, cy + (applyQ 0 0 t false r 0).2, cx + (applyQ 0 0 (t + if k = 3 then 3 else 1) false r 0).1, cy + (applyQ 0 0 (t + if k = 3 then 3 else 1) false r 0).2, cx, cy⟩
def mad6 (L : List Int) : Ed :=
 let x := nV L 1 201 - 100
 let y := nV L 2 201 - 100
 if nV L 0 6 = 0 then ⟨1, x, y, x, y + nV L 3 41 - 20, 0, 0⟩
 else if nV L 0 6 = 1 then ⟨1, x, y, x + nV L 3 41 - 20, y, 0, 0⟩
 else if nV L 0 6 = 2 \/ nV L 0 6 = 3 then ⟨1, x, y, nV L 3 201 - 100, nV L 4 201 - 100, 0, 0⟩
 else if nV L 4 3 = 0 then arc6 x y (1 + nV L 5 90) (nV L 6 4) (2 + nV L 7 2)
 else arc6 x y ([5, 10, 13, 25, 65].getD (nV L 3 5).toNat 0) (nV L 5 4) (2 + nV L 6 2)
def edL (e : Ed) : V1 := edV e lim lim
def XD : List Eff := [xNext, xNear]
theorem nV_bd (L : List Int) (n : Nat) {m : Int} (h : 0 < m) : 0 <= nV L n m /\ nV L n m < m := nextV_bd _ _ h
theorem mad6_line (L : List Int) (h : nV L 0 6 < 4) : Fok Tryz.prog 10 [⟨false, [.ds L]⟩] (.one (edL (mad6 L))) := by
 have hb := nV_bd L 0 (m := 6) (by omega)
 unfold mad6
 by_cases h0 : nV L 0 6 = 0
 ·simp only [if_pos h0]
  exact fokX XD [dApply] [true] [pT (bq_T h0)] (by kernel_rfl)
 by_cases h1 : nV L 0 6 = 1
 ·simp only [if_neg h0, if_pos h1]
  exact fokX XD [dApply] [false, true] [pF (bq_F h0), pT (bq_T h1)] (by kernel_rfl)
 simp only [if_neg h0, if_neg h1]
 rw [if_pos (by omega)]
 by_cases h2 : nV L 0 6 = 2
 ·exact fokX XD [dApply] [false, false, true, true] [pF (bq_F h0), pF (bq_F h1), pT (bq_T h2), pT (bq_T h2)] (by kernel_rfl)
 ·have h3 : nV L 0 6 = 3 := by omega
  exact fokX XD [dApply] [false, false, false, true] [pF (bq_F h0), pF (bq_F h1), pF (bq_F h2), pT (bq_T h3)] (by kernel_rfl)
theorem mad6_arc (L : List Int) (h : ¬ nV L 0 6 < 4) : Fok Tryz.prog 10 [⟨false, [.ds L]⟩] (.one (edL (mad6 L))) := by
 have hb := nV_bd L 3 (m := 5) (by omega)
 have h0 : ¬ nV L 0 6 = 0 := by omega
 have h1 : ¬ nV L 0 6 = 1 := by omega
 have h2 : ¬ nV L 0 6 = 2 := by omega
 have h3 : ¬ nV L 0 6 = 3 := by omega
 unfold mad6 arc6
 simp only [if_neg h0, if_neg h1]
 rw [if_neg (by omega)]
 by_cases h4 : nV L 4 3 = 0
 ·rw [if_pos h4]
  by_cases h5 : 2 + nV L 7 2 = 3
  ·rw [if_pos h5]
   exact fokX XD [dApply] [false, false, false, false, true, true] [pF (bq_F h0), pF (bq_F h1), pF (bq_F h2), pF (bq_F h3), pP hb, pT (bq_T h4), pT (bq_T h5)] (by kernel_rfl)
  ·rw [if_neg h5]
   exact fokX XD [dApply] [false, false, false, false, true, false] [pF (bq_F h0), pF (bq_F h1), pF (bq_F h2), pF (bq_F h3), pP hb, pT (bq_T h4), pF (bq_F h5)] (by kernel_rfl)
 ·rw [if_neg h4]
  by_cases h5 : 2 + nV L 6 2 = 3
  ·rw [if_pos h5]
   exact fokX XD [dApply] [false, false, false, false, false, true] [pF (bq_F h0), pF (bq_F h1), pF (bq_F h2), pF (bq_F h3), pP hb, pF (bq_F h4), pT (bq_T h5)] (by kernel_rfl)
  ·rw [if_neg h5]
   exact fokX XD [dApply] [false, false, false, false, false, false] [pF (bq_F h0), pF (bq_F h1), pF (bq_F h2), pF (bq_F h3), pP hb, pF (bq_F h4), pF (bq_F h5)] (by kernel_rfl)
def dMade : Con where
 f := 10
 g := fun | [⟨false, [.ds L]⟩] => some (.one (edL (mad6 L)), []) | _ => none
 ok := by
  intro args res ps h hp
  split at h <;> cases h
  rename_i L
  by_cases h : nV L 0 6 < 4
  ·exact mad6_line L h
  ·exact mad6_arc L h
end Go.Proofs.YtighahcllmoajaaGreat
