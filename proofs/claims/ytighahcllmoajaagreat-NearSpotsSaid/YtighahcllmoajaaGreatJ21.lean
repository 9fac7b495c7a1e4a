/- Plain: roots in lowest terms. | Contracts: etchantref01.times, etchantref01.Mul. | Contracts: root.sign, root.times (products that are small enough). | Contracts: root.side. -/
import Derived.Test.YtighahcllmoajaaGreatJ20
import Derived.Test.YtighahcllmoajaaGreatJ17
set_option linter.unusedVariables false
set_option linter.unusedSimpArgs false

namespace Go.Proofs.YtighahcllmoajaaGreat
open Go.RowKit
structure Rt where
 add : Int
 s : Int
 n : Nm
 d : Nm
def Rt.no : Rt := ⟨0, 0, zero, zero⟩
def ofBad (s : Int) (n d : Nm) : Bool := decide (s < -1) || decide (1 < s) || !n.right || !d.right || n.neg || decide (d.z <= 0)
def gcdN (n d : Nm) : Int := ((Nat.gcd (val n.d) (val d.d) : Nat) : Int)
def ofP (add s : Int) (n d : Nm) : Rt × Bool :=
 if ofBad s n d then (Rt.no, false)
 else if s = 0 \/ n.z = 0 then (⟨add, 0, zero, ofZ 1⟩, true)
 else if 8 < max (ofZ (n.z / gcdN n d)).d.length (ofZ (d.z / gcdN n d)).d.length then (Rt.no, false)
 else (⟨add, s, ofZ (n.z / gcdN n d), ofZ (d.z / gcdN n d)⟩, true)
def Rt.right (a : Rt) : Bool := (ofP a.add a.s a.n a.d).2 && ((ofP a.add a.s a.n a.d).1.s == a.s && (cmpP a.n (ofP a.add a.s a.n a.d).1.n == 0 && cmpP a.d (ofP a.add a.s a.n a.d).1.d == 0))
theorem ofBad_false {s : Int} {n d : Nm} (h : ofBad s n d = false) : -1 <= s /\ s <= 1 /\ n.right = true /\ d.right = true /\ n.neg = false /\ 0 < d.z := by
 simp only [ofBad, Bool.or_eq_false_iff, decide_eq_false_iff_not, Bool.not_eq_false'] at h
 obtain ⟨⟨⟨⟨⟨h1, h2⟩, h3⟩, h4⟩, h5⟩, h6⟩ := h
 exact ⟨by omega, by omega, h3, h4, h5, by omega⟩
theorem ofBad_of {s : Int} {n d : Nm} (h1 : -1 <= s) (h2 : s <= 1) (h3 : n.right = true) (h4 : d.right = true) (h5 : n.neg = false) (h6 : 0 < d.z) : ofBad s n d = false := by
 simp only [ofBad, Bool.or_eq_false_iff, decide_eq_false_iff_not, Bool.not_eq_false']
 exact ⟨⟨⟨⟨⟨by omega, by omega⟩, h3⟩, h4⟩, h5⟩, by omega⟩
theorem z_pos {n : Nm} (h : n.neg = false) : n.z = (val n.d : Int) := by unfold Nm.z; rw [h]; rfl
theorem d_pos {d : Nm} (h : 0 < d.z) : d.z = (val d.d : Int) /\ 0 < val d.d := by
 unfold Nm.z at *
 split at h
 ·omega
 ·rename_i g
  rw [if_neg g]
  exact ⟨rfl, by omega⟩
theorem small_div {x : Nm} (hd : Dig x.d) (hr : x.right = true) (g : Nat) : small ((val x.d / g : Nat) : Int) = true := by
 refine small_of_le hd hr ?_
 rw [Int.natAbs_natCast]
 exact Nat.div_le_self _ _
theorem ofP_main {add s : Int} {n d : Nm} (hn : n.neg = false) (hd : 0 < d.z) (hb : ofBad s n d = false) (h0 : ¬ (s = 0 \/ n.z = 0)) :
  ofP add s n d = if 8 < max (ofZ ((val n.d / Nat.gcd (val n.d) (val d.d) : Nat) : Int)).d.length (ofZ ((val d.d / Nat.gcd (val n.d) (val d.d) : Nat) : Int)).d.length then (Rt.no, false)
   else (⟨add, s, ofZ ((val n.d / Nat.gcd (val n.d) (val d.d) : Nat) : Int), ofZ ((val d.d / Nat.gcd (val n.d) (val d.d) : Nat) : Int)⟩, true) := by
 unfold ofP
 rw [hb, if_neg (by simp), if_neg h0, z_pos hn, (d_pos hd).1]
 rfl
theorem cmpP_self {a : Nm} (h : a.right = true) : cmpP a a = 0 := by
 unfold cmpP cmpZ
 rw [h]
 simp
theorem right_of {a : Rt} (h : ofP a.add a.s a.n a.d = (a, true)) (h1 : a.n.right = true) (h2 : a.d.right = true) : a.right = true := by
 unfold Rt.right
 rw [h]
 simp [cmpP_self h1, cmpP_self h2]
structure Rt.Ok (a : Rt) : Prop where
 sl : -1 <= a.s
 su : a.s <= 1
 nr : a.n.right = true
 dr : a.d.right = true
 nn : a.n.neg = false
 dn : a.d.neg = false
 dp : 0 < val a.d.d
 nl : a.n.d.length <= 8
 dl : a.d.d.length <= 8
 n0 : a.s = 0 -> val a.n.d = 0 /\ val a.d.d = 1
 n1 : a.s ≠ 0 -> 0 < val a.n.d
 co : Nat.gcd (val a.n.d) (val a.d.d) = 1
theorem one_right : (ofZ 1).right = true := by decide +kernel
theorem val_one_ofZ : val (ofZ 1).d = 1 := by rw [val_ofZ]; rfl
theorem zero_right0 : zero.right = true := rfl
theorem ofZ_one_len : (ofZ 1).d.length = 1 := by
 have : (ofZ 1).d = [1] := by simp only [ofZ]; rw [show (1 : Int).natAbs = 1 from rfl, digs_pos (by decide), show 1 / 4294967296 = 0 from rfl, digs_zero]
 rw [this]; rfl
theorem ofP_ok {add s : Int} {n d : Nm} (hdn : Dig n.d) (hdd : Dig d.d) {a : Rt} (h : ofP add s n d = (a, true)) : a.Ok /\ ofP a.add a.s a.n a.d = (a, true) /\ a.add = add := by
 cases hb : ofBad s n d with
 | true => unfold ofP at h; rw [hb] at h; simp at h
 | false =>
  obtain ⟨s1, s2, rn, rd, nn, dp⟩ := ofBad_false hb
  by_cases h0 : s = 0 \/ n.z = 0
  ·unfold ofP at h
   rw [hb, if_neg (by simp), if_pos h0] at h
   obtain rfl : (⟨add, 0, zero, ofZ 1⟩ : Rt) = a := congrArg Prod.fst h
   refine ⟨⟨show (-1 : Int) <= 0 by decide, show (0 : Int) <= 1 by decide, zero_right0, one_right, rfl, by simp [ofZ], by rw [val_one_ofZ]; decide, Nat.zero_le _, by rw [ofZ_one_len]; decide, fun _ => ⟨rfl, val_one_ofZ⟩, fun g => absurd rfl g, ?_⟩, ?_, rfl⟩
   ·show Nat.gcd (val zero.d) (val (ofZ 1).d) = 1
    rw [val_one_ofZ, Nat.gcd_one_right]
   ·unfold ofP
    rw [ofBad_of (show (-1 : Int) <= 0 by decide) (show (0 : Int) <= 1 by decide) zero_right0 one_right rfl (by rw [ofZ_z]; decide), if_neg (by simp), if_pos (.inl rfl)]
  ·rw [ofP_main nn dp hb h0] at h
   split at h
   ·simp at h
   ·rename_i hl
    obtain ⟨ed, pd⟩ := d_pos dp
    have en := z_pos nn
    have hn0 : 0 < val n.d := by
     rcases Nat.eq_zero_or_pos (val n.d) with g | g
     ·exfalso; apply h0; right; rw [en, g]; rfl
     ·exact g
    have sN := small_div hdn rn (Nat.gcd (val n.d) (val d.d))
    have sD := small_div hdd rd (Nat.gcd (val n.d) (val d.d))
    have hg : 0 < Nat.gcd (val n.d) (val d.d) := Nat.gcd_pos_of_pos_left _ hn0
    have hco : Nat.gcd (val n.d / Nat.gcd (val n.d) (val d.d)) (val d.d / Nat.gcd (val n.d) (val d.d)) = 1 := by
     rw [Nat.gcd_div (Nat.gcd_dvd_left _ _) (Nat.gcd_dvd_right _ _), Nat.div_self hg]
    have pN : 0 < val n.d / Nat.gcd (val n.d) (val d.d) := Nat.div_pos (Nat.gcd_le_left _ hn0) hg
    have pD : 0 < val d.d / Nat.gcd (val n.d) (val d.d) := Nat.div_pos (Nat.gcd_le_right _ pd) hg
    generalize val n.d / Nat.gcd (val n.d) (val d.d) = N at *
    generalize val d.d / Nat.gcd (val n.d) (val d.d) = D at *
    obtain rfl : (⟨add, s, ofZ (N : Int), ofZ (D : Int)⟩ : Rt) = a := congrArg Prod.fst h
    have vN : val (ofZ (N : Int)).d = N := by rw [val_ofZ]; rfl
    have vD : val (ofZ (D : Int)).d = D := by rw [val_ofZ]; rfl
    refine ⟨⟨s1, s2, ofZ_right sN, ofZ_right sD, neg_ofZ, neg_ofZ, by rw [vD]; exact pD, by show (ofZ (N : Int)).d.length <= 8; omega, by show (ofZ (D : Int)).d.length <= 8; omega, fun g => absurd (.inl g) h0, fun _ => by rw [vN]; exact pN, by rw [vN, vD]; exact hco⟩, ?_, rfl⟩
    show ofP add s (ofZ (N : Int)) (ofZ (D : Int)) = _
    rw [ofP_main neg_ofZ (by rw [ofZ_z]; omega) (ofBad_of s1 s2 (ofZ_right sN) (ofZ_right sD) neg_ofZ (by rw [ofZ_z]; omega)) (by rw [ofZ_z]; intro g; rcases g with g | g; exact h0 (.inl g); omega), vN, vD, hco, Nat.div_one, Nat.div_one, if_neg hl]
theorem right_ok {a : Rt} (hdn : Dig a.n.d) (hdd : Dig a.d.d) (h : a.right = true) : a.Ok /\ ofP a.add a.s a.n a.d = (a, true) := by
 obtain ⟨b, hb⟩ : ∃ b, ofP a.add a.s a.n a.d = b := ⟨_, rfl⟩
 obtain ⟨b, ok⟩ := b
 have hr := h
 unfold Rt.right at hr
 rw [hb] at hr ⊢
 simp only [Bool.and_eq_true, beq_iff_eq] at hr
 obtain ⟨rfl, h1, h2, h3⟩ := hr
 obtain ⟨k1, _, k3⟩ := ofP_ok hdn hdd hb
 have hbad : ofBad a.s a.n a.d = false := by
  cases hq : ofBad a.s a.n a.d with
  | false => rfl
  | true => unfold ofP at hb; rw [hq] at hb; simp at hb
 obtain ⟨_, _, rn, rd, _, _⟩ := ofBad_false hbad
 have eqz : ∀ {x y : Nm}, Dig x.d -> x.right = true -> y.right = true -> (∃ z, y = ofZ z) -> cmpP x y = 0 -> x = y := by
  rintro x y hx rx ry ⟨z, rfl⟩ hc
  unfold cmpP cmpZ at hc
  rw [rx, ry] at hc
  have hz : x.z = (ofZ z).z := by
   simp only [Bool.and_self, if_true] at hc
   split at hc
   ·omega
   ·split at hc
    ·assumption
    ·omega
  rw [ofZ_z] at hz
  rw [<- ofZ_of_right hx rx, hz]
 have hform : (∃ z, b.n = ofZ z) /\ ∃ z, b.d = ofZ z := by
  unfold ofP at hb
  rw [hbad, if_neg (by simp)] at hb
  split at hb
  ·obtain rfl : (⟨a.add, 0, zero, ofZ 1⟩ : Rt) = b := congrArg Prod.fst hb
   exact ⟨⟨0, lit_0.symm⟩, ⟨1, rfl⟩⟩
  ·split at hb
   ·simp at hb
   ·obtain rfl := congrArg Prod.fst hb
    exact ⟨⟨_, rfl⟩, ⟨_, rfl⟩⟩
 have e1 := eqz hdn rn k1.nr hform.1 h2
 have e2 := eqz hdd rd k1.dr hform.2 h3
 have : b = a := by
  cases a; cases b
  simp only at *
  subst e1 e2 h1 k3
  rfl
 subst this
 exact ⟨k1, rfl⟩
end Go.Proofs.YtighahcllmoajaaGreat

set_option maxHeartbeats 4000000
set_option maxRecDepth 100000
namespace Go.Proofs.YtighahcllmoajaaGreat
open Go.RowKit
theorem r01_times (a b : List Nat) (pa pb : Option Addr) (la ca lb cb : Nat) (w : World) (ha : Row w pa ca a) (hb : Row w pb cb b) (hla : la = a.length) (hlb : lb = b.length) (hal : a.length <= 64) (hbl : b.length <= 64) :
  Calls Tryz.prog 167 #[.slice pa la ca, .slice pb lb cb] w (RetDigs w (val a * val b)) := by
 have la64' : la <= 64 := by omega
 have lb64' : lb <= 64 := by omega
 have HLA := Lib.hid hla
 have HLB := Lib.hid hlb
 clear hla hlb hal hbl
 obtain ⟨i, hi, hz0, hz1, hz2⟩ := info_parts info32
 obtain ⟨N, hN⟩ : ∃ N, N = la + lb + 1 := ⟨_, rfl⟩
 have hN1 : N <= la + lb + 1 := Nat.le_of_eq hN
 have hN2 : la + lb + 1 <= N := Nat.le_of_eq hN.symm
 clear hN
 have bla : 0 < a.length -> ∀ x, pa = some x -> x.block ≠ w.heap.size := by
  intro h0 x hx
  obtain ⟨b', o, hp, hlt, _⟩ := ha.at h0
  rw [hp] at hx
  cases hx
  exact Nat.ne_of_lt hlt
 have blb : 0 < b.length -> ∀ x, pb = some x -> x.block ≠ w.heap.size := by
  intro h0 x hx
  obtain ⟨b', o, hp, hlt, _⟩ := hb.at h0
  rw [hp] at hx
  cases hx
  exact Nat.ne_of_lt hlt
 have BLA := Lib.hid bla
 have BLB := Lib.hid blb
 clear bla blb
 go_enter Tryz.func167, Tryz.ntmps167
 go_wp2_with (at_make; refine wpList_make_full _ rfl _ _ 34 rfl w.heap.size 118 i (.int .u32 0) 1 Tryz.underlying34 hi hz0 hz1 _ _ _ _ N rfl rfl (by omega) (by omega) (by rw [hz2]; omega) (by unfold maxLen; omega) (Nat.le_refl _) ?_)
 intro w3 hown hgr
 rw [show (madeCells #[Value.int IntKind.u32 0] N).toList = enc (List.replicate N 0) from by rw [enc, List.map_replicate]; exact toList_madeCells_one _ _] at hown
 have hx4 : Ext w w3 := ⟨hgr.os, hgr.tape, hgr.output, hgr.size, fun k hk => hgr.block k hk (by simp)⟩
 have RA := Lib.hid (ha.ext hx4)
 have RB := Lib.hid (hb.ext hx4)
 clear hgr ha hb
 go_wp2_with fail
 go_loopw [6] (fun i wr => ∃ (n : Nat) (o : List Nat), n <= la /\ i = .int .i64 (n : Int) /\ Dig o /\ val o = val (a.take n) * val b /\ Zeros o (n + lb) /\ wr.ownsRow w.heap.size 118 1 (.slice (some ⟨w.heap.size, 0, none⟩) N N) N (enc o) /\ w3.grownBy wr (some w.heap.size)) (fun i _ => la - (intOf i).toNat)
 case atStart => exact ⟨0, _, Nat.zero_le _, rfl, fun x hx => by rw [List.eq_of_mem_replicate hx]; decide, by rw [val_replicate]; simp [val], Zeros.replicate _ _, hown, ⟨rfl, rfl, rfl, Nat.le_refl _, fun _ _ _ => rfl⟩⟩
 case round =>
  clear hown
  obtain ⟨n, o, hn, rfl, hd, hv, hz, hown, hg⟩ := hrel
  by_cases hlt : n < la
  ·have RAw := RA.out.grown BLA.out hg
   obtain ⟨ba, oa, rfl, hba, hca⟩ := RAw.at (by rw [<- HLA.out]; omega)
   obtain ⟨x, X⟩ : ∃ x, Hid (a[n]?.getD 0 = x) := ⟨_, rfl⟩
   have hxd : x < 4294967296 := by have := RA.out.dig.getD n; rw [List.getD_eq_getElem?_getD, X.out] at this; exact this
   have M0 := Lib.hid (MulInv.start (a := a) (b := b) (i := n) (x := x) hd hv)
   clear hca hd hv RAw
   have V := Lib.hid hz
   clear hz
   go_wp2_with fail
   go_loopw [7, 8] (fun cr kk wi => ∃ (k c : Nat) (q : List Nat), k <= lb + 1 /\ (lb < k -> c <= 0) /\ kk = .int .i64 (k : Int) /\ cr = .int .u64 (c : Int) /\ MulInv a b q n k x c /\ Zeros q (n + max k lb) /\ wi.ownsRow w.heap.size 118 1 (.slice (some ⟨w.heap.size, 0, none⟩) N N) N (enc q) /\ w3.grownBy wi (some w.heap.size)) (fun _ kk _ => lb + 1 - (intOf kk).toNat)
   case atStart => exact ⟨0, 0, o, Nat.zero_le _, by omega, rfl, rfl, M0.out, by rw [Nat.zero_max]; exact V.out, hown, hg⟩
   case round =>
    clear hown hg
    obtain ⟨k, c, q, hk, hc0, rfl, rfl, hm, hz, hown, hg⟩ := hrel
    have HC0 := Lib.hid hc0
    clear hc0
    obtain ⟨y, Y⟩ : ∃ y, Hid (b[k]?.getD 0 = y) := ⟨_, rfl⟩
    have hyd : y < 4294967296 := by have := RB.out.dig.getD k; rw [List.getD_eq_getElem?_getD, Y.out] at this; exact this
    obtain ⟨u, U⟩ : ∃ u, Hid (q[n + k]?.getD 0 = u) := ⟨_, rfl⟩
    have hud : u < 4294967296 := by have := hm.1.getD (n + k); rw [List.getD_eq_getElem?_getD, U.out] at this; exact this
    have hql := own_len hown
    obtain ⟨m, MM⟩ : ∃ m, Hid (x * y = m) := ⟨_, rfl⟩
    have hmb : m <= 18446744065119617025 := by rw [<- MM.out]; exact Nat.mul_le_mul (show x <= 4294967295 by omega) (show y <= 4294967295 by omega)
    have hcd := hm.2.1
    by_cases hkl : k < lb
    ·have RBw := RB.out.grown BLB.out hg
     obtain ⟨bb, ob, rfl, hbb, hcb⟩ := RBw.at (by rw [<- HLB.out]; omega)
     have hcb1 := hcb k (by rw [<- HLB.out]; omega)
     rw [Y.out] at hcb1
     have RAw := RA.out.grown BLA.out hg
     obtain ⟨ba', oa', hpa, hba', hca⟩ := RAw.at (by rw [<- HLA.out]; omega)
     cases hpa
     have hca1 := hca n (by rw [<- HLA.out]; omega)
     rw [X.out] at hca1
     have hcu := own_cell hown (n + k) u (by omega) U.out
     have hfu := hown.frozenAt (n + k)
     have hme : (x : Int) * (y : Int) = (m : Int) := by rw [<- MM.out]; simp
     have M1 := Lib.hid (hm.step (by omega) hxd Y.out hyd U.out hud MM.out)
     have ST : Hid (∀ nq, ((wr.drewN nq).setCell ⟨w.heap.size, n + k, none⟩ (.int .u32 (((c + (u + m)) % 4294967296 : Nat) : Int))).ownsRow w.heap.size 118 1 (.slice (some ⟨w.heap.size, 0, none⟩) N N) N (enc (q.set (n + k) ((c + (u + m)) % 4294967296))) /\ w3.grownBy ((wr.drewN nq).setCell ⟨w.heap.size, n + k, none⟩ (.int .u32 (((c + (u + m)) % 4294967296 : Nat) : Int))) (some w.heap.size)) := by
      intro nq
      have h1 : (wr.drewN nq).ownsRow w.heap.size 118 1 (.slice (some ⟨w.heap.size, 0, none⟩) N N) N (enc q) := hown
      have h2 : w3.grownBy (wr.drewN nq) (some w.heap.size) := ⟨hg.os, hg.tape, hg.output, hg.size, hg.block⟩
      have h3 := own_set h1 (n + k) ((c + (u + m)) % 4294967296)
      exact ⟨h3.1, grownBy_trans h2 h3.2⟩
     have Tryz1 := Lib.hid ((hz.mono (show n + max k lb <= n + max (k + 1) lb by omega)).set (j := n + k) (d := (c + (u + m)) % 4294967296) (by omega))
     clear hcb hca hm hz hql hown hg RAw RBw
     go_wp2
     go_quiet (fail)
     go_wp2
     have e : (((c + (u + m)) % 4294967296 : Nat) : Int) = ((c : Int) + (u : Int) + (m : Int)) % 4294967296 := by omega
     have s1 := ST.out
     rw [e] at s1
     exact ⟨⟨k + 1, (c + (u + m)) / 4294967296, _, by omega, by omega, rfl, ret_u64 (by omega), M1.out, Tryz1.out, (s1 _).1, (s1 _).2⟩, by simp [intOf]; omega⟩
    ·have hk2 : lb <= k := by omega
     by_cases hcz : c = 0
     ·subst hcz
      have DONE := Lib.hid (hm.done (by rw [<- HLB.out]; exact hk2) X.out)
      have DG := Lib.hid hm.1
      have HZ := Lib.hid (hz.mono (show n + max k lb <= n + 1 + lb by omega))
      have OWN := Lib.hid hown
      have HG := Lib.hid hg
      clear hm hz hown hg hql
      go_wp2
      exact ⟨⟨n + 1, _, by omega, rfl, DG.out, DONE.out, HZ.out, OWN.out, HG.out⟩, by simp [intOf]; omega⟩
     ·have hcp : 0 < c := by omega
      clear hcz
      obtain rfl : k = lb := by
       rcases Nat.lt_or_ge lb k with h | h
       ·have := HC0.out h; omega
       ·omega
      have y0 : y <= 0 := by rw [<- Y.out, List.getElem?_eq_none (by rw [<- HLB.out]; exact Nat.le_refl _)]; exact Nat.le_refl _
      have u0 : u <= 0 := by rw [<- U.out]; exact Nat.le_of_eq (hz _ (by omega))
      have m0 : m <= 0 := by rw [<- MM.out, Nat.le_zero.1 y0]; exact Nat.le_refl _
      have hcu := own_cell hown (n + k) u (by omega) U.out
      have hfu := hown.frozenAt (n + k)
      have M1 := Lib.hid (hm.step (by omega) hxd Y.out hyd U.out hud MM.out)
      have hst := own_set hown (n + k) ((c + (u + m)) % 4294967296)
      have ST := Lib.hid hst.1
      have SG := Lib.hid (grownBy_trans hg hst.2)
      have Tryz1 := Lib.hid ((hz.mono (show n + max k k <= n + max (k + 1) k by omega)).set (j := n + k) (d := (c + (u + m)) % 4294967296) (by omega))
      clear hm hst hz hql hown hg
      go_wp2
      have e : (((c + (u + m)) % 4294967296 : Nat) : Int) = (c : Int) + (u : Int) := by omega
      have s1 := ST.out
      have s2 := SG.out
      rw [e] at s1 s2
      exact ⟨⟨k + 1, (c + (u + m)) / 4294967296, _, by omega, by omega, rfl, ret_u64 (by omega), M1.out, Tryz1.out, s1, s2⟩, by simp [intOf]⟩
  ·obtain rfl : n = la := by omega
   obtain ⟨p', c', hv', hrow, hnew⟩ := row_of_owns hown hd
   have hql := own_len hown
   obtain ⟨rfl, rfl⟩ : some (⟨w.heap.size, 0, none⟩ : Addr) = p' /\ N = c' := by
    simp only [Value.slice.injEq] at hv'
    exact ⟨hv'.1, hv'.2.2⟩
   have V := Lib.hid (show val o = val a * val b by rw [hv, HLA.out, List.take_of_length_le (Nat.le_refl _)])
   have ROW := Lib.hid hrow
   have HQ := Lib.hid hql
   have hx5 : Ext w wr := ⟨hg.os.trans hx4.os, hg.tape.trans hx4.tape, hg.output.trans hx4.output, Nat.le_trans hx4.size hg.size, fun k hk => (hg.block k (by have := hx4.size; omega) (by simp; omega)).trans (hx4.block k hk)⟩
   clear hrow hql hv' hown hd hv hz hg
   go_wp2_with fail
   refine (r01_trim o _ _ _ _ ROW.out HQ.out.symm).mono ?_
   rintro e w4 ⟨rfl, hrow1, hx6⟩
   have hx7 : Ext w w4 := Ext.step hx5 hx6
   have T : trim o = digs (val a * val b) := by rw [<- V.out]; rfl
   go_wp2
   go_ret
   rw [T] at hrow1
   exact ⟨_, N, rfl, hrow1, hnew, hx7⟩
theorem r01_Mul (a b : Nm) (na nb : Bool) (pa pb : Option Addr) (la ca lb cb : Nat) (w : World) (ha : NR w na pa la ca a) (hb : NR w nb pb lb cb b) :
  Calls Tryz.prog 128 #[.agg #[.bool na, .slice pa la ca], .agg #[.bool nb, .slice pb lb cb]] w (RetNum w (mulP a b)) := by
 by_cases ra : a.right = true
 ·by_cases rb : b.right = true
  ·have la64 := ha.len ra
   have lb64 := hb.len rb
   have SP : Hid (madeP (na != nb) (digs (val a.d * val b.d)) = mulP a b) := by
    rw [ha.1, hb.1]; exact mulP_made ra rb (val_digs _)
   go_enter Tryz.func128, Tryz.ntmps128
   go_wp2_with fail
   refine (r01_Right a _ _ _ _ _ (ha.ext bxx)).mono ?_
   rintro e w1 ⟨rfl, hx⟩
   rw [ra]
   have hx0 : Ext w w1 := Ext.step bxx hx
   have hz_w1 : w.heap.size + 3 <= w1.heap.size := Nat.le_trans omm hx.size
   obtain ⟨hl_w1_0, hk_w1_0, hf_w1_0⟩ := extK hx (w.heap.size)
   obtain ⟨hl_w1_1, hk_w1_1, hf_w1_1⟩ := extK hx (w.heap.size + 1)
   obtain ⟨hl_w1_2, hk_w1_2, hf_w1_2⟩ := extK hx (w.heap.size + 2)
   go_wp2_with fail
   refine (r01_Right b _ _ _ _ _ (hb.ext bxx)).mono ?_
   rintro e w2 ⟨rfl, hx2⟩
   rw [rb]
   have hx1 : Ext w w2 := Ext.step hx0 hx2
   have hz_w2 : w.heap.size + 3 <= w2.heap.size := Nat.le_trans omm hx2.size
   obtain ⟨hl_w2_0, hk_w2_0, hf_w2_0⟩ := extK hx2 (w.heap.size)
   obtain ⟨hl_w2_1, hk_w2_1, hf_w2_1⟩ := extK hx2 (w.heap.size + 1)
   obtain ⟨hl_w2_2, hk_w2_2, hf_w2_2⟩ := extK hx2 (w.heap.size + 2)
   go_wp2_with fail
   go_region_held3 (fun w' => w'.cell? ⟨w.heap.size, 0, none⟩ = some (.bool na) /\ w'.cell? ⟨w.heap.size, 1, none⟩ = some (.slice pa la ca) /\ w'.cell? ⟨w.heap.size + 1, 0, none⟩ = some (.bool nb) /\ w'.cell? ⟨w.heap.size + 1, 1, none⟩ = some (.slice pb lb cb)) (refine ⟨?_, ?_, ?_, ?_⟩ <;> go_simp) (first | (go_at_call 167; refine (r01_times a.d b.d _ _ _ _ _ _ _ (ha.2.2.ext bxx) (hb.2.2.ext bxx) ha.2.1 hb.2.1 la64 lb64).mono ?_; rintro e w4 ⟨p, c, rfl, hrow, hnew, hx5⟩; (have hx6 : Ext w w4 := Ext.step bxx hx5); have hz_w4 : w.heap.size + 3 <= w4.heap.size := Nat.le_trans omm hx5.size; obtain ⟨hl_w4_0, hk_w4_0, hf_w4_0⟩ := extK hx5 (w.heap.size); obtain ⟨hl_w4_1, hk_w4_1, hf_w4_1⟩ := extK hx5 (w.heap.size + 1); obtain ⟨hl_w4_2, hk_w4_2, hf_w4_2⟩ := extK hx5 (w.heap.size + 2)) | (go_at_call 70; refine (r01_made (na != nb) _ _ _ _ _ hrow rfl).mono ?_; rintro e w5 ⟨n', p', l', c', rfl, hnr, hnew', hx7⟩; (have hx8 : Ext w w5 := Ext.step hx6 hx7); have hz_w5 : w.heap.size + 3 <= w5.heap.size := Nat.le_trans omm hx7.size; obtain ⟨hl_w5_0, hk_w5_0, hf_w5_0⟩ := extK hx7 (w.heap.size); obtain ⟨hl_w5_1, hk_w5_1, hf_w5_1⟩ := extK hx7 (w.heap.size + 1); obtain ⟨hl_w5_2, hk_w5_2, hf_w5_2⟩ := extK hx7 (w.heap.size + 2)))
   have HNR : NR w5 n' p' l' c' (mulP a b).1 := by rw [<- SP.out]; exact hnr
   rw [SP.out]
   clear hnr
   go_wp2_with fail
   refine bodyPost_ret (v := .tuple #[.agg #[.bool n', .slice p' l' c'], .bool (mulP a b).2]) (by simp [results, Tryz.results128, go_sem, *]) rfl ?_
   exact ⟨n', p', l', c', rfl, (by repeat (first | assumption | refine NR.set ?_ (by assumption) _ (by first | (simp; done) | (simp; omega) | omega) _ | refine NR.alloc ?_ _)), hnew'.mono (by omega), bxx⟩
  ·have rb : b.right = false := by simpa using rb
   have S := Lib.hid (mulP_right (a := a) rb)
   go_enter Tryz.func128, Tryz.ntmps128
   go_wp2_with fail
   refine (r01_Right a _ _ _ _ _ (ha.ext bxx)).mono ?_
   rintro e w1 ⟨rfl, hx⟩
   rw [ra]
   have hx0 : Ext w w1 := Ext.step bxx hx
   have hz_w1 : w.heap.size + 3 <= w1.heap.size := Nat.le_trans omm hx.size
   obtain ⟨hl_w1_0, hk_w1_0, hf_w1_0⟩ := extK hx (w.heap.size)
   obtain ⟨hl_w1_1, hk_w1_1, hf_w1_1⟩ := extK hx (w.heap.size + 1)
   obtain ⟨hl_w1_2, hk_w1_2, hf_w1_2⟩ := extK hx (w.heap.size + 2)
   go_wp2_with fail
   refine (r01_Right b _ _ _ _ _ (hb.ext bxx)).mono ?_
   rintro e w2 ⟨rfl, hx2⟩
   rw [rb]
   have hx1 : Ext w w2 := Ext.step hx0 hx2
   have hz_w2 : w.heap.size + 3 <= w2.heap.size := Nat.le_trans omm hx2.size
   obtain ⟨hl_w2_0, hk_w2_0, hf_w2_0⟩ := extK hx2 (w.heap.size)
   obtain ⟨hl_w2_1, hk_w2_1, hf_w2_1⟩ := extK hx2 (w.heap.size + 1)
   obtain ⟨hl_w2_2, hk_w2_2, hf_w2_2⟩ := extK hx2 (w.heap.size + 2)
   go_wp2_with fail
   refine bodyPost_ret (v := .tuple #[.agg #[.bool false, .slice none 0 0], .bool false]) (by simp [results, Tryz.results128, go_sem, *]) rfl ?_
   rw [S.out]
   exact ⟨false, none, 0, 0, rfl, ⟨rfl, rfl, Row.nil _⟩, New.none _, bxx⟩
 ·have ra : a.right = false := by simpa using ra
  have S := Lib.hid (mulP_left (b := b) ra)
  go_enter Tryz.func128, Tryz.ntmps128
  go_wp2_with fail
  refine (r01_Right a _ _ _ _ _ (ha.ext bxx)).mono ?_
  rintro e w1 ⟨rfl, hx⟩
  rw [ra]
  have hx0 : Ext w w1 := Ext.step bxx hx
  have hz_w1 : w.heap.size + 3 <= w1.heap.size := Nat.le_trans omm hx.size
  obtain ⟨hl_w1_0, hk_w1_0, hf_w1_0⟩ := extK hx (w.heap.size)
  obtain ⟨hl_w1_1, hk_w1_1, hf_w1_1⟩ := extK hx (w.heap.size + 1)
  obtain ⟨hl_w1_2, hk_w1_2, hf_w1_2⟩ := extK hx (w.heap.size + 2)
  go_wp2_with fail
  refine bodyPost_ret (v := .tuple #[.agg #[.bool false, .slice none 0 0], .bool false]) (by simp [results, Tryz.results128, go_sem, *]) rfl ?_
  rw [S.out]
  exact ⟨false, none, 0, 0, rfl, ⟨rfl, rfl, Row.nil _⟩, New.none _, bxx⟩
end Go.Proofs.YtighahcllmoajaaGreat

set_option maxHeartbeats 2000000
set_option maxRecDepth 100000
namespace Go.Proofs.YtighahcllmoajaaGreat
open Go.RowKit
theorem Row.set' {w : World} {p : Option Addr} {c : Nat} {d : List Nat} (h : Row w p c d) (a : Addr) (hn : ∀ x, p = some x -> x.block ≠ a.block) (v : Value) : Row (w.setCell a v) p c d := by
 refine ⟨h.1, h.2.1, h.2.2.1, fun h0 => ?_⟩
 obtain ⟨b, o, hp, hlt, hc⟩ := h.2.2.2 h0
 refine ⟨b, o, hp, by simpa [World.setCell] using hlt, fun i hi => ?_⟩
 have hb := hn _ hp
 rw [<- hc i hi]
 exact World.cell?_of_block (Below.heap_setCell _ _ _ _ hb)
theorem NR.set' {w : World} {n : Bool} {p : Option Addr} {l c : Nat} {a : Nm} (h : NR w n p l c a) (x : Addr) (hn : ∀ y, p = some y -> y.block ≠ x.block) (v : Value) : NR (w.setCell x v) n p l c a :=
 ⟨h.1, h.2.1, h.2.2.set' x hn v⟩
theorem NR.zero (w : World) : NR w false none 0 0 zero := ⟨rfl, rfl, Row.nil w⟩
theorem zero_z : zero.z = 0 := rfl
theorem zero_right : zero.right = true := rfl
def sgn (z : Int) : Int := cmpZ z 0
theorem cmpP_zero {a : Nm} (ra : a.right = true) : cmpP a zero = sgn a.z := by
 unfold cmpP
 rw [ra, zero_right, zero_z]
 rfl
theorem root_sign (a : Nm) (n : Bool) (p : Option Addr) (l c : Nat) (w : World) (h : NR w n p l c a) (ra : a.right = true) :
  Calls Tryz.prog 72 #[.agg #[.bool n, .slice p l c]] w fun e w' => e = .returned (.int .i64 (sgn a.z)) /\ Ext w w' := by
 have S := Lib.hid (cmpP_zero ra)
 go_enter Tryz.func72, Tryz.ntmps72
 go_wp2_with fail
 refine (num_Cmp a zero _ _ _ _ _ _ _ _ _ (h.ext bxx) (NR.zero _)).mono ?_
 rintro e w1 ⟨rfl, hx⟩
 rw [S.out]
 have hx0 : Ext w w1 := Ext.step bxx hx
 go_wp2
 go_ret
 exact ⟨rfl, hx0⟩
def prodZ (l : List Nm) : Int := l.foldl (fun z a => z * a.z) 1
theorem prodZ_snoc (l : List Nm) (a : Nm) : prodZ (l ++ [a]) = prodZ l * a.z := by simp [prodZ]
theorem prodZ_take (l : List Nm) (k : Nat) (a : Nm) (h : l[k]? = some a) : prodZ (l.take (k + 1)) = prodZ (l.take k) * a.z := by
 have hk := (List.getElem?_eq_some_iff.1 h).1
 rw [List.take_succ_eq_append_getElem hk, prodZ_snoc]
 rw [List.getElem?_eq_getElem hk] at h
 cases h
 rfl
def NRs (w : World) (b : Nat) (l : List Nm) : Prop :=
 b < w.heap.size /\ ∀ i a, l[i]? = some a -> a.right = true /\ ∃ n p li c, w.cell? ⟨b, i * 2, none⟩ = some (.bool n) /\ w.cell? ⟨b, i * 2 + 1, none⟩ = some (.slice p li c) /\ NR w n p li c a
theorem NRs.ext {w w' : World} {b : Nat} {l : List Nm} (h : NRs w b l) (hx : Ext w w') : NRs w' b l := by
 refine ⟨Nat.lt_of_lt_of_le h.1 hx.size, fun i a hi => ?_⟩
 obtain ⟨hr, n, p, li, c, h1, h2, h3⟩ := h.2 i a hi
 exact ⟨hr, n, p, li, c, by rw [hx.cell (p := ⟨b, i * 2, none⟩) h.1]; exact h1, by rw [hx.cell (p := ⟨b, i * 2 + 1, none⟩) h.1]; exact h2, h3.ext hx⟩
theorem mulP_small {a b : Nm} {z : Int} (ra : a.right = true) (rb : b.right = true) (hz : a.z * b.z = z) (hs : small z = true) : mulP a b = (ofZ z, true) := by
 unfold mulP fit
 rw [ra, rb, hz, hs]
 rfl
theorem root_times (l : List Nm) (b : Nat) (n c : Nat) (w : World) (h : NRs w b l) (hn : n = l.length) (hl : l.length <= 1000) (hs : ∀ k, small (prodZ (l.take k)) = true) :
  Calls Tryz.prog 65 #[.slice (some ⟨b, 0, none⟩) n c] w (RetN w (ofZ (prodZ l))) := by
 subst hn
 have HS := Lib.hid hs
 clear hs
 have HN := Lib.hid h
 have hb := h.1
 clear h
 go_enter Tryz.func65, Tryz.ntmps65
 go_wp2_with fail
 refine (num_Of 1 _ (by omega) (by omega)).mono ?_
 rintro e w1 ⟨n1, p1, l1, c1, rfl, hnr, hnew, hx⟩
 have hx0 : Ext w w1 := Ext.step bxx hx
 have hz_w1 : w.heap.size + 1 <= w1.heap.size := Nat.le_trans omm hx.size
 obtain ⟨hl_w1_0, hk_w1_0, hf_w1_0⟩ := extK hx (w.heap.size)
 go_wp2_with fail
 have r0 : w1.cell? ⟨w.heap.size, 0, none⟩ = some (.bool false) := by go_simp
 have r1 : w1.cell? ⟨w.heap.size, 1, none⟩ = some (.slice none 0 0) := by go_simp
 have rf : ∀ o, w1.frozen? ⟨w.heap.size, o, none⟩ = false := by intro o; go_simp
 obtain ⟨g, G⟩ : ∃ g, Hid (w1.heap.size = g) := ⟨_, rfl⟩
 have hg0 : w.heap.size < g := by rw [<- G.out]; exact hl_w1_0
 obtain ⟨w2, W2⟩ : ∃ w2, Hid (w1.alloc (.cells #[.bool n1, .slice p1 l1 c1] 36) = w2) := ⟨_, rfl⟩
 rw [W2.out, G.out]
 have hx1 : Ext w w2 := by rw [<- W2.out]; exact bxx
 have hg1 : g < w2.heap.size := by rw [<- W2.out, <- G.out]; simp
 have g0 : w2.cell? ⟨g, 0, none⟩ = some (.bool n1) := by rw [<- W2.out, <- G.out]; go_simp
 have g1 : w2.cell? ⟨g, 1, none⟩ = some (.slice p1 l1 c1) := by rw [<- W2.out, <- G.out]; go_simp
 have gf : ∀ o, w2.frozen? ⟨g, o, none⟩ = false := by intro o; rw [<- W2.out, <- G.out]; go_simp
 have s0 : w2.cell? ⟨w.heap.size, 0, none⟩ = some (.bool false) := by rw [<- W2.out]; go_simp
 have s1 : w2.cell? ⟨w.heap.size, 1, none⟩ = some (.slice none 0 0) := by rw [<- W2.out]; go_simp
 have sf : ∀ o, w2.frozen? ⟨w.heap.size, o, none⟩ = false := by intro o; rw [<- W2.out]; go_simp
 have hnr2 : NR w2 n1 p1 l1 c1 (ofZ (prodZ (l.take 0))) := by rw [<- W2.out]; exact hnr.alloc _
 have hnew2 : ∀ x, p1 = some x -> w.heap.size < x.block := fun x hx => by have := hnew x hx; simp at this; omega
 clear hnr hnew hx0 hk_w1_0 hf_w1_0 hl_w1_0 hz_w1 hx r0 r1 rf
 go_loopw [11] (fun i wr => ∃ (k : Nat) (n' : Bool) (p' : Option Addr) (l' c' : Nat), k <= l.length /\ i = .int .i64 (k : Int) /\ wr.cell? ⟨g, 0, none⟩ = some (.bool n') /\ wr.cell? ⟨g, 1, none⟩ = some (.slice p' l' c') /\ (∀ o, wr.frozen? ⟨g, o, none⟩ = false) /\
   NR wr n' p' l' c' (ofZ (prodZ (l.take k))) /\ (∀ x, p' = some x -> w.heap.size < x.block) /\ wr.cell? ⟨w.heap.size, 0, none⟩ = some (.bool false) /\ wr.cell? ⟨w.heap.size, 1, none⟩ = some (.slice none 0 0) /\ (∀ o, wr.frozen? ⟨w.heap.size, o, none⟩ = false) /\ g < wr.heap.size /\ Ext w wr) (fun i _ => l.length - (intOf i).toNat)
 case atStart => exact ⟨0, n1, p1, l1, c1, Nat.zero_le _, rfl, g0, g1, gf, hnr2, hnew2, s0, s1, sf, hg1, hx1⟩
 case round =>
  clear g0 g1 gf hnr2 hnew2 s0 s1 sf hg1 hx1
  obtain ⟨k, n', p', l', c', hk, rfl, g0, g1, gf, hnr, hnew, s0, s1, sf, hg1, hx⟩ := hrel
  by_cases hlt : k < l.length
  ·have hb2 : b < wr.heap.size := Nat.lt_of_lt_of_le hb hx.size
   obtain ⟨ra, n2, p2, l2, c2, e0, e1, hna⟩ := (HN.out.ext hx).2 k l[k] (List.getElem?_eq_getElem hlt)
   have PR := Lib.hid (prodZ_take l k l[k] (List.getElem?_eq_getElem hlt))
   have HNW := Lib.hid hnew
   clear hnew
   go_wp2_with fail
   have MP := Lib.hid (mulP_small (ofZ_right (HS.out k)) ra (by rw [ofZ_z]; exact PR.out.symm) (HS.out (k + 1)))
   refine (num_Mul (ofZ (prodZ (l.take k))) l[k] _ _ _ _ _ _ _ _ _ (hnr.alloc _) (hna.alloc _)).mono ?_
   rintro e w3 ⟨n3, p3, l3, c3, rfl, hnr3, hnew3, hx3⟩
   rw [MP.out] at hnr3 ⊢
   have hx4 : Ext wr w3 := Ext.step bxx hx3
   have hx5 : Ext w w3 := Ext.step hx hx4
   have g0' : w3.cell? ⟨g, 0, none⟩ = some (.bool n') := (hx4.cell (p := ⟨g, 0, none⟩) hg1).trans g0
   have g1' : w3.cell? ⟨g, 1, none⟩ = some (.slice p' l' c') := (hx4.cell (p := ⟨g, 1, none⟩) hg1).trans g1
   have gf' : ∀ o, w3.frozen? ⟨g, o, none⟩ = false := fun o => (hx4.frozen (p := ⟨g, o, none⟩) hg1).trans (gf o)
   have hw0 : w.heap.size < wr.heap.size := by omega
   have s0' : w3.cell? ⟨w.heap.size, 0, none⟩ = some (.bool false) := (hx4.cell (p := ⟨w.heap.size, 0, none⟩) hw0).trans s0
   have s1' : w3.cell? ⟨w.heap.size, 1, none⟩ = some (.slice none 0 0) := (hx4.cell (p := ⟨w.heap.size, 1, none⟩) hw0).trans s1
   have sf' : ∀ o, w3.frozen? ⟨w.heap.size, o, none⟩ = false := fun o => (hx4.frozen (p := ⟨w.heap.size, o, none⟩) hw0).trans (sf o)
   have hg2 : g < w3.heap.size := Nat.lt_of_lt_of_le hg1 hx4.size
   have hw2 : w.heap.size < w3.heap.size := by omega
   have hnew4 : ∀ x, p3 = some x -> wr.heap.size < x.block := fun x hx => by have := hnew3 x hx; simp at this; omega
   have NEW := Lib.hid hnew4
   clear hnew3 hnew4 g0 g1 gf s0 s1 sf hnr hna hx3 e0 e1
   go_wp2_with fail
   refine ⟨⟨k + 1, n3, p3, l3, c3, by omega, rfl, by go_simp, by go_simp, fun o => by go_simp, ?_, fun x hx => by have := NEW.out x hx; omega, by go_simp, by go_simp, fun o => by go_simp, by simp; omega, bxx⟩, by simp [intOf]; omega⟩
   refine (NR.set' (NR.set' hnr3 _ ?_ _) _ ?_ _).alloc _
   ·intro y hy; have := NEW.out y hy; simp; omega
   ·intro y hy; have := NEW.out y hy; simp; omega
  ·obtain rfl : k = l.length := by omega
   rw [List.take_of_length_le (Nat.le_refl _)] at hnr
   have HNW := Lib.hid hnew
   have hw0 : w.heap.size < wr.heap.size := by omega
   clear hnew
   go_wp2_with fail
   refine bodyPost_ret (v := .agg #[.bool n', .slice p' l' c']) (by simp [results, Tryz.results65, go_sem, *]) rfl ?_
   refine ⟨n', p', l', c', rfl, ?_, fun x hx => Nat.le_of_lt (HNW.out x hx), bxx⟩
   refine NR.set' (NR.set' hnr _ ?_ _) _ ?_ _
   ·intro y hy; have := HNW.out y hy; simp; omega
   ·intro y hy; have := HNW.out y hy; simp; omega
end Go.Proofs.YtighahcllmoajaaGreat

set_option maxHeartbeats 4000000
set_option maxRecDepth 100000
namespace Go.Proofs.YtighahcllmoajaaGreat
open Go.RowKit
def sideZ (a b c : Int) : Int := if 0 <= sgn a * (sgn b * sgn c) then max (min (sgn a + sgn b * sgn c) 1) (-1) else sgn a * cmpZ (a * a) (b * b * c)
theorem cmpZ_cases (a b : Int) : cmpZ a b = -1 \/ cmpZ a b = 0 \/ cmpZ a b = 1 := by
 unfold cmpZ
 split
 ·exact .inl rfl
 ·split
  ·exact .inr (.inl rfl)
  ·exact .inr (.inr rfl)
theorem sgn_bd (a : Int) : -1 <= sgn a /\ sgn a <= 1 := by
 rcases cmpZ_cases a 0 with h | h | h <;> rw [sgn, h] <;> omega
theorem cmpZ_bd (a b : Int) : -1 <= cmpZ a b /\ cmpZ a b <= 1 := by
 rcases cmpZ_cases a b with h | h | h <;> rw [h] <;> omega
theorem unit_mul {a b : Int} (ha : -1 <= a /\ a <= 1) (hb : -1 <= b /\ b <= 1) : -1 <= a * b /\ a * b <= 1 := by
 obtain rfl | rfl | rfl : a = -1 \/ a = 0 \/ a = 1 := by omega
 all_goals omega
theorem cmpP_side {x y : Int} (hx : small x = true) (hy : small y = true) : cmpP (ofZ x) (ofZ y) = cmpZ x y := by
 unfold cmpP
 rw [ofZ_right hx, ofZ_right hy, ofZ_z, ofZ_z]
 rfl
theorem NRs.drew {w : World} {b : Nat} {l : List Nm} (h : NRs w b l) : NRs w.drew b l := h.ext (Below.refl _ _).drew
theorem NRs.more {w : World} {b : Nat} {l : List Nm} (h : NRs w b l) (o : Obj) : NRs (w.alloc o) b l := h.ext ((Below.refl _ _).alloc (Nat.le_refl _) _)
theorem NRs_two {W : World} {n1 n2 : Bool} {p1 p2 : Option Addr} {l1 c1 l2 c2 B : Nat} {a b : Nm} (T : TypeId) (h1 : NR W n1 p1 l1 c1 a) (h2 : NR W n2 p2 l2 c2 b) (ra : a.right = true) (rb : b.right = true) (hB : B = W.heap.size) :
  NRs (W.alloc (.cells #[.bool n1, .slice p1 l1 c1, .bool n2, .slice p2 l2 c2] T)) B [a, b] := by
 subst hB
 have hh := heap_alloc_new W (.cells #[.bool n1, .slice p1 l1 c1, .bool n2, .slice p2 l2 c2] T)
 refine ⟨by simp, fun i x hi => ?_⟩
 match i, hi with
 | 0, hi =>
  simp only [List.getElem?_cons_zero, Option.some.injEq] at hi
  subst hi
  exact ⟨ra, n1, p1, l1, c1, by rw [cell_of_row _ _ _ _ _ _ hh]; rfl, by rw [cell_of_row _ _ _ _ _ _ hh]; rfl, h1.alloc _⟩
 | 1, hi =>
  simp only [List.getElem?_cons_succ, List.getElem?_cons_zero, Option.some.injEq] at hi
  subst hi
  exact ⟨rb, n2, p2, l2, c2, by rw [cell_of_row _ _ _ _ _ _ hh]; rfl, by rw [cell_of_row _ _ _ _ _ _ hh]; rfl, h2.alloc _⟩
 | i + 2, hi => simp at hi
theorem NRs_three {W : World} {n1 n2 n3 : Bool} {p1 p2 p3 : Option Addr} {l1 c1 l2 c2 l3 c3 B : Nat} {a b c : Nm} (T : TypeId) (h1 : NR W n1 p1 l1 c1 a) (h2 : NR W n2 p2 l2 c2 b) (h3 : NR W n3 p3 l3 c3 c) (ra : a.right = true) (rb : b.right = true) (rc : c.right = true) (hB : B = W.heap.size) :
  NRs (W.alloc (.cells #[.bool n1, .slice p1 l1 c1, .bool n2, .slice p2 l2 c2, .bool n3, .slice p3 l3 c3] T)) B [a, b, c] := by
 subst hB
 have hh := heap_alloc_new W (.cells #[.bool n1, .slice p1 l1 c1, .bool n2, .slice p2 l2 c2, .bool n3, .slice p3 l3 c3] T)
 refine ⟨by simp, fun i x hi => ?_⟩
 match i, hi with
 | 0, hi =>
  simp only [List.getElem?_cons_zero, Option.some.injEq] at hi
  subst hi
  exact ⟨ra, n1, p1, l1, c1, by rw [cell_of_row _ _ _ _ _ _ hh]; rfl, by rw [cell_of_row _ _ _ _ _ _ hh]; rfl, h1.alloc _⟩
 | 1, hi =>
  simp only [List.getElem?_cons_succ, List.getElem?_cons_zero, Option.some.injEq] at hi
  subst hi
  exact ⟨rb, n2, p2, l2, c2, by rw [cell_of_row _ _ _ _ _ _ hh]; rfl, by rw [cell_of_row _ _ _ _ _ _ hh]; rfl, h2.alloc _⟩
 | 2, hi =>
  simp only [List.getElem?_cons_succ, List.getElem?_cons_zero, Option.some.injEq] at hi
  subst hi
  exact ⟨rc, n3, p3, l3, c3, by rw [cell_of_row _ _ _ _ _ _ hh]; rfl, by rw [cell_of_row _ _ _ _ _ _ hh]; rfl, h3.alloc _⟩
 | i + 3, hi => simp at hi
theorem root_times2 (a b : Nm) (B c : Nat) (w : World) (h : NRs w B [a, b]) (hs : ∀ k, small (prodZ ([a, b].take k)) = true) :
  Calls Tryz.prog 65 #[.slice (some ⟨B, 0, none⟩) 2 c] w (RetN w (ofZ (prodZ [a, b]))) := root_times [a, b] B 2 c w h rfl (by simp) hs
theorem root_times3 (a b d : Nm) (B c : Nat) (w : World) (h : NRs w B [a, b, d]) (hs : ∀ k, small (prodZ ([a, b, d].take k)) = true) :
  Calls Tryz.prog 65 #[.slice (some ⟨B, 0, none⟩) 3 c] w (RetN w (ofZ (prodZ [a, b, d]))) := root_times [a, b, d] B 3 c w h rfl (by simp) hs
theorem root_side (a b c : Nm) (na nb nc : Bool) (pa pb pc : Option Addr) (la ca lb cb lc cc : Nat) (w : World) (ha : NR w na pa la ca a) (hb : NR w nb pb lb cb b) (hc : NR w nc pc lc cc c) (ra : a.right = true) (rb : b.right = true) (rc : c.right = true)
  (s1 : ∀ k, small (prodZ ([a, a].take k)) = true) (s2 : ∀ k, small (prodZ ([b, b, c].take k)) = true) :
  Calls Tryz.prog 66 #[.agg #[.bool na, .slice pa la ca], .agg #[.bool nb, .slice pb lb cb], .agg #[.bool nc, .slice pc lc cc]] w fun e w' => e = .returned (.int .i64 (sideZ a.z b.z c.z)) /\ Ext w w' := by
 have S1 := Lib.hid s1
 have S2 := Lib.hid s2
 clear s1 s2
 have ba := sgn_bd a.z
 have bb := sgn_bd b.z
 have bc := sgn_bd c.z
 obtain ⟨x, X⟩ : ∃ x, Hid (sgn a.z = x) := ⟨_, rfl⟩
 obtain ⟨sb, SB⟩ : ∃ x, Hid (sgn b.z = x) := ⟨_, rfl⟩
 obtain ⟨sc, SC⟩ : ∃ x, Hid (sgn c.z = x) := ⟨_, rfl⟩
 rw [X.out] at ba
 rw [SB.out] at bb
 rw [SC.out] at bc
 obtain ⟨y, Y⟩ : ∃ y, Hid (sb * sc = y) := ⟨_, rfl⟩
 have by' := unit_mul bb bc
 rw [Y.out] at by'
 obtain ⟨q, Q⟩ : ∃ q, Hid (x * y = q) := ⟨_, rfl⟩
 have bq := unit_mul ba by'
 rw [Q.out] at bq
 have hy := Y.out
 have hq := Q.out
 obtain ⟨r, R⟩ : ∃ r, Hid (cmpZ (a.z * a.z) (b.z * b.z * c.z) = r) := ⟨_, rfl⟩
 have br := cmpZ_bd (a.z * a.z) (b.z * b.z * c.z)
 rw [R.out] at br
 obtain ⟨z, Z⟩ : ∃ z, Hid (x * r = z) := ⟨_, rfl⟩
 have bz := unit_mul ba br
 rw [Z.out] at bz
 have hz := Z.out
 have RES : Hid (sideZ a.z b.z c.z = if 0 <= q then max (min (x + y) 1) (-1) else z) := by
  show sideZ a.z b.z c.z = _
  unfold sideZ
  rw [X.out, SB.out, SC.out, Y.out, Q.out, R.out, Z.out]
 go_enter Tryz.func66, Tryz.ntmps66
 go_wp2_with fail
 go_region_held3 (fun w' => w'.cell? ⟨w.heap.size, 0, none⟩ = some (.bool na) /\ w'.cell? ⟨w.heap.size, 1, none⟩ = some (.slice pa la ca) /\ w'.cell? ⟨w.heap.size + 1, 0, none⟩ = some (.bool nb) /\ w'.cell? ⟨w.heap.size + 1, 1, none⟩ = some (.slice pb lb cb) /\ w'.cell? ⟨w.heap.size + 2, 0, none⟩ = some (.bool nc) /\ w'.cell? ⟨w.heap.size + 2, 1, none⟩ = some (.slice pc lc cc)) (refine ⟨?_, ?_, ?_, ?_, ?_, ?_⟩ <;> go_simp) (first | (go_at_call 72; (with_reducible refine (root_sign a na pa la ca _ (ha.ext bxx) ra).mono ?_); rintro e w1 ⟨rfl, hx⟩; rw [X.out]; (have hx0 : Ext w w1 := Ext.step bxx hx); have hz_w1 : w.heap.size + 3 <= w1.heap.size := Nat.le_trans omm hx.size; obtain ⟨hl_w1_0, hk_w1_0, hf_w1_0⟩ := extK hx (w.heap.size); obtain ⟨hl_w1_1, hk_w1_1, hf_w1_1⟩ := extK hx (w.heap.size + 1); obtain ⟨hl_w1_2, hk_w1_2, hf_w1_2⟩ := extK hx (w.heap.size + 2)) | (go_at_call 72; (with_reducible refine (root_sign b nb pb lb cb _ (hb.ext bxx) rb).mono ?_); rintro e w2 ⟨rfl, hx⟩; rw [SB.out]; (have hx1 : Ext w w2 := Ext.step bxx hx); have hz_w2 : w.heap.size + 3 <= w2.heap.size := Nat.le_trans omm hx.size; obtain ⟨hl_w2_0, hk_w2_0, hf_w2_0⟩ := extK hx (w.heap.size); obtain ⟨hl_w2_1, hk_w2_1, hf_w2_1⟩ := extK hx (w.heap.size + 1); obtain ⟨hl_w2_2, hk_w2_2, hf_w2_2⟩ := extK hx (w.heap.size + 2)) | (go_at_call 72; (with_reducible refine (root_sign c nc pc lc cc _ (hc.ext bxx) rc).mono ?_); rintro e w3 ⟨rfl, hx⟩; rw [SC.out]; (have hx2 : Ext w w3 := Ext.step bxx hx); have hz_w3 : w.heap.size + 3 <= w3.heap.size := Nat.le_trans omm hx.size; obtain ⟨hl_w3_0, hk_w3_0, hf_w3_0⟩ := extK hx (w.heap.size); obtain ⟨hl_w3_1, hk_w3_1, hf_w3_1⟩ := extK hx (w.heap.size + 1); obtain ⟨hl_w3_2, hk_w3_2, hf_w3_2⟩ := extK hx (w.heap.size + 2)))
 by_cases h0 : 0 <= q
 ·go_wp2
  all_goals
   go_ret
   refine ⟨?_, bxx⟩
   rw [RES.out, if_pos h0]
   refine congrArg (fun n => Ending.returned (.int .i64 n)) ?_
   show _ = _
   omega
 ·have CM : Hid (cmpP (ofZ (prodZ [a, a])) (ofZ (prodZ [b, b, c])) = r) := by
   have e1 : prodZ [a, a] = a.z * a.z := by simp [prodZ]
   have e2 : prodZ [b, b, c] = b.z * b.z * c.z := by simp [prodZ]
   have f1 : small (prodZ [a, a]) = true := S1.out 2
   have f2 : small (prodZ [b, b, c]) = true := S2.out 3
   show cmpP (ofZ (prodZ [a, a])) (ofZ (prodZ [b, b, c])) = r
   rw [cmpP_side f1 f2, e1, e2, R.out]
  go_wp2_with fail
  go_region_held3 (fun w' => w'.cell? ⟨w.heap.size, 0, none⟩ = some (.bool na) /\ w'.cell? ⟨w.heap.size, 1, none⟩ = some (.slice pa la ca) /\ w'.cell? ⟨w.heap.size + 1, 0, none⟩ = some (.bool nb) /\ w'.cell? ⟨w.heap.size + 1, 1, none⟩ = some (.slice pb lb cb) /\ w'.cell? ⟨w.heap.size + 2, 0, none⟩ = some (.bool nc) /\ w'.cell? ⟨w.heap.size + 2, 1, none⟩ = some (.slice pc lc cc)) (refine ⟨?_, ?_, ?_, ?_, ?_, ?_⟩ <;> go_simp) (first | (go_at_call 65; (with_reducible refine (root_times2 a a _ 2 _ (by repeat (first | exact NRs_two _ (ha.ext bxx) (ha.ext bxx) ra ra (by first | rfl | simp) | refine NRs.drew ?_ | refine NRs.more ?_ _)) S1.out).mono ?_); rintro e w4 ⟨n4, p4, l4, c4, rfl, hnr4, hnew4, hx4⟩; (have hx5 : Ext w w4 := Ext.step bxx hx4); have hz_w4 : w.heap.size + 3 <= w4.heap.size := Nat.le_trans omm hx4.size; obtain ⟨hl_w4_0, hk_w4_0, hf_w4_0⟩ := extK hx4 (w.heap.size); obtain ⟨hl_w4_1, hk_w4_1, hf_w4_1⟩ := extK hx4 (w.heap.size + 1); obtain ⟨hl_w4_2, hk_w4_2, hf_w4_2⟩ := extK hx4 (w.heap.size + 2)) | (go_at_call 65; (with_reducible refine (root_times3 b b c _ 3 _ (by repeat (first | exact NRs_three _ (hb.ext bxx) (hb.ext bxx) (hc.ext bxx) rb rb rc (by first | rfl | simp) | refine NRs.drew ?_ | refine NRs.more ?_ _ | refine NRs.ext ?_ hx4)) S2.out).mono ?_); rintro e w5 ⟨n5, p5, l5, c5, rfl, hnr5, hnew5, hx6⟩; (have hx7 : Ext w4 w5 := Ext.step bxx hx6); (have hx8 : Ext w w5 := Ext.step hx5 hx7); have hz_w5 : w.heap.size + 3 <= w5.heap.size := Nat.le_trans omm hx6.size; obtain ⟨hl_w5_0, hk_w5_0, hf_w5_0⟩ := extK hx6 (w.heap.size); obtain ⟨hl_w5_1, hk_w5_1, hf_w5_1⟩ := extK hx6 (w.heap.size + 1); obtain ⟨hl_w5_2, hk_w5_2, hf_w5_2⟩ := extK hx6 (w.heap.size + 2)) | (go_at_call 69; refine (num_Cmp _ _ _ _ _ _ _ _ _ _ _ (hnr4.ext bxx) (hnr5.ext bxx)).mono ?_; rintro e w6 ⟨rfl, hx9⟩; rw [CM.out]; (have hx10 : Ext w w6 := Ext.step bxx hx9); have hz_w6 : w.heap.size + 3 <= w6.heap.size := Nat.le_trans omm hx9.size; obtain ⟨hl_w6_0, hk_w6_0, hf_w6_0⟩ := extK hx9 (w.heap.size); obtain ⟨hl_w6_1, hk_w6_1, hf_w6_1⟩ := extK hx9 (w.heap.size + 1); obtain ⟨hl_w6_2, hk_w6_2, hf_w6_2⟩ := extK hx9 (w.heap.size + 2)))
  go_wp2
  all_goals
   go_ret
   refine ⟨?_, bxx⟩
   rw [RES.out, if_neg (by omega)]
   refine congrArg (fun n => Ending.returned (.int .i64 n)) ?_
   show _ = _
   first | rfl | exact IntWalk.i64_in _ (by omega)
end Go.Proofs.YtighahcllmoajaaGreat
