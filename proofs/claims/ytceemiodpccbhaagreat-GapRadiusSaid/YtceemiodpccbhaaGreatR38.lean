import Derived.Test.YtceemiodpccbhaaGreatR37
import Derived.Test.YtceemiodpccbhaaGreatR35
set_option linter.unusedVariables false
set_option linter.unusedSimpArgs false


namespace Go.Proofs.YtceemiodpccbhaaGreat
open Go.RowKit
theorem mov_ok {s : Sh} (h : FineS s) {x y : Int} (t : Int) (m : Bool) (hx : -1048576 <= x /\ x <= 1048576) (hy : -1048576 <= y /\ y <= 1048576) : OkS (movS s x y t m) := by
 obtain ⟨h, hs, _⟩ := h
 have ht := modZ_bd t (m := 4) (by omega)
 refine ⟨h.k, h.n0, h.n1, fun i hi => ?_, fun i hi => ?_, fun hk => ?_, h.r⟩
 ·obtain ⟨⟨s1, s2⟩, ⟨s3, s4⟩, s5, s6⟩ := hs i hi
  unfold Sm3 at *
  exact move_ok (h.ok i hi) x y (modZ t 4) m (by omega) hx hy (by omega) (by omega) (by omega) (by omega) (by omega) (by omega)
 ·obtain ⟨e1, e2⟩ := h.ch i hi
  show (applyP x y (modZ t 4) m (s.e (i + 1)).ax (s.e (i + 1)).ay).1 = (applyP x y (modZ t 4) m (s.e i).bx (s.e i).by').1 /\ (applyP x y (modZ t 4) m (s.e (i + 1)).ax (s.e (i + 1)).ay).2 = (applyP x y (modZ t 4) m (s.e i).bx (s.e i).by').2
  rw [e1, e2]
  exact ⟨rfl, rfl⟩
 ·obtain ⟨e1, e2⟩ := h.cl hk
  show (applyP x y (modZ t 4) m (s.e 0).ax (s.e 0).ay).1 = (applyP x y (modZ t 4) m (s.e (s.n - 1)).bx (s.e (s.n - 1)).by').1 /\ (applyP x y (modZ t 4) m (s.e 0).ax (s.e 0).ay).2 = (applyP x y (modZ t 4) m (s.e (s.n - 1)).bx (s.e (s.n - 1)).by').2
  rw [e1, e2]
  exact ⟨rfl, rfl⟩
def shQ (z : Q4) (n : Int) : Q4 := ⟨z.a + n, z.s, z.n, z.d⟩
theorem shQ_ok {z : Q4} (h : z.ok) (n : Int) : (shQ z n).ok := ⟨h.s, h.n0, h.n1, h.d0, h.d1⟩
theorem q_rt {z : Q4} (h : z.ok) : z.rt = ⟨z.a, nz z.s z.n.toNat, ofZ ((z.n.toNat / Nat.gcd z.n.toNat z.d.toNat : Nat) : Int), ofZ ((z.d.toNat / Nat.gcd z.n.toNat z.d.toNat : Nat) : Int)⟩ := by
 rw [h.root.1, rootOf_nz h.s (by have := h.d0; omega)]
theorem plus_q {z : Q4} (h : z.ok) {n : Int} (hi : inI (z.a + n) = true) : plusR z.rt n = ((shQ z n).rt, true) := by
 unfold plusR
 have ha : z.rt.add = z.a := by rw [q_rt h]
 rw [h.root.2.2, ha, hi, q_rt (shQ_ok h n), q_rt h]
 rfl
theorem shQ_shQ (z : Q4) (m n : Int) : shQ (shQ z m) n = shQ z (m + n) := by unfold shQ; rw [Int.add_assoc]
theorem zrt_q (a b : Sh) : zrt a b = (shQ (intQ 0) (sumR a b)).rt := by
 have e : (ofP (sumR a b) 0 (ofZ ((0 : Nat) : Int)) (ofZ ((1 : Nat) : Int))) = (rootOf (sumR a b) 0 0 1, true) := ofP_nat (by decide) (by decide) (by decide) (by decide)
 have e2 : shQ (intQ 0) (sumR a b) = intQ (sumR a b) := by unfold shQ intQ; simp
 rw [e2, intQ_rt]
 exact congrArg Prod.fst e
def Bd30 (x : Int) : Prop := -1073741824 <= x /\ x <= 1073741824
theorem point_a {e : Ed} (ho : e.ok = true) (x y : Int) : -134217728 <= (pointQ e x y).a /\ (pointQ e x y).a <= 134217728 := by
 have hr := (rad_b ho).1
 unfold pointQ lineQ arcQ endQ
 (repeat' split) <;> simp only <;> omega
theorem cand_a {a b : Ed} (ha : a.ok = true) (hb : b.ok = true) : ∀ z ∈ candQ a b, Bd30 z.a := by
 intro z hz
 have r1 := (rad_b ha).1
 have r2 := (rad_b hb).1
 unfold Bd30
 unfold candQ at hz
 rcases List.mem_append.1 hz with hz | hz
 ·simp only [List.mem_cons, List.not_mem_nil, or_false] at hz
  rcases hz with rfl | rfl | rfl | rfl
  ·have := point_a hb a.ax a.ay; omega
  ·have := point_a hb a.bx a.by'; omega
  ·have := point_a ha b.ax b.ay; omega
  ·have := point_a ha b.bx b.by'; omega
 ·unfold innerQ footQ centQ at hz
  simp only at hz
  (repeat' split at hz) <;> first | (cases hz; done) | (simp only [List.mem_cons, List.not_mem_nil, or_false] at hz; subst hz; simp only; omega)
theorem gap_some (c : Nat -> Pr) : ∀ k, 0 < k -> ∃ i, i < k /\ gapK c k = (c i).gp
 | 0, h => absurd h (Nat.lt_irrefl _)
 | k + 1, _ => by
  unfold gapK
  split
  ·exact ⟨k, Nat.lt_succ_self _, rfl⟩
  ·rename_i h
   have hk : 0 < k := by
    rcases Nat.eq_zero_or_pos k with h0 | h0
    ·subst h0; simp at h
    ·exact h0
   obtain ⟨i, h1, h2⟩ := gap_some c k hk
   exact ⟨i, by omega, h2⟩
theorem sum_r {a b : Sh} (ha : OkS a) (hb : OkS b) : sumR a b = -a.r - b.r := by
 obtain ⟨⟨a0, a1⟩, _⟩ := ha.r
 obtain ⟨⟨b0, b1⟩, _⟩ := hb.r
 unfold sumR
 have e : IntKind.i64.wrap (0 - a.r) = -a.r := (wrap_in (by unfold I64; omega)).trans (by omega)
 rw [e, wrap_in (by unfold I64; omega)]
structure DistQ (a b : Sh) (z : Q4) : Prop where
 ok : z.ok
 bd : Bd30 z.a
 eq : (ofQ a b).2 = true /\ (ofQ a b).1.m = metB a b /\ (ofQ a b).1.d = (shQ z (-a.r - b.r)).rt
 met : metB a b = true -> z = intQ 0 /\ (ofQ a b).1.a = Sp.no /\ (ofQ a b).1.b = Sp.no
 far : metB a b = false -> 0 < cmpQ z (intQ 0)
theorem n_pos {s : Sh} (h : OkS s) : 0 < s.n := by
 have := h.n0
 unfold fewS at this
 split at this <;> omega
structure CoreQ (a b : Sh) (z : Q4) : Prop where
 ok : z.ok
 bd : Bd30 z.a
 met : metB a b = true -> z = intQ 0
 far : metB a b = false -> 0 < cmpQ z (intQ 0) /\ (gapK (cnd a b) (a.n * b.n)).d = z.rt /\ (gapK (cnd a b) (a.n * b.n)).m = false
theorem core_q {a b : Sh} (ha : OkS a) (hb : OkS b) : ∃ z, CoreQ a b z := by
 cases hm : metB a b with
 | true => exact ⟨intQ 0, intQ_ok 0, by unfold Bd30 intQ; simp only; omega, fun _ => rfl, fun h => (by rw [hm] at h; cases h)⟩
 | false =>
  have hn : 0 < a.n * b.n := Nat.mul_pos (n_pos ha) (n_pos hb)
  obtain ⟨i, hi, hg⟩ := gap_some (cnd a b) (a.n * b.n) hn
  have hbn := n_pos hb
  have i1 : i / b.n < a.n := (Nat.div_lt_iff_lt_mul hbn).2 hi
  have i2 : i % b.n < b.n := Nat.mod_lt _ hbn
  have oa := ha.ok _ i1
  have ob := hb.ok _ i2
  have hsep : sep a b i = true := by
   have hm' := hm
   unfold metB at hm'
   simp only [Bool.or_eq_false_iff, Bool.not_eq_false'] at hm'
   exact allB_t.1 hm'.2 i hi
  have hc : countE (a.e (i / b.n)) (b.e (i % b.n)) = 0 := by unfold sep at hsep; simpa using hsep
  have hd : (gapK (cnd a b) (a.n * b.n)).d = (leastQ (candQ (a.e (i / b.n)) (b.e (i % b.n)))).rt := by
   rw [hg]
   exact edgesR_Q oa ob hc
  have hmem := leastQ_mem (candQ_ne (a.e (i / b.n)) (b.e (i % b.n)))
  exact ⟨_, candQ_ok oa ob _ hmem, cand_a oa ob _ hmem, fun h => (by rw [hm] at h; cases h), fun _ => ⟨least_gt oa ob hc, hd, by rw [hg]; rfl⟩⟩
theorem core_dist {a b : Sh} (ha : OkS a) (hb : OkS b) {z : Q4} (C : CoreQ a b z) : DistQ a b z := by
 have h0 : ¬ (chkS a ≠ 0 \/ chkS b ≠ 0) := fun h => h.elim (fun g => g ha.chk) (fun g => g hb.chk)
 have hs := sum_r ha hb
 have ra := ha.r.1
 have rb := hb.r.1
 cases hm : metB a b with
 | true =>
  have e : ofQ a b = (metR a b, true) := by unfold ofQ; rw [if_neg h0, if_pos hm]
  refine ⟨C.ok, C.bd, ⟨by rw [e], by rw [e, hm]; rfl, ?_⟩, fun _ => ⟨C.met hm, by rw [e]; exact ⟨rfl, rfl⟩⟩, fun h => (by rw [hm] at h; cases h)⟩
  rw [e, <- hs, C.met hm]
  exact zrt_q a b
 | false =>
  have e : ofQ a b = ({ gapK (cnd a b) (a.n * b.n) with d := (plusR (gapK (cnd a b) (a.n * b.n)).d (sumR a b)).1 }, true) := by unfold ofQ; rw [if_neg h0, if_neg (by rw [hm]; decide)]
  obtain ⟨hgt, hd, hmf⟩ := C.far hm
  have hba := C.bd
  refine ⟨C.ok, C.bd, ⟨by rw [e], by rw [e, hm]; exact hmf, ?_⟩, fun h => (by rw [hm] at h; cases h), fun _ => hgt⟩
  rw [e]
  show (plusR (gapK (cnd a b) (a.n * b.n)).d (sumR a b)).1 = _
  unfold Bd30 at hba
  rw [hd, hs, plus_q C.ok (inI_iff.2 (by omega))]
def incS (a : Sh) (k : Int) : Sh := ⟨a.k, a.n, a.e, IntKind.i64.wrap (a.r + k)⟩
theorem inc_ok {a : Sh} (h : FineS a) (hk : a.k = 1) {k : Int} (h0 : 0 <= k /\ k < 100) : OkS (incS a k) /\ (incS a k).r = a.r + k := by
 have hr := h.1.r.1
 have h2 := h.2.2
 have e : (incS a k).r = a.r + k := wrap_in (by unfold I64; omega)
 exact ⟨⟨h.1.k, h.1.n0, h.1.n1, h.1.ok, h.1.ch, h.1.cl, by rw [e]; exact ⟨by omega, fun g => by rw [show (incS a k).k = a.k from rfl, hk] at g; cases g⟩⟩, e⟩
theorem inc_met (a b : Sh) (hk : a.k = 1) (k : Int) : metB (incS a k) b = metB a b := by
 have e1 : aroB (incS a k) b = false := by unfold aroB; show ((a.k == 2) && _) = false; rw [hk]; rfl
 have e2 : aroB a b = false := by unfold aroB; rw [hk]; rfl
 unfold metB
 rw [e1, e2]
 rfl
theorem inc_core {a b : Sh} (hk : a.k = 1) (k : Int) {z : Q4} (C : CoreQ a b z) : CoreQ (incS a k) b z := ⟨C.ok, C.bd, by rw [inc_met a b hk]; exact C.met, by rw [inc_met a b hk]; exact C.far⟩
end Go.Proofs.YtceemiodpccbhaaGreat

set_option maxHeartbeats 4000000
set_option maxRecDepth 100000
namespace Go.Proofs.YtceemiodpccbhaaGreat
open Go.RowKit
attribute [local go_sem] Gives givesU
theorem fine_ok {s : Sh} (h : FineS s) : (1 <= s.n /\ s.n <= 1000) /\ ∀ i, i < s.n -> (s.e i).ok = true := ⟨⟨n_pos h.1, by have := h.1.n1; omega⟩, h.1.ok⟩
theorem mod_sm (z : Int) : -1048576 <= z.tmod 60 /\ z.tmod 60 <= 1048576 := by
 obtain ⟨h1, h2⟩ := tmod_bd z (show (0 : Int) < 60 by decide)
 generalize z.tmod 60 = u at *
 omega
end Go.Proofs.YtceemiodpccbhaaGreat

set_option maxRecDepth 100000
namespace Go.Proofs.YtceemiodpccbhaaGreat
open Go.RowKit
attribute [local go_sem] Gives givesU
def KLr : List Con := [cGapF, cTouch, cLeastG, cPlus, cCmpInt, cCmp]
def lrD (a b : Sh) (k : Int) : Ds := ⟨[(7, .eq (blV true)), (8, .eq (fpV (shL a))), (9, .eq (fpV (shL b))), (10, .eq (inV k 100))], []⟩
theorem cmpQ_sh (z : Q4) (n m : Int) : cmpQ (shQ z n) (intQ m) = cmpQ (shQ z (n - m)) (intQ 0) := by
 unfold cmpQ shQ intQ
 simp only
 rw [show z.a + n - m = z.a + (n - m) - 0 by omega]
theorem cmp_qi {z : Q4} (h : z.ok) (m : Int) : cmpRt z.rt ⟨m, 0, zero, ofZ 1⟩ = cmpQ z (intQ m) := by rw [<- intQ_rt, cmpQ_rt h (intQ_ok m)]
theorem cmpQ_self {z : Q4} (h : z.ok) : cmpRt z.rt z.rt = 0 := by
 have := h.root.2.1
 unfold cmpRt
 rw [h.root.2.2]
 simp only [Bool.and_self, if_true]
 exact cmp_same this
theorem pfB {x y : Bool} (h : x = y) : (x == y) = true := by simpa using h
theorem radius_tail {a b : Sh} {z : Q4} (fa : FineS a) (hk1 : a.k = 1) (hb : OkS b) (C : CoreQ a b z) {k : Int} (hk : 0 <= k /\ k < 100) {w V : World} (A : Act) (B8 B9 : Nat) (hsz : A.tmps.size = 116) (hd : A.defers = []) (h7 : A.tmps.getD 7 undef = .bool true) (h8 : A.tmps.getD 8 undef = ptrA B8) (h9 : A.tmps.getD 9 undef = ptrA B9) (h10 : A.tmps.getD 10 undef = .int .i64 k) (f8 : FpAt V B8 (shL a)) (f9 : FpAt V B9 (shL b)) (hx : Ext w V) :
  (restS 5 (bodyF Tryz.prog 7)).wp Tryz.prog (bodyPost Tryz.prog Tryz.f7 fun e w' => e = .returned (.bool true) /\ Ext w w') A V := by
 obtain ⟨tm, df⟩ := A
 obtain rfl : df = [] := hd
 have hJ : JJ V (mkS 116 (lrD a b k)) ⟨tm, []⟩ V := old_J (a := ⟨tm, []⟩) hsz fun z hz => by
  simp only [List.mem_cons, List.not_mem_nil, or_false] at hz
  rcases hz with rfl | rfl | rfl | rfl
  ·rw [h7]; exact rv_v.2 ⟨rfl, rfl⟩
  ·rw [h8]; exact f8.rv
  ·rw [h9]; exact f9.rv
  ·rw [h10]; exact rv_i.2 ⟨⟨by omega, by unfold I64; omega⟩, rfl⟩
 obtain ⟨oi, ri⟩ := inc_ok fa hk1 hk
 have D := core_dist fa.1 hb C
 have D' := core_dist oi hb (inc_core hk1 k C)
 have ra := fa.1.r.1
 have ra2 := fa.2.2
 have rb := hb.r.1
 have hz := C.bd
 unfold Bd30 at hz
 have q1 := D.eq.2.2
 have q2 := D'.eq.2.2
 rw [ri] at q2
 have wn : IntKind.i64.wrap (0 - k) = -k := (wrap_in (by unfold I64; omega)).trans (by omega)
 have pq : plusR (ofQ a b).1.d (0 - k) = ((shQ z (-a.r - b.r - k)).rt, true) := by
  rw [q1, plus_q (shQ_ok C.ok _) (inI_iff.2 (by unfold shQ; simp only; omega)), shQ_shQ, show -a.r - b.r + (0 - k) = -a.r - b.r - k by omega]
 have e2 : (ofQ (incS a k) b).1.d = (shQ z (-a.r - b.r - k)).rt := by rw [q2, show -(a.r + k) - b.r = -a.r - b.r - k by omega]
 have hm : (ofQ a b).1.m = (ofQ (incS a k) b).1.m := by rw [D.eq.2.1, D'.eq.2.1, inc_met a b hk1]
 have c0 : cmpRt (ofQ (incS a k) b).1.d (plusR (ofQ a b).1.d (0 - k)).1 = 0 := by rw [pq, e2]; exact cmpQ_self (shQ_ok C.ok _)
 have t1 : (touchQ (incS a k) b == decide (cmpRt (ofQ (incS a k) b).1.d ⟨0, 0, zero, ofZ 1⟩ <= 0)) = true := pfB (by unfold touchQ cmpG; rw [D'.eq.1]; rfl)
 have t2 : (leastB (incS a k) b 0 == decide (cmpRt (ofQ (incS a k) b).1.d ⟨0, 0, zero, ofZ 1⟩ >= 0)) = true := pfB (by unfold leastB cmpG; rw [D'.eq.1]; rfl)
 have t3 : (leastB a b k == leastB (incS a k) b 0) = true := pfB (by
  unfold leastB cmpG
  rw [D'.eq.1, D.eq.1, e2, q1, cmp_qi (shQ_ok C.ok _), cmp_qi (shQ_ok C.ok _), cmpQ_sh])
 refine tail_wp (X := []) (K := KLr) (res := .one (blV (leastB a b k == leastB (incS a k) b 0))) [false, false, false, false, false, true, true, true] [pEd a, pEd b, pEd a, pEd b, pF (not_F D.eq.1), pF (not_F D'.eq.1), pF (not_F (show (plusR (ofQ a b).1.d (0 - k)).2 = true by rw [pq])), pF (show (!((ofQ a b).1.m == (ofQ (incS a k) b).1.m)) = false by rw [hm]; simp), pF (show (cmpRt (ofQ (incS a k) b).1.d (plusR (ofQ a b).1.d (0 - k)).1 != 0) = false by rw [c0]; rfl), pT (rfl : true = true), pEd a, pEd b, pT t1, pEd a, pEd b, pT t2, pEd a, pEd b, pEd a, pEd b] (by kernel_rfl) Tryz.func7 hJ fun v w' hv hx' => ?_
 refine ⟨?_, Ext.step hx hx'⟩
 rw [(rv_v.1 hv).2, t3]
end Go.Proofs.YtceemiodpccbhaaGreat

set_option maxHeartbeats 4000000
set_option maxRecDepth 100000
namespace Go.Proofs.YtceemiodpccbhaaGreat
open Go.RowKit
attribute [local go_sem] Gives givesU
def rdL : List Int := [1, 2, 4, 3, 1, 0, 5, 7]
theorem rd_k : (madeS rdL).k = 1 := by decide +kernel
theorem ints8 {W : World} {B : Nat} {T : TypeId} (h : W.heap[B]? = some (.cells #[.int .i64 1, .int .i64 2, .int .i64 4, .int .i64 3, .int .i64 1, .int .i64 0, .int .i64 5, .int .i64 7] T)) : IntsC W rdL (.slice (some ⟨B, 0, none⟩) 8 8) := by
 refine ⟨some ⟨B, 0, none⟩, 8, 8, rfl, ⟨rfl, by omega, fun _ => ⟨B, 0, rfl, (Array.getElem?_eq_some_iff.1 h).1, fun i hi => ?_⟩⟩, by omega, by unfold maxLen; omega⟩
 rw [cell_of_row _ _ _ _ _ _ h]
 obtain rfl | rfl | rfl | rfl | rfl | rfl | rfl | rfl : i = 0 \/ i = 1 \/ i = 2 \/ i = 3 \/ i = 4 \/ i = 5 \/ i = 6 \/ i = 7 := by omega
 all_goals rfl
theorem only3 {W : World} {B : Nat} (x y z : Value) : OnlyB B W (((W.setCell ⟨B, 0, none⟩ x).setCell ⟨B, 1, none⟩ y).setCell ⟨B, 2, none⟩ z) :=
 ⟨rfl, rfl, rfl, by simp, fun k hk => (row_oth _ (Ne.symm hk)).trans ((row_oth _ (Ne.symm hk)).trans (row_oth _ (Ne.symm hk)))⟩
theorem set3 {W : World} {B : Nat} {T : TypeId} {a b c : Value} (x y z : Value) (h : W.heap[B]? = some (.cells #[a, b, c] T)) : (((W.setCell ⟨B, 0, none⟩ x).setCell ⟨B, 1, none⟩ y).setCell ⟨B, 2, none⟩ z).heap[B]? = some (.cells #[x, y, z] T) := row_set z (row_set y (row_set x h))
theorem gradius_ok (L M : List Int) (bx by' nd : Int) (v1 v2 : Value) (w : World) (h1 : IntsC w L v1) (h2 : IntsC w M v2) :
  Calls Tryz.prog 7 #[v1, v2, .agg #[.int .i64 bx, .int .i64 by', .int .i64 nd]] w fun e w' => e = .returned (.bool true) /\ Ext w w' := by
 have fa := made_fine L
 have fb := made_fine M
 have ob := mov_ok fb 0 false (mod_sm bx) (mod_sm by')
 obtain ⟨q1, q2⟩ := fine_ok fb
 have hk := modZ_bd nd (m := 100) (by omega)
 have SH := Lib.hid (fun W (hW : Ext w W) => shapesC L M bx by' v1 v2 W (h1.ext hW) (h2.ext hW) q1 q2)
 have TL := Lib.hid (fun (a : Sh) (fa : FineS a) (k1 : a.k = 1) (V : World) A B8 B9 hsz hd h7 h8 h9 h10 f8 f9 hx => (core_q fa.1 ob).elim fun z C => radius_tail (w := w) (V := V) fa k1 ob C hk A B8 B9 hsz hd h7 h8 h9 h10 f8 f9 hx)
 have FA := Lib.hid fa
 have MO := Lib.hid (fun W => r01_Mod nd 100 W (by omega))
 clear h1 h2 fa fb ob q1 q2 hk
 generalize madeS L = a at *
 generalize movS (madeS M) (bx.tmod 60) (by'.tmod 60) 0 false = b at *
 generalize modZ nd 100 = k at *
 have X0 : Ext w (w.alloc (.cells #[.int .i64 bx, .int .i64 by', .int .i64 nd] 54)) := bxx
 have X0 := Lib.hid X0
 have c0 : (w.alloc (.cells #[.int .i64 bx, .int .i64 by', .int .i64 nd] 54)).heap[w.heap.size]? = some (.cells #[.int .i64 bx, .int .i64 by', .int .i64 nd] 54) := World.alloc_heap_new _ _
 have C0 := Lib.hid c0
 clear c0
 go_enter Tryz.func7, Tryz.ntmps7
 go_wp2_with fail
 refine (sanC _).mono ?_
 rintro e W1 ⟨rfl, hx1⟩
 have x1 := Lib.hid (Ext.step X0.out hx1)
 have r5 := Lib.hid (heap_ext C0.out hx1)
 have k0 : W1.cell? ⟨w.heap.size, 0, none⟩ = some (.int .i64 bx) := by rw [cell_of_row _ _ _ _ _ _ r5.out]; rfl
 have k1 : W1.cell? ⟨w.heap.size, 1, none⟩ = some (.int .i64 by') := by rw [cell_of_row _ _ _ _ _ _ r5.out]; rfl
 have kz : w.heap.size < W1.heap.size := (Array.getElem?_eq_some_iff.1 r5.out).1
 clear hx1 C0 X0
 go_wp2_with fail
 refine (SH.out _ x1.out).mono ?_
 rintro e W2 ⟨u1, u2, rfl, hu1, hu2, hx2⟩
 obtain ⟨p1, c1, rfl, hs1⟩ := ShAt.of hu1
 obtain ⟨p2, c2, rfl, hs2⟩ := ShAt.of hu2
 have x2 := Lib.hid (Ext.step x1.out hx2)
 have S1 := Lib.hid hs1
 have S2 := Lib.hid hs2
 have s5 := Lib.hid (heap_ext r5.out hx2)
 have j2 : W2.cell? ⟨w.heap.size, 2, none⟩ = some (.int .i64 nd) := by rw [cell_of_row _ _ _ _ _ _ s5.out]; rfl
 have jz : w.heap.size < W2.heap.size := (Array.getElem?_eq_some_iff.1 s5.out).1
 clear hu1 hu2 hs1 hs2 hx2 k0 k1 kz SH r5 x1
 have y1 := below_alloc W2 (.cells #[.int .i64 a.k, .slice p1 a.n c1, .int .i64 a.r] 24)
 have y2 := below_alloc (W2.alloc (.cells #[.int .i64 a.k, .slice p1 a.n c1, .int .i64 a.r] 24)) (.cells #[.int .i64 b.k, .slice p2 b.n c2, .int .i64 b.r] 24)
 have y12 := Ext.step y1 y2
 have X3 := Lib.hid (Ext.step x2.out y12)
 have R8 := Lib.hid (heap_ext (World.alloc_heap_new W2 (.cells #[.int .i64 a.k, .slice p1 a.n c1, .int .i64 a.r] 24)) y2)
 have r9 := World.alloc_heap_new (W2.alloc (.cells #[.int .i64 a.k, .slice p1 a.n c1, .int .i64 a.r] 24)) (.cells #[.int .i64 b.k, .slice p2 b.n c2, .int .i64 b.r] 24)
 simp only [World.size_alloc] at r9
 have R9 := Lib.hid r9
 have T1 := Lib.hid (S1.out.ext y12)
 have T2 := Lib.hid (S2.out.ext y12)
 clear y1 y2 y12 r9 S1 S2 x2 s5
 by_cases ka : a.k = 1
 ·have kb : (a.k != 1) = false := by rw [ka]; rfl
  have KA := Lib.hid ka
  clear ka
  go_wp2_with fail
  refine (MO.out _).mono ?_
  rintro e W3 ⟨rfl, hx3⟩
  have fin : Ext w W3 /\ FpAt W3 W2.heap.size (shL a) /\ FpAt W3 (W2.heap.size + 1) (shL b) := ⟨Ext.step X3.out hx3, .of (cs := [.int .i64 a.k, .slice p1 a.n c1, .int .i64 a.r]) (heap_ext R8.out hx3) (T1.out.ext hx3).repF, .of (cs := [.int .i64 b.k, .slice p2 b.n c2, .int .i64 b.r]) (heap_ext R9.out hx3) (T2.out.ext hx3).repF⟩
  have FN := Lib.hid fin
  clear fin hx3
  rename_i K1 HK1 K2 HK2
  have FIN := Lib.hid (fun (V : World) A B8 B9 hsz hd h7 h8 h9 h10 f8 f9 hx => HK1 A V (wp_as (c' := restS 5 (bodyF Tryz.prog 7)) (by kernel_rfl) (TL.out a FA.out KA.out V A B8 B9 hsz hd h7 h8 h9 h10 f8 f9 hx)))
  clear HK1 TL
  go_wp2
  obtain ⟨f1, f2, f3⟩ := FN.out
  exact FIN.out _ _ W2.heap.size (W2.heap.size + 1) rfl rfl rfl rfl rfl rfl f2 f3 f1
 ·have kb : (a.k != 1) = true := by simpa using ka
  clear ka
  go_wp2_with fail
  have y3 := below_alloc ((W2.alloc (.cells #[.int .i64 a.k, .slice p1 a.n c1, .int .i64 a.r] 24)).alloc (.cells #[.int .i64 b.k, .slice p2 b.n c2, .int .i64 b.r] 24)) (.cells #[.int .i64 1, .int .i64 2, .int .i64 4, .int .i64 3, .int .i64 1, .int .i64 0, .int .i64 5, .int .i64 7] 3)
  have n3 := World.alloc_heap_new ((W2.alloc (.cells #[.int .i64 a.k, .slice p1 a.n c1, .int .i64 a.r] 24)).alloc (.cells #[.int .i64 b.k, .slice p2 b.n c2, .int .i64 b.r] 24)) (.cells #[.int .i64 1, .int .i64 2, .int .i64 4, .int .i64 3, .int .i64 1, .int .i64 0, .int .i64 5, .int .i64 7] 3)
  simp only [World.size_alloc] at n3
  refine (madeC rdL _ _ (ints8 n3)).mono ?_
  rintro e W3 ⟨v, rfl, hv, hx3⟩
  obtain ⟨p3, c3, rfl, hs3⟩ := ShAt.of hv
  have q3 := Ext.step y3 hx3
  have r8 := heap_ext R8.out q3
  have d0 : W3.cell? ⟨W2.heap.size, 0, none⟩ = some (.int .i64 a.k) := by rw [cell_of_row _ _ _ _ _ _ r8]; rfl
  have d1 : W3.cell? ⟨W2.heap.size, 1, none⟩ = some (.slice p1 a.n c1) := by rw [cell_of_row _ _ _ _ _ _ r8]; rfl
  have d2 : W3.cell? ⟨W2.heap.size, 2, none⟩ = some (.int .i64 a.r) := by rw [cell_of_row _ _ _ _ _ _ r8]; rfl
  have fz : ∀ o, W3.frozen? ⟨W2.heap.size, o, none⟩ = false := fun o => by simp [World.frozen?, r8]
  have r9 := heap_ext R9.out q3
  have x3 := Ext.step X3.out q3
  have j3 : W3.cell? ⟨w.heap.size, 2, none⟩ = some (.int .i64 nd) := by
   have e1 := (Below.cell (Ext.step (Ext.step (below_alloc W2 (.cells #[.int .i64 a.k, .slice p1 a.n c1, .int .i64 a.r] 24)) (below_alloc _ (.cells #[.int .i64 b.k, .slice p2 b.n c2, .int .i64 b.r] 24))) q3) (p := ⟨w.heap.size, 2, none⟩) jz)
   exact e1.trans j2
  have ne8 : w.heap.size ≠ W2.heap.size := by omega
  have hw8 : w.heap.size <= W2.heap.size := by omega
  obtain ⟨a', ha'⟩ : ∃ a', madeS rdL = a' := ⟨_, rfl⟩
  rw [ha'] at hs3 ⊢
  have FA' := Lib.hid (show FineS a' from ha' ▸ made_fine rdL)
  have KA' := Lib.hid (show a'.k = 1 from ha' ▸ rd_k)
  have on := only3 (W := W3) (B := W2.heap.size) (.int .i64 a'.k) (.slice p3 a'.n c3) (.int .i64 a'.r)
  have fin : Ext w (((W3.setCell ⟨W2.heap.size, 0, none⟩ (.int .i64 a'.k)).setCell ⟨W2.heap.size, 1, none⟩ (.slice p3 a'.n c3)).setCell ⟨W2.heap.size, 2, none⟩ (.int .i64 a'.r)) /\ FpAt (((W3.setCell ⟨W2.heap.size, 0, none⟩ (.int .i64 a'.k)).setCell ⟨W2.heap.size, 1, none⟩ (.slice p3 a'.n c3)).setCell ⟨W2.heap.size, 2, none⟩ (.int .i64 a'.r)) W2.heap.size (shL a') /\ FpAt (((W3.setCell ⟨W2.heap.size, 0, none⟩ (.int .i64 a'.k)).setCell ⟨W2.heap.size, 1, none⟩ (.slice p3 a'.n c3)).setCell ⟨W2.heap.size, 2, none⟩ (.int .i64 a'.r)) (W2.heap.size + 1) (shL b) :=
   ⟨x3.trans (on.below hw8), .of (cs := [.int .i64 a'.k, .slice p3 a'.n c3, .int .i64 a'.r]) (set3 _ _ _ r8) (hs3.only on r8 (by simp)).repF, .of (cs := [.int .i64 b.k, .slice p2 b.n c2, .int .i64 b.r]) ((on.block _ (by omega)).trans r9) ((T2.out.ext q3).only on r8 (by simp)).repF⟩
  have FN := Lib.hid fin
  clear fin hv hs3 hx3 y3 n3 q3 r8 r9 x3 on ha' R8 R9 T1 T2 X3 j2 FA
  go_wp2_with fail
  refine (MO.out _).mono ?_
  rintro e W4 ⟨rfl, hx4⟩
  have FN := Lib.hid (show Ext w W4 /\ FpAt W4 W2.heap.size (shL a') /\ FpAt W4 (W2.heap.size + 1) (shL b) from ⟨Ext.step FN.out.1 hx4, FN.out.2.1.ext hx4, FN.out.2.2.ext hx4⟩)
  clear hx4 d0 d1 d2 fz j3
  rename_i K1 HK1 K2 HK2
  have FIN := Lib.hid (fun (V : World) A B8 B9 hsz hd h7 h8 h9 h10 f8 f9 hx => HK1 A V (wp_as (c' := restS 5 (bodyF Tryz.prog 7)) (by kernel_rfl) (TL.out a' FA'.out KA'.out V A B8 B9 hsz hd h7 h8 h9 h10 f8 f9 hx)))
  clear HK1 TL
  go_wp2
  obtain ⟨f1, f2, f3⟩ := FN.out
  exact FIN.out _ _ W2.heap.size (W2.heap.size + 1) rfl rfl rfl rfl rfl rfl f2 f3 f1
theorem radius_fok (L M : List Int) (bx by' nd : Int) : Fok Tryz.prog 7 [⟨false, [.ds L]⟩, ⟨false, [.ds M]⟩, ⟨true, [.i bx lim, .i by' lim, .i nd lim]⟩] (.one (blV true)) := fun W vals hv => by
 obtain ⟨v1, h1, _, rfl, hv1⟩ := rvs_cons.1 hv
 obtain ⟨v2, h2, _, rfl, hv2⟩ := rvs_cons.1 hv1
 obtain ⟨v3, h3, _, rfl, hv3⟩ := rvs_cons.1 hv2
 cases hv3
 simp only [rv_t, rl_i, rl_nil] at h3
 obtain ⟨_, ⟨_, _, rfl, _, _, rfl, _, _, rfl, rfl⟩, rfl⟩ := h3
 exact (gradius_ok L M bx by' nd v1 v2 W h1.scal.ints h2.scal.ints).mono fun e w' ⟨e1, hx⟩ => ⟨_, e1, rv_v.2 ⟨rfl, rfl⟩, hx⟩
end Go.Proofs.YtceemiodpccbhaaGreat
