/- Contracts: r02.Of, r02.Same, r02.Right, by the kernel's walker. | Steps: calls that give numbers. | Contracts: the sums and products of meet and etchantref07, for numbers that are small enough. | XRegion's rule in the body of a range over a function (a round's frame, at the wide fence). -/
import Derived.Test.YtighahcllmoajaaGreatJ23
import Derived.Test.YtighahcllmoajaaGreatJ25
import Derived.Test.YtighahcllmoajaaGreatJ26
import Derived.Test.YtighahcllmoajaaGreatJ05
import Derived.OrdersIn
import Derived.RangeFuncNested
import Derived.RangeFuncBound
import Derived.RangeFuncCalls
import Derived.RangeFuncLeaves
import Derived.OwnWalkIn
import Derived.TacticsInMore
import Derived.LoopNIn
import Derived.LoopIn
set_option linter.unusedVariables false
set_option linter.unusedSimpArgs false

set_option maxRecDepth 100000
namespace Go.Proofs.YtighahcllmoajaaGreat
open Go.RowKit
def d01Right : Con := nRightC 119 fun a _ _ _ _ w h => r01_Right a _ _ _ _ w h
def d01Cmp : Con := nCmpC 120 fun a b _ _ _ _ _ _ _ _ w h1 h2 => r01_Cmp a b _ _ _ _ _ _ _ _ w h1 h2
def d01Of : Con := nOfC 26 fun z w h1 h2 => r01_Of z w h1 h2
def d01Gcd : Con := nBinC 122 gcdP (fun _ _ => []) fun a b _ _ _ _ _ _ _ _ w _ h1 h2 => r01_Gcd a b _ _ _ _ _ _ _ _ w h1 h2
def d01Div : Con := nDivC 123 fun a b _ _ _ _ _ _ _ _ w h1 h2 => r01_Div a b _ _ _ _ _ _ _ _ w h1 h2
def K2O : List Con := [d01Right, d01Cmp, d01Of, d01Gcd, d01Div]
theorem neg_iff {a : Nm} (h : a.right = true) : a.neg = decide (a.z < 0) := by
 obtain ⟨_, ht, h0⟩ := a.right_iff.1 h
 rw [Bool.eq_iff_iff, decide_eq_true_iff]
 constructor
 ·intro hn
  have hne : a.d ≠ [] := fun e => by rw [h0 e] at hn; cases hn
  have := tight_pos ht (List.length_pos_iff.2 hne)
  unfold Nm.z
  rw [hn, if_pos rfl]
  omega
 ·intro hz
  unfold Nm.z at hz
  split at hz
  ·assumption
  ·omega
theorem lz : ofZ 0 = zero := lit_0
theorem cmp0 {a : Nm} (h : a.right = true) : cmpP a (ofZ 0) = sgn a.z := by
 rw [lz]
 exact cmpP_zero h
theorem g01 : (gcdP (ofZ 0) (ofZ 1)).1 = ofZ 1 := by
 rw [lz, gcdP_right zero_right0 one_right, val_one_ofZ]
 rfl
theorem d01 : (divP (ofZ 0) (gcdP (ofZ 0) (ofZ 1)).1).1 = zero /\ (divP (ofZ 1) (gcdP (ofZ 0) (ofZ 1)).1).1 = ofZ 1 := by
 have h1 := divP_nm (a := zero) (g := 1) zero_right0 small_one (by decide)
 have h2 := divP_nm (a := ofZ 1) (g := 1) one_right small_one (by decide)
 rw [show ((1 : Nat) : Int) = 1 from rfl] at h1 h2
 rw [g01, lz, h1, h2, zero_z, ofZ_z]
 exact ⟨lz, rfl⟩
theorem len8 {x : Nm} {y : Nm} (h : x = y) (h8 : y.d.length <= 8) : decide ((x.d.length : Int) > 8) = false := by
 subst h
 simp only [decide_eq_false_iff_not]
 omega
theorem gt8 {l : List Nat} (b : Bool) (h : decide (8 < l.length) = b) : decide ((l.length : Int) > 8) = b := by
 rw [<- h, decide_eq_decide]
 omega
theorem r2Of_fok (add s : Int) (n d : Nm) (dd : Dig d.d) : Fok Tryz.prog 77 [inV add lim, inV s lim, nmV n, nmV d] (rtA (ofP add s n d)) := by
 cases h1 : decide (s < -1) with
 | true =>
  rw [ofP_bad (by rw [bad_iff, h1]; rfl)]
  exact fok K2O [true] [pT h1] (by kernel_rfl)
 | false =>
 cases h2 : decide (s > 1) with
 | true =>
  rw [ofP_bad (by rw [bad_iff, h1, h2]; rfl)]
  exact fok K2O [false, true] [pF h1, pT h2] (by kernel_rfl)
 | false =>
 cases h3 : n.right with
 | false =>
  rw [ofP_bad (by rw [bad_iff, h1, h2, h3]; rfl)]
  exact fok K2O [false, false, true] [pF h1, pF h2, pT (nt_T h3)] (by kernel_rfl)
 | true =>
 cases h4 : d.right with
 | false =>
  rw [ofP_bad (by rw [bad_iff, h1, h2, h3, h4]; rfl)]
  exact fok K2O [false, false, false, true] [pF h1, pF h2, pF (nt_F h3), pT (nt_T h4)] (by kernel_rfl)
 | true =>
 have e5 : decide (cmpP n (ofZ 0) < 0) = n.neg := by
  rw [cmp0 h3, neg_iff h3, decide_eq_decide]
  rcases sgn_cases n.z with ⟨h, g⟩ | ⟨h, g⟩ | ⟨h, g⟩ <;> omega
 cases h5 : n.neg with
 | true =>
  rw [ofP_bad (by rw [bad_iff, h1, h2, h3, h4, h5]; rfl)]
  exact fok K2O [false, false, false, false, true] [pF h1, pF h2, pF (nt_F h3), pF (nt_F h4), pT (e5.trans h5)] (by kernel_rfl)
 | false =>
 have e6 : decide (cmpP d (ofZ 0) <= 0) = decide (d.z <= 0) := by rw [cmp0 h4]; exact sgn_le _ rfl
 cases h6 : decide (d.z <= 0) with
 | true =>
  rw [ofP_bad (by rw [bad_iff, h1, h2, h3, h4, h5, h6]; rfl)]
  exact fok K2O [false, false, false, false, false, true] [pF h1, pF h2, pF (nt_F h3), pF (nt_F h4), pF (e5.trans h5), pT (e6.trans h6)] (by kernel_rfl)
 | false =>
 have hb : ofBad s n d = false := by rw [bad_iff, h1, h2, h3, h4, h5, h6]; rfl
 have z1 := len8 d01.1 (Nat.zero_le 8)
 have z2 := len8 d01.2 (by rw [ofZ_one_len]; decide)
 cases h7 : (s == 0) with
 | true =>
  rw [ofP_zero hb (.inl (by simpa using h7)), <- d01.1, <- d01.2]
  exact fok K2O [false, false, false, false, false, false, true, false, false] [pF h1, pF h2, pF (nt_F h3), pF (nt_F h4), pF (e5.trans h5), pF (e6.trans h6), pT h7, pF z1, pF z2] (by kernel_rfl)
 | false =>
 have e8 : (cmpP n (ofZ 0) == 0) = (n.z == 0) := by rw [cmp0 h3]; exact sgn_z _ rfl
 cases h8 : (n.z == 0) with
 | true =>
  rw [ofP_zero hb (.inr (by simpa using h8)), <- d01.1, <- d01.2]
  exact fok K2O [false, false, false, false, false, false, false, true, false, false] [pF h1, pF h2, pF (nt_F h3), pF (nt_F h4), pF (e5.trans h5), pF (e6.trans h6), pF h7, pT (e8.trans h8), pF z1, pF z2] (by kernel_rfl)
 | false =>
 rw [ofP_div dd hb (fun h => h.elim (fun h => by rw [h] at h7; cases h7) (fun h => by rw [h] at h8; cases h8))]
 cases h9 : decide (8 < (divP n (gcdP n d).1).1.d.length) with
 | true =>
  rw [if_pos (by have := of_decide_eq_true h9; omega)]
  exact fok K2O [false, false, false, false, false, false, false, false, true] [pF h1, pF h2, pF (nt_F h3), pF (nt_F h4), pF (e5.trans h5), pF (e6.trans h6), pF h7, pF (e8.trans h8), pT (gt8 _ h9)] (by kernel_rfl)
 | false =>
 cases h10 : decide (8 < (divP d (gcdP n d).1).1.d.length) with
 | true =>
  rw [if_pos (by have := of_decide_eq_true h10; omega)]
  exact fok K2O [false, false, false, false, false, false, false, false, false, true] [pF h1, pF h2, pF (nt_F h3), pF (nt_F h4), pF (e5.trans h5), pF (e6.trans h6), pF h7, pF (e8.trans h8), pF (gt8 _ h9), pT (gt8 _ h10)] (by kernel_rfl)
 | false =>
  rw [if_neg (by have := of_decide_eq_false h9; have := of_decide_eq_false h10; omega)]
  exact fok K2O [false, false, false, false, false, false, false, false, false, false] [pF h1, pF h2, pF (nt_F h3), pF (nt_F h4), pF (e5.trans h5), pF (e6.trans h6), pF h7, pF (e8.trans h8), pF (gt8 _ h9), pF (gt8 _ h10)] (by kernel_rfl)
def d02Of : Con := ofC 77 r2Of_fok
theorem sameB_right {x y : Nm} (dx : Dig x.d) (dy : Dig y.d) (rx : x.right = true) (ry : y.right = true) (h : sameB x y = true) : x = y := by
 unfold sameB at h
 simp only [Bool.and_eq_true, beq_iff_eq] at h
 have tx := (x.right_iff.1 rx).2.1
 have ty := (y.right_iff.1 ry).2.1
 rw [cmpL_tight dx dy tx ty] at h
 have hv : val x.d = val y.d := by
  have := h.2
  unfold cmpN at this
  split at this
  ·cases this
  ·split at this
   ·assumption
   ·cases this
 cases x; cases y
 simp only at *
 rw [<- digs_val dx tx, <- digs_val dy ty, hv, h.1]
def sameR (a b : Rt) : Bool := a.add == b.add && (a.s == b.s && (sameB a.n b.n && sameB a.d b.d))
theorem sameR_self (a : Rt) : sameR a a = true := by simp [sameR, sameB_self]
theorem sameR_eq {a b : Rt} (ka : a.Ok) (kb : b.Ok) (da : Dig a.n.d /\ Dig a.d.d) (db : Dig b.n.d /\ Dig b.d.d) (h : sameR a b = true) : a = b := by
 unfold sameR at h
 simp only [Bool.and_eq_true, beq_iff_eq] at h
 obtain ⟨h1, h2, h3, h4⟩ := h
 have e1 := sameB_right da.1 db.1 ka.nr kb.nr h3
 have e2 := sameB_right da.2 db.2 ka.dr kb.dr h4
 cases a; cases b
 simp only at *
 subst h1 h2 e1 e2
 rfl
theorem right_same {a : Rt} (da : Dig a.n.d /\ Dig a.d.d) {b : Rt} {ok : Bool} (h : ofP a.add a.s a.n a.d = (b, ok)) : (ok && sameR a b) = a.right := by
 cases hr : a.right with
 | true =>
  obtain ⟨_, h2⟩ := right_ok da.1 da.2 hr
  rw [h] at h2
  simp only [Prod.mk.injEq] at h2
  obtain ⟨rfl, rfl⟩ := h2
  rw [sameR_self]
  rfl
 | false =>
  cases ok with
  | false => rfl
  | true =>
   obtain ⟨kb, hb, ha⟩ := ofP_ok da.1 da.2 h
   cases hs : sameR a b with
   | false => rfl
   | true =>
    exfalso
    have hbad : ofBad a.s a.n a.d = false := by
     cases hq : ofBad a.s a.n a.d with
     | false => rfl
     | true => unfold ofP at h; rw [hq] at h; simp at h
    obtain ⟨_, _, rn, rd, _, _⟩ := ofBad_false hbad
    unfold sameR at hs
    simp only [Bool.and_eq_true, beq_iff_eq] at hs
    obtain ⟨_, h2, h3, h4⟩ := hs
    have cm : ∀ {x y : Nm}, Dig x.d -> Dig y.d -> x.right = true -> y.right = true -> sameB x y = true -> cmpP x y = 0 := fun dx dy rx ry hh => by
     rw [sameB_right dx dy rx ry hh]; exact cmpP_self ry
    have form : Dig b.n.d /\ Dig b.d.d := by
     have hb2 := h
     unfold ofP at hb2
     rw [hbad, if_neg (by simp)] at hb2
     split at hb2
     ·obtain rfl : (⟨a.add, 0, zero, ofZ 1⟩ : Rt) = b := congrArg Prod.fst hb2
      exact ⟨Dig.nil, dig_digs _⟩
     ·split at hb2
      ·simp at hb2
      ·obtain rfl := congrArg Prod.fst hb2
       exact ⟨dig_digs _, dig_digs _⟩
    have : a.right = true := by
     unfold Rt.right
     rw [h]
     simp [h2, cm da.1 form.1 rn kb.nr h3, cm da.2 form.2 rd kb.dr h4]
    rw [hr] at this
    cases this
def d01Same : Con where
 f := 49
 g := fun | [⟨true, [.d (.num a)]⟩, ⟨true, [.d (.num b)]⟩] => some (.one (blV (sameB a b)), []) | _ => none
 ok := by
  intro args res ps h _
  split at h <;> cases h
  intro W vals hv
  simp only [rvs_cons, rvs_nil, rv_t, rl_num, rl_nil] at hv
  obtain ⟨_, ⟨_, ⟨n, p, l, c, h1, _, rfl, rfl⟩, rfl⟩, _, rfl, _, ⟨_, ⟨m, q, k, d, h2, _, rfl, rfl⟩, rfl⟩, _, rfl, rfl⟩ := hv
  exact (r01_Same _ _ _ _ _ _ _ _ _ _ W h1 h2).mono fun _ _ h => gv_bl h
theorem dsame_ok (a b : Rt) : Fok Tryz.prog 15 [rtV a, rtV b] (.one (blV (sameR a b))) := by
 unfold sameR
 cases h1 : (a.add == b.add) with
 | false => exact fok [d01Same] [false] [pF h1] (by kernel_rfl)
 | true =>
  cases h2 : (a.s == b.s) with
  | false => exact fok [d01Same] [true, false] [pT h1, pF h2] (by kernel_rfl)
  | true =>
   cases h3 : sameB a.n b.n with
   | false => exact fok [d01Same] [true, true, false] [pT h1, pT h2, pF h3] (by kernel_rfl)
   | true => exact fok [d01Same] [true, true, true] [pT h1, pT h2, pT h3] (by kernel_rfl)
def d02Same : Con where
 f := 15
 g := fun | [⟨true, [.i a _, .i s _, .d (.num n), .d (.num d)]⟩, ⟨true, [.i b _, .i t _, .d (.num m), .d (.num e)]⟩] => some (.one (blV (sameR ⟨a, s, n, d⟩ ⟨b, t, m, e⟩)), []) | _ => none
 ok := by
  intro args res ps h hp
  split at h <;> cases h
  rename_i a A s S n d b B t T m e
  exact (dsame_ok ⟨a, s, n, d⟩ ⟨b, t, m, e⟩).pre fun W => rvs_1 (fun _ h => (rt_at h).1) (rvs_1 (fun _ h => (rt_at h).1) fun _ h => h)
theorem r2Right_fok (a : Rt) (da : Dig a.n.d /\ Dig a.d.d) : Fok Tryz.prog 98 [rtV a] (.one (blV a.right)) := by
 rw [<- right_same da (b := (ofP a.add a.s a.n a.d).1) (ok := (ofP a.add a.s a.n a.d).2) rfl]
 cases h1 : (ofP a.add a.s a.n a.d).2 with
 | false => exact fok [d02Of, d02Same] [false] [pF h1] (by kernel_rfl)
 | true => exact fok [d02Of, d02Same] [true] [pT h1] (by kernel_rfl)
def d02Right : Con := rightC 98 r2Right_fok
end Go.Proofs.YtighahcllmoajaaGreat

namespace Go.Proofs.YtighahcllmoajaaGreat
open Go.RowKit
def IsN (w0 W : World) (x : Nm) (v : Value) (w' : World) : Prop := ∃ n p l c, v = .agg #[.bool n, .slice p l c] /\ NR w' n p l c x /\ New w0 p /\ Ext W w'
theorem RetN.isN {w0 W : World} {x : Nm} {e : Ending} {w' : World} (hz : w0.heap.size <= W.heap.size) (h : RetN W x e w') : ∃ v, e = .returned v /\ IsN w0 W x v w' := by
 obtain ⟨n, p, l, c, rfl, h1, h2, h3⟩ := h
 exact ⟨_, rfl, n, p, l, c, rfl, h1, h2.mono hz, h3⟩
theorem F_num {P : Program} {ops : Array Oper} {S : World -> Prop} {Q : Act -> World -> Prop} {o : Oper} {l : List Oper} {a : Act} {own : List Nat} {F : World -> Prop} (w0 : World) (x : Nm) (hk : fkind o = 2) (hw : Region.wanted o (yielded ops a.tmps) = true)
  (hg : ∀ w, F w -> Gives P o a w (IsN w0 w x))
  (h : ∀ n p l' c, New w0 p -> WpF P ops S Q l (a.put o.dst (.agg #[.bool n, .slice p l' c])) own (fun w => F w /\ NR w n p l' c x)) : WpF P ops S Q (o :: l) a own F :=
 F_callN w0 x hk hw hg h
section
variable {P : Program} {ops : Array Oper} {S : World -> Prop} {Q : Act -> World -> Prop} {o : Oper} {l : List Oper} {a : Act} {own : List Nat} {F : World -> Prop}
theorem F_n (b : World) (x : Nm) {f : FuncId} {args : Array Value} {a' : Bool -> Option Addr -> Nat -> Nat -> Act} (hc : ∀ W, F W -> Calls P f args W (RetN W x))
  (h : ∀ n p l' c, New b p -> WpF P ops S Q l (a' n p l' c) own (fun w => F w /\ NR w n p l' c x))
  (hk : fkind o = 2 := by rfl) (hw : Region.wanted o (yielded ops a.tmps) = true := by rfl) (hx : ∀ W, (execOp a.eval o).run P W = .ok (.enter f args) W := by (intro W; go_simp; try with_reducible rfl))
  (hz : ∀ W, F W -> b.heap.size <= W.heap.size := by (intro W hzz; (try dsimp only at hzz); (repeat (first | exact hzz.size | exact hzz.1.size | replace hzz := hzz.1))))
  (ha : ∀ n p l' c, a.put o.dst (.agg #[.bool n, .slice p l' c]) = a' n p l' c := by (intro n p l' c; simp only [Act.put, List.setIfInBounds_toArray, List.set_cons_zero, List.set_cons_succ]; rfl)) : WpF P ops S Q (o :: l) a own F := by
 refine F_num b x hk hw (fun W hf => gives_enter (hx W) ((hc W hf).mono fun e w' h => RetN.isN (hz W hf) h)) (fun n p l' c hn => ?_)
 rw [ha]
 exact h n p l' c hn
end
end Go.Proofs.YtighahcllmoajaaGreat

set_option maxHeartbeats 2000000
set_option maxRecDepth 100000
namespace Go.Proofs.YtighahcllmoajaaGreat
open Go.RowKit
attribute [local go_sem] Gives givesU
theorem subP_small {x y : Int} (hx : small x = true) (hy : small y = true) (hs : small (x - y) = true) : subP (ofZ x) (ofZ y) = (ofZ (x - y), true) := by
 unfold subP fit
 rw [ofZ_right hx, ofZ_right hy, ofZ_z, ofZ_z, hs]
 rfl
theorem mulP_small' {x y : Int} (hx : small x = true) (hy : small y = true) (hs : small (x * y) = true) : mulP (ofZ x) (ofZ y) = (ofZ (x * y), true) :=
 mulP_small (ofZ_right hx) (ofZ_right hy) (by rw [ofZ_z, ofZ_z]) hs
theorem meet_of (n : Int) (w : World) (h : -9223372036854775808 <= n /\ n <= 9223372036854775807) :
  Calls Tryz.prog 142 #[.int .i64 n] w (RetN w (ofZ n)) := by
 go_enter Tryz.func142, Tryz.ntmps142
 go_wp2_with fail
 refine (num_Of n _ h.1 h.2).mono ?_
 rintro e w1 ⟨n1, p1, l1, c1, rfl, hnr, hnew, hx⟩
 have hx0 : Ext w w1 := Ext.step bxx hx
 have hz_w1 : w.heap.size + 1 <= w1.heap.size := Nat.le_trans omm hx.size
 obtain ⟨hl_w1_0, hk_w1_0, hf_w1_0⟩ := extK hx (w.heap.size)
 go_wp2_with fail
 refine bodyPost_ret (v := .agg #[.bool n1, .slice p1 l1 c1]) (by simp [results, Tryz.results142, go_sem, *]) rfl ?_
 exact ⟨n1, p1, l1, c1, rfl, (by repeat (first | assumption | refine NR.set ?_ (by assumption) _ (by first | (simp; done) | (simp; omega) | omega) _ | refine NR.alloc ?_ _)), hnew.mono (by simp), bxx⟩
theorem meet_mul (x y : Int) (na nb : Bool) (pa pb : Option Addr) (la ca lb cb : Nat) (w : World) (ha : NR w na pa la ca (ofZ x)) (hb : NR w nb pb lb cb (ofZ y)) (hx : small x = true) (hy : small y = true) (z : Int) (hz : x * y = z) (hs : small z = true) :
  Calls Tryz.prog 144 #[.agg #[.bool na, .slice pa la ca], .agg #[.bool nb, .slice pb lb cb]] w (RetN w (ofZ z)) := by
 subst hz
 have MP := Lib.hid (mulP_small' hx hy hs)
 clear hx hy hs
 go_enter Tryz.func144, Tryz.ntmps144
 go_wp2_with fail
 refine (num_Mul (ofZ x) (ofZ y) _ _ _ _ _ _ _ _ _ (ha.ext bxx) (hb.ext bxx)).mono ?_
 rintro e w1 ⟨n1, p1, l1, c1, rfl, hnr, hnew, hx⟩
 rw [MP.out] at hnr ⊢
 have hx0 : Ext w w1 := Ext.step bxx hx
 have hz_w1 : w.heap.size + 3 <= w1.heap.size := Nat.le_trans omm hx.size
 obtain ⟨hl_w1_0, hk_w1_0, hf_w1_0⟩ := extK hx (w.heap.size)
 obtain ⟨hl_w1_1, hk_w1_1, hf_w1_1⟩ := extK hx (w.heap.size + 1)
 obtain ⟨hl_w1_2, hk_w1_2, hf_w1_2⟩ := extK hx (w.heap.size + 2)
 go_wp2_with fail
 refine bodyPost_ret (v := .agg #[.bool n1, .slice p1 l1 c1]) (by simp [results, Tryz.results144, go_sem, *]) rfl ?_
 exact ⟨n1, p1, l1, c1, rfl, (by repeat (first | assumption | refine NR.set ?_ (by assumption) _ (by first | (simp; done) | (simp; omega) | omega) _ | refine NR.alloc ?_ _)), hnew.mono (by simp; omega), bxx⟩
theorem meet_sub (x y : Int) (na nb : Bool) (pa pb : Option Addr) (la ca lb cb : Nat) (w : World) (ha : NR w na pa la ca (ofZ x)) (hb : NR w nb pb lb cb (ofZ y)) (hx : small x = true) (hy : small y = true) (z : Int) (hz : x - y = z) (hs : small z = true) :
  Calls Tryz.prog 143 #[.agg #[.bool na, .slice pa la ca], .agg #[.bool nb, .slice pb lb cb]] w (RetN w (ofZ z)) := by
 subst hz
 have MP := Lib.hid (subP_small hx hy hs)
 clear hx hy hs
 go_enter Tryz.func143, Tryz.ntmps143
 go_wp2_with fail
 refine (num_Sub (ofZ x) (ofZ y) _ _ _ _ _ _ _ _ _ (ha.ext bxx) (hb.ext bxx)).mono ?_
 rintro e w1 ⟨n1, p1, l1, c1, rfl, hnr, hnew, hx⟩
 rw [MP.out] at hnr ⊢
 have hx0 : Ext w w1 := Ext.step bxx hx
 have hz_w1 : w.heap.size + 3 <= w1.heap.size := Nat.le_trans omm hx.size
 obtain ⟨hl_w1_0, hk_w1_0, hf_w1_0⟩ := extK hx (w.heap.size)
 obtain ⟨hl_w1_1, hk_w1_1, hf_w1_1⟩ := extK hx (w.heap.size + 1)
 obtain ⟨hl_w1_2, hk_w1_2, hf_w1_2⟩ := extK hx (w.heap.size + 2)
 go_wp2_with fail
 refine bodyPost_ret (v := .agg #[.bool n1, .slice p1 l1 c1]) (by simp [results, Tryz.results143, go_sem, *]) rfl ?_
 exact ⟨n1, p1, l1, c1, rfl, (by repeat (first | assumption | refine NR.set ?_ (by assumption) _ (by first | (simp; done) | (simp; omega) | omega) _ | refine NR.alloc ?_ _)), hnew.mono (by simp; omega), bxx⟩
theorem r07_of (n : Int) (w : World) (h : -9223372036854775808 <= n /\ n <= 9223372036854775807) :
  Calls Tryz.prog 170 #[.int .i64 n] w (RetN w (ofZ n)) := by
 go_enter Tryz.func170, Tryz.ntmps170
 go_wp2_with fail
 refine (r01_Of n _ h.1 h.2).mono ?_
 rintro e w1 ⟨n1, p1, l1, c1, rfl, hnr, hnew, hx⟩
 have hx0 : Ext w w1 := Ext.step bxx hx
 have hz_w1 : w.heap.size + 1 <= w1.heap.size := Nat.le_trans omm hx.size
 obtain ⟨hl_w1_0, hk_w1_0, hf_w1_0⟩ := extK hx (w.heap.size)
 go_wp2_with fail
 refine bodyPost_ret (v := .agg #[.bool n1, .slice p1 l1 c1]) (by simp [results, Tryz.results170, go_sem, *]) rfl ?_
 exact ⟨n1, p1, l1, c1, rfl, (by repeat (first | assumption | refine NR.set ?_ (by assumption) _ (by first | (simp; done) | (simp; omega) | omega) _ | refine NR.alloc ?_ _)), hnew.mono (by simp), bxx⟩
theorem r07_mul (x y : Int) (na nb : Bool) (pa pb : Option Addr) (la ca lb cb : Nat) (w : World) (ha : NR w na pa la ca (ofZ x)) (hb : NR w nb pb lb cb (ofZ y)) (hx : small x = true) (hy : small y = true) (z : Int) (hz : x * y = z) (hs : small z = true) :
  Calls Tryz.prog 171 #[.agg #[.bool na, .slice pa la ca], .agg #[.bool nb, .slice pb lb cb]] w (RetN w (ofZ z)) := by
 subst hz
 have MP := Lib.hid (mulP_small' hx hy hs)
 clear hx hy hs
 go_enter Tryz.func171, Tryz.ntmps171
 go_wp2_with fail
 refine (r01_Mul (ofZ x) (ofZ y) _ _ _ _ _ _ _ _ _ (ha.ext bxx) (hb.ext bxx)).mono ?_
 rintro e w1 ⟨n1, p1, l1, c1, rfl, hnr, hnew, hx⟩
 rw [MP.out] at hnr ⊢
 have hx0 : Ext w w1 := Ext.step bxx hx
 have hz_w1 : w.heap.size + 3 <= w1.heap.size := Nat.le_trans omm hx.size
 obtain ⟨hl_w1_0, hk_w1_0, hf_w1_0⟩ := extK hx (w.heap.size)
 obtain ⟨hl_w1_1, hk_w1_1, hf_w1_1⟩ := extK hx (w.heap.size + 1)
 obtain ⟨hl_w1_2, hk_w1_2, hf_w1_2⟩ := extK hx (w.heap.size + 2)
 go_wp2_with fail
 refine bodyPost_ret (v := .agg #[.bool n1, .slice p1 l1 c1]) (by simp [results, Tryz.results171, go_sem, *]) rfl ?_
 exact ⟨n1, p1, l1, c1, rfl, (by repeat (first | assumption | refine NR.set ?_ (by assumption) _ (by first | (simp; done) | (simp; omega) | omega) _ | refine NR.alloc ?_ _)), hnew.mono (by simp; omega), bxx⟩
theorem r07_sub (x y : Int) (na nb : Bool) (pa pb : Option Addr) (la ca lb cb : Nat) (w : World) (ha : NR w na pa la ca (ofZ x)) (hb : NR w nb pb lb cb (ofZ y)) (hx : small x = true) (hy : small y = true) (z : Int) (hz : x - y = z) (hs : small z = true) :
  Calls Tryz.prog 172 #[.agg #[.bool na, .slice pa la ca], .agg #[.bool nb, .slice pb lb cb]] w (RetN w (ofZ z)) := by
 subst hz
 have MP := Lib.hid (subP_small hx hy hs)
 clear hx hy hs
 go_enter Tryz.func172, Tryz.ntmps172
 go_wp2_with fail
 refine (r01_Sub (ofZ x) (ofZ y) _ _ _ _ _ _ _ _ _ (ha.ext bxx) (hb.ext bxx)).mono ?_
 rintro e w1 ⟨n1, p1, l1, c1, rfl, hnr, hnew, hx⟩
 rw [MP.out] at hnr ⊢
 have hx0 : Ext w w1 := Ext.step bxx hx
 have hz_w1 : w.heap.size + 3 <= w1.heap.size := Nat.le_trans omm hx.size
 obtain ⟨hl_w1_0, hk_w1_0, hf_w1_0⟩ := extK hx (w.heap.size)
 obtain ⟨hl_w1_1, hk_w1_1, hf_w1_1⟩ := extK hx (w.heap.size + 1)
 obtain ⟨hl_w1_2, hk_w1_2, hf_w1_2⟩ := extK hx (w.heap.size + 2)
 go_wp2_with fail
 refine bodyPost_ret (v := .agg #[.bool n1, .slice p1 l1 c1]) (by simp [results, Tryz.results172, go_sem, *]) rfl ?_
 exact ⟨n1, p1, l1, c1, rfl, (by repeat (first | assumption | refine NR.set ?_ (by assumption) _ (by first | (simp; done) | (simp; omega) | omega) _ | refine NR.alloc ?_ _)), hnew.mono (by simp; omega), bxx⟩
theorem meet_minus (x : Int) (na : Bool) (pa : Option Addr) (la ca : Nat) (w : World) (ha : NR w na pa la ca (ofZ x)) (hx : small x = true) (z : Int) (hz : 0 - x = z) (hs : small z = true) :
  Calls Tryz.prog 145 #[.agg #[.bool na, .slice pa la ca]] w (RetN w (ofZ z)) := by
 have HZ := Lib.hid hz
 clear hz
 have H0 : Hid (small 0 = true) := by show small 0 = true; decide
 go_enter Tryz.func145, Tryz.ntmps145
 go_wp2_with fail
 refine wp_GR (w.heap.size + 1) (.cells #[.bool false, .slice none 0 0] 36) (fun W => Ext w W /\ w.heap.size + 1 + 1 <= W.heap.size /\ W.cell? ⟨w.heap.size, 0, none⟩ = some (.bool na) /\ W.cell? ⟨w.heap.size, 1, none⟩ = some (.slice pa la ca)) ?_
 intro hSM hRKS
 refine F_num w (ofZ 0) (by rfl) (by rfl) (by intro W hW; (try dsimp only at hW); have hwW := (show w.heap.size <= W.heap.size by have hzz := hW; (repeat (first | exact hzz.size | exact hzz.1.size | replace hzz := hzz.1))); go_simp; exact (meet_of 0 _ (by omega)).mono fun _ _ h => RetN.isN hwW h) ?_; intro n1 p1 l1 c1 hn1; refine F_put ?_
 repeat (first | refine F_s ?_ | refine F_r ?_)
 refine F_num w (ofZ z) (by rfl) (by rfl) (by intro W hW; (try dsimp only at hW); have hwW := (show w.heap.size <= W.heap.size by have hzz := hW; (repeat (first | exact hzz.size | exact hzz.1.size | replace hzz := hzz.1))); go_simp; exact (meet_sub 0 x _ _ _ _ _ _ _ _ _ hW.2 (ha.ext hW.1.1.1) H0.out hx z HZ.out hs).mono fun _ _ h => RetN.isN hwW h) ?_; intro n2 p2 l2 c2 hn2; refine F_put ?_
 refine F_w (fun W => _ /\ NR W n2 p2 l2 c2 (ofZ z)) (fun W hW => ⟨⟨hW.1.1.1, hW.2⟩, hW.1.1.2⟩) ?_
 repeat (first | refine F_s ?_ | refine F_r ?_)
 rintro W ⟨⟨⟨⟨hx, hz, hc⟩, hn⟩, hb⟩, _⟩
 obtain ⟨c0, c1, _, hl⟩ := pt_block hb
 clear hc hb
 go_wp2
 refine bodyPost_ret (v := .agg #[.bool n2, .slice p2 l2 c2]) (by simp [results, Tryz.results145, go_sem, *]) rfl ?_
 exact ⟨n2, p2, l2, c2, rfl, hn, hn2, hx⟩
end Go.Proofs.YtighahcllmoajaaGreat

namespace Go.Proofs.YtighahcllmoajaaGreat
open Go.RowKit
def noDeferB (ops : Array Oper) : Bool := ops.toList.all fun o => match o.op with | .defer _ => false | _ => true
section
variable {P : Program} {ops : Array Oper} {S : World -> Prop}
theorem noDefer_spec (h : noDeferB ops = true) {i : Nat} {o : Oper} (ho : ops[i]? = some o) : ∀ c, o.op ≠ .defer c := by
 intro c e
 have hm : o ∈ ops.toList := by
  obtain ⟨hlt, rfl⟩ := Array.getElem?_eq_some_iff.1 ho
  simp
 have := List.all_eq_true.1 h o hm
 simp [e] at this
theorem Gives.wpIn {o : Oper} {a : Act} {w : World} {R : Value -> World -> Prop} {K : Act -> World -> Prop} {Q : Exit -> Act -> World -> Prop} {r m : Nat}
  (h : Gives P o a w R) (hnd : ∀ c, o.op ≠ .defer c) (hk : ∀ v w', R v w' -> K (a.put o.dst v) w') : o.wpIn (Fence.wide.inRound r) m P a w K Q := by
 refine ⟨fun _ _ => trivial, ?_⟩
 rw [Oper.semAt_eq _ _ _ hnd]
 unfold Gives at h
 generalize (execOp a.eval o).run P w = x at *
 cases x with
 | ok n w' =>
  cases n <;> simp only [givesU] at h <;> simp only [Oper.uponIn]
  case value u => exact hk _ _ h
  case skip => exact hk _ _ h
  case enter f args =>
   refine ⟨fun hd => by simp [Fence.wide] at hd, ?_⟩
   exact (CallsIn.inRound r (callsIn_wide.2 h)).mono fun e w'' ⟨v, he, hr⟩ => by subst he; exact hk _ _ hr
 | halt x w' => simp only [givesU] at h
theorem wpAnyIn_of_F {Q : Exit -> Act -> World -> Prop} {r m : Nat} (hB : floatB ops = true) (hD : noDeferB ops = true) : ∀ (n : Nat) (zs : List (Nat × Oper)) (listed : Array Bool) (a : Act) (own : List Nat) (F : World -> Prop) (w : World), zs.length = n -> LeftF ops listed zs -> Closed ops listed ->
  InvF S own F -> F w -> WpF P ops S (fun a w => Q .normal a w) (zs.map (·.2)) a own F -> wpAnyIn (Fence.wide.inRound r) m P .any ops Q n listed a w := by
 have hB' := hB
 simp only [floatB, Bool.and_eq_true, List.all_eq_true, List.mem_range, decide_eq_true_eq] at hB'
 obtain ⟨hsel, hall⟩ := hB'
 intro n
 induction n with
 | zero =>
  intro zs listed a own F w hn hl hc hi hw h
  have : zs = [] := List.eq_nil_of_length_eq_zero hn
  subst this
  refine ⟨?_, h w hw⟩
  rw [List.eq_nil_iff_forall_not_mem]
  intro i hr
  have h1 := mem_ready.1 hr
  obtain ⟨hu, o, ho, _⟩ := h1
  have := (hl.mem i (Array.getElem?_eq_some_iff.1 ho).1).1 hu
  simp at this
 | succ n ih =>
  intro zs listed a own F w hn hl hc hi hw h
  have hget (i : Nat) (hlt : i < ops.size) (hu : ¬ listed.getD i true = false) : listed.getD i false = true := by
   have hlt' : i < listed.size := by rw [hl.size]; exact hlt
   simp [hlt'] at hu ⊢
   exact hu
  refine ⟨fun h0 => ?_, fun i hr => ?_⟩
  ·exfalso
   obtain ⟨⟨i, o⟩, rest, rfl⟩ : ∃ z rest, zs = z :: rest := by
    cases zs with
    | nil => simp at hn
    | cons z rest => exact ⟨z, rest, rfl⟩
   have ho := hl.here (i, o) (by simp)
   have hlt : i < ops.size := (Array.getElem?_eq_some_iff.1 ho).1
   have hr : i ∈ Region.ready .any ops listed := by
    refine mem_ready.2 ⟨(hl.mem i hlt).2 (by simp), o, ho, fun e he hb => ?_⟩
    have hd : e.on ∈ depsOf ops i := (mem_depsOf ho).2 ⟨e, he, hb, rfl⟩
    have hei := (hall i hlt).1 _ hd
    refine hget _ (by omega) fun hu => ?_
    have hm := (hl.mem e.on (by omega)).1 hu
    simp only [List.map_cons, List.mem_cons] at hm
    rcases hm with hm | hm
    ·omega
    ·obtain ⟨p, hp, he'⟩ := List.mem_map.1 hm
     have := (List.pairwise_cons.1 hl.sorted).1 p hp
     simp at this
     omega
   rw [h0] at hr
   cases hr
  ·obtain ⟨hu, o, ho, _⟩ := mem_ready.1 hr
   have hlt : i < ops.size := (Array.getElem?_eq_some_iff.1 ho).1
   have hm := (hl.mem i hlt).1 hu
   obtain ⟨⟨i', o'⟩, hp, hei⟩ := List.mem_map.1 hm
   simp only at hei
   subst hei
   have ho' := hl.here _ hp
   simp only at ho'
   rw [ho] at ho'
   simp only [Option.some.injEq] at ho'
   subst ho'
   obtain ⟨pre, post, rfl⟩ := List.append_of_mem hp
   have hpre : ∀ k ∈ pre.map (·.2), Apart ops k o /\ Before k o := by
    intro k hk
    obtain ⟨⟨j, k'⟩, hj, rfl⟩ := List.mem_map.1 hk
    have hji : j < i' := ((List.pairwise_append.1 hl.sorted).2.2) _ hj (i', o) (List.mem_cons_self ..)
    have hjk := hl.here (j, k') (by simp [hj])
    simp only at hjk
    have hju : listed.getD j true = false := (hl.mem j (by omega)).2 (by simp only [List.map_append, List.mem_append, List.mem_map]; exact .inl ⟨_, hj, rfl⟩)
    have hno (f : Nat) : reach ops f i' j = false := by
     cases hx : reach ops f i' j with
     | false => rfl
     | true =>
      have h1 := reach_listed hc f i' j (ready_deps hr) hx
      have hlt' : j < listed.size := by rw [hl.size]; omega
      simp [hlt'] at h1 hju
      rw [h1] at hju
      cases hju
    have hpair := (hall i' hlt).2 j hji
    simp only [pairB, ho, hjk, hno, Bool.or_false, Bool.false_or, Bool.and_eq_true] at hpair
    obtain ⟨hbe, hap⟩ := hpair
    obtain ⟨a1, a2, a3⟩ := Oper.apart_spec hap
    refine ⟨⟨a1, a3, a2, fun cs b => Region.noSelect_spec hsel j k' cs b hjk, fun cs b => Region.noSelect_spec hsel i' o cs b ho⟩, ?_⟩
    simp only [beforeB, Bool.or_eq_true, beq_iff_eq, Bool.and_eq_true, bne_iff_ne] at hbe
    rcases hbe with (hbe | hbe) | hbe
    ·exact .inl hbe
    ·exact .inr (.inl hbe)
    ·exact .inr (.inr hbe)
   have hst := pull (post := post.map (·.2)) hpre hi (by simpa using h)
   have hlen : (pre ++ post).length = n := by simp at hn ⊢; omega
   have next {a' : Act} {own' : List Nat} {F' : World -> Prop} {w' : World} (hi' : InvF S own' F') (hw' : F' w') (h' : WpF P ops S (fun a w => Q .normal a w) (pre.map (·.2) ++ post.map (·.2)) a' own' F') : wpAnyIn (Fence.wide.inRound r) m P .any ops Q n (listed.setIfInBounds i' true) a' w' :=
    ih (pre ++ post) _ a' own' F' w' hlen hl.take (hc.set hr) hi' hw' (by simpa using h')
   have hnd : ∀ c, o.op ≠ .defer c := noDefer_spec hD ho
   cases hst with
   | pure v hy h =>
    unfold wpOpIn
    simp only [ho]
    rcases hy with ⟨hwant, hv⟩ | ⟨hwant, rfl⟩
    ·rw [if_pos hwant]
     refine ⟨fun _ _ => trivial, ?_⟩
     rw [Oper.semAt_eq _ _ _ hnd, hv w (hi.held w hw)]
     exact next hi hw h
    ·rw [if_neg (by rw [hwant]; exact Bool.false_ne_true)]
     exact ⟨fun _ _ => trivial, next hi hw h⟩
   | flo hk hwant obj hrun h =>
    unfold wpOpIn
    simp only [ho, hwant, if_true]
    refine ⟨fun _ _ => trivial, ?_⟩
    rw [Oper.semAt_eq _ _ _ hnd, hrun w (hi.held w hw)]
    have hs : ∃ w' : World, F w' /\ w'.heap[w.heap.size]? = some obj := ⟨{ w with heap := w.heap.push obj }, hi.mono _ _ hw (below_push w obj), by simp⟩
    exact next (hi.flo obj _ hs) ⟨hi.mono _ _ hw (below_push w obj), by simp⟩ (h _ (fun hx => Nat.lt_irrefl _ (hi.own w hw _ hx)) hs)
   | eff hk hwant I sh T hm' hg h =>
    unfold wpOpIn
    simp only [ho, hwant, if_true]
    refine (hg w hw).wpIn hnd ?_
    rintro v w' ⟨t, rfl, hb, ht⟩
    have hs : ∃ w, F w /\ T t w := ⟨w', hi.mono _ _ hw hb, ht⟩
    exact next (hi.eff (hm' t) hs) ⟨hi.mono _ _ hw hb, ht⟩ (h t hs)
   | sto hk hwant I sh T hm' hs hg h =>
    unfold wpOpIn
    simp only [ho, hwant, if_true]
    refine (hg w hw).wpIn hnd ?_
    rintro v w' ⟨t, rfl, hb, ht⟩
    have hx : T t w' /\ ∀ g ∈ own, g < w'.heap.size := ⟨ht, fun g hg => Nat.lt_of_lt_of_le (hi.own w hw g hg) hb⟩
    exact next (InvF.sto (hm' t) (hs t) ⟨w', hx⟩) hx (h t ⟨w', hx⟩)
   | mu hk hwant B hB I sh T hm' hs hg h =>
    unfold wpOpIn
    simp only [ho, hwant, if_true]
    refine (hg w hw).wpIn hnd ?_
    rintro v w' ⟨t, rfl, hb, ht⟩
    have hx : T t w' /\ ∀ g ∈ own, g < w'.heap.size := ⟨ht, fun g hg => Nat.lt_of_lt_of_le (hi.own w hw g hg) hb.1⟩
    exact next (InvF.sto (hm' t) (hs t) ⟨w', hx⟩) hx (h t ⟨w', hx⟩)
end
theorem wpIn_region_FC {P : Program} {id r m : Nat} {l : List Oper} {Q : Exit -> Act -> World -> Prop} {a : Act} {w : World} (C : World -> Prop) (hm : P.follows .mixedOrders = true) (hB : floatB l.toArray = true) (hD : noDeferB l.toArray = true) (hC : C w)
  (hmono : ∀ W W', C W -> Below w.heap.size w W -> Below W.heap.size W W' -> C W')
  (h : WpF P l.toArray (fun W => Below w.heap.size w W /\ C W) (fun a w => Q .normal a w) l a (List.range w.heap.size) (fun W => Below w.heap.size w W /\ C W)) : (Code.region id l.toArray true).wpIn (Fence.wide.inRound r) m P Q a w := by
 refine wpIn_region_any hm ?_
 have hd : Below w.heap.size w { w with drawn := w.drawn + 1 } := ⟨rfl, rfl, rfl, Nat.le_refl _, fun _ _ => rfl⟩
 have hmono' : FMono (fun W => Below w.heap.size w W /\ C W) := fun W W' h hb => ⟨h.1.trans (hb.mono h.1.size), hmono W W' h.2 h.1 hb⟩
 have hlen : (l.zipIdx.map fun p => (p.2, p.1)).length = l.toArray.size := by simp
 have hw0 := hmono' w _ ⟨Below.refl _ _, hC⟩ hd
 refine wpAnyIn_of_F (S := fun W => Below w.heap.size w W /\ C W) hB hD _ (l.zipIdx.map fun p => (p.2, p.1)) _ a (List.range w.heap.size) _ _ hlen ⟨by simp, ?_, ?_, ?_⟩ ?_ ⟨hmono', fun _ h => h, fun W h g hg => Nat.lt_of_lt_of_le (List.mem_range.1 hg) h.1.size, ⟨_, hw0⟩⟩ hw0 ?_
 ·intro p hp
  obtain ⟨⟨o, i⟩, hx, rfl⟩ := List.mem_map.1 hp
  have := List.mem_zipIdx' hx
  simp [this.1, this.2]
 ·intro i hi
  have hi' : i < l.length := by simpa using hi
  simp only [List.map_map]
  constructor
  ·intro _
   refine List.mem_map.2 ⟨(l[i], i), ?_, rfl⟩
   rw [List.mem_zipIdx_iff_getElem?]
   simp [hi']
  ·intro _
   simp [hi']
 ·rw [List.pairwise_map, List.pairwise_iff_getElem]
  intro i j hi hj hij
  simpa using hij
 ·intro j hj
  rcases Nat.lt_or_ge j l.length with h' | h' <;> simp [h'] at hj
 ·have : (l.zipIdx.map fun p => (p.2, p.1)).map (·.2) = l := by simp [List.map_map, Function.comp_def, List.zipIdx_map_fst]
  rw [this]
  exact h
end Go.Proofs.YtighahcllmoajaaGreat
