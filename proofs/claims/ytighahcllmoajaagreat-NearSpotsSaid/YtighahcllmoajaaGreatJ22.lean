/- Contracts of functions of numbers for the kernel's walker. | Contracts of edge, by the kernel's walker. | Plain: numbers as rows of rational numbers that draw together, their order, and the roots of whole numbers. | Contracts: root.guarded, root.Sign. -/
import Derived.Test.YtighahcllmoajaaGreatJ15
import Derived.Test.YtighahcllmoajaaGreatJ20
import Derived.Test.YtighahcllmoajaaGreatJ21
import Derived.Test.YtighahcllmoajaaGreatJ01
import Derived.Test.YtighahcllmoajaaGreatJ05
set_option linter.unusedVariables false
set_option linter.unusedSimpArgs false

namespace Go.Proofs.YtighahcllmoajaaGreat
open Go.RowKit
abbrev NmV (n : Bool) (p : Option Addr) (l c : Nat) : Value := .agg #[.bool n, .slice p l c]
def nOfC (f : FuncId) (H : ∀ (z : Int) (w : World), -9223372036854775808 <= z -> z <= 9223372036854775807 -> Calls Tryz.prog f #[.int .i64 z] w (RetN w (ofZ z))) : Con where
 f := f
 g := fun | [⟨false, [.i z _]⟩] => some (.one (nmV (ofZ z)), []) | _ => none
 ok := by
  intro args res ps h _
  split at h <;> cases h
  intro W vals hv
  simp only [rvs_cons, rvs_nil, rv_i] at hv
  obtain ⟨_, ⟨⟨_, h1, h2⟩, rfl⟩, _, rfl, rfl⟩ := hv
  exact (H _ W h1 h2).mono fun _ _ h => gv_nm h
def nRightC (f : FuncId) (H : ∀ (a : Nm) (n : Bool) (p : Option Addr) (l c : Nat) (w : World), NR w n p l c a -> Calls Tryz.prog f #[NmV n p l c] w fun e w' => e = .returned (.bool a.right) /\ Ext w w') : Con where
 f := f
 g := fun | [⟨true, [.d (.num a)]⟩] => some (.one (blV a.right), []) | _ => none
 ok := by
  intro args res ps h _
  split at h <;> cases h
  intro W vals hv
  simp only [rvs_cons, rvs_nil, rv_t, rl_num, rl_nil] at hv
  obtain ⟨_, ⟨_, ⟨n, p, l, c, h1, _, rfl, rfl⟩, rfl⟩, _, rfl, rfl⟩ := hv
  exact (H _ _ _ _ _ W h1).mono fun _ _ h => gv_bl h
theorem two_nm {W : World} {a b : Nm} {vals : List Value} (hv : RepVs W W (fun _ => 0) 0 [⟨true, [.d (.num a)]⟩, ⟨true, [.d (.num b)]⟩] vals) : ∃ n p l c m q k d, vals = [NmV n p l c, NmV m q k d] /\ NR W n p l c a /\ NR W m q k d b := by
 simp only [rvs_cons, rvs_nil, rv_t, rl_num, rl_nil] at hv
 obtain ⟨_, ⟨_, ⟨n, p, l, c, h1, _, rfl, rfl⟩, rfl⟩, _, rfl, _, ⟨_, ⟨m, q, k, d, h2, _, rfl, rfl⟩, rfl⟩, _, rfl, rfl⟩ := hv
 exact ⟨n, p, l, c, m, q, k, d, rfl, h1, h2⟩
def nBinC (f : FuncId) (G : Nm -> Nm -> Nm × Bool) (S : Nm -> Nm -> List Prop) (H : ∀ (a b : Nm) (n m : Bool) (p q : Option Addr) (l c k d : Nat) (w : World), All (S a b) -> NR w n p l c a -> NR w m q k d b -> Calls Tryz.prog f #[NmV n p l c, NmV m q k d] w (RetNum w (G a b))) : Con where
 f := f
 g := fun | [⟨true, [.d (.num a)]⟩, ⟨true, [.d (.num b)]⟩] => some (.tup [nmV (G a b).1, blV (G a b).2], S a b) | _ => none
 ok := by
  intro args res ps h hp
  split at h <;> cases h
  intro W vals hv
  obtain ⟨_, _, _, _, _, _, _, _, rfl, h1, h2⟩ := two_nm hv
  exact (H _ _ _ _ _ _ _ _ _ _ W hp h1 h2).mono fun _ _ h => gv_nb h
theorem cmpP_b (a b : Nm) : (cmpP a b).natAbs <= 1 /\ I64 (cmpP a b) := by
 have h : -1 <= cmpP a b /\ cmpP a b <= 1 := by
  unfold cmpP
  split
  ·exact cmpZ_bd _ _
  ·omega
 exact ⟨by omega, by unfold I64; omega⟩
def nCmpC (f : FuncId) (H : ∀ (a b : Nm) (n m : Bool) (p q : Option Addr) (l c k d : Nat) (w : World), NR w n p l c a -> NR w m q k d b -> Calls Tryz.prog f #[NmV n p l c, NmV m q k d] w fun e w' => e = .returned (.int .i64 (cmpP a b)) /\ Ext w w') : Con where
 f := f
 g := fun | [⟨true, [.d (.num a)]⟩, ⟨true, [.d (.num b)]⟩] => some (.one (inV (cmpP a b) 1), []) | _ => none
 ok := by
  intro args res ps h _
  split at h <;> cases h
  intro W vals hv
  obtain ⟨_, _, _, _, _, _, _, _, rfl, h1, h2⟩ := two_nm hv
  exact (H _ _ _ _ _ _ _ _ _ _ W h1 h2).mono fun _ _ h => gv_in (cmpP_b _ _) h
def nDivC (f : FuncId) (H : ∀ (a b : Nm) (n m : Bool) (p q : Option Addr) (l c k d : Nat) (w : World), NR w n p l c a -> NR w m q k d b -> Calls Tryz.prog f #[NmV n p l c, NmV m q k d] w (RetDiv w (divP a b))) : Con where
 f := f
 g := fun | [⟨true, [.d (.num a)]⟩, ⟨true, [.d (.num b)]⟩] => some (.tup [nmV (divP a b).1, nmV (divP a b).2.1, blV (divP a b).2.2], []) | _ => none
 ok := by
  intro args res ps h _
  split at h <;> cases h
  intro W vals hv
  obtain ⟨_, _, _, _, _, _, _, _, rfl, h1, h2⟩ := two_nm hv
  refine (H _ _ _ _ _ _ _ _ _ _ W h1 h2).mono fun e w' h => ?_
  obtain ⟨n, p, l, c, m, q, k, d, rfl, h1, h2, _, _, h3⟩ := h
  exact ⟨_, rfl, ⟨[_, _, _], rfl, rvs_cons.2 ⟨_, rv_t.2 ⟨_, rl_num.2 ⟨n, p, l, c, h1, _, rfl, rfl⟩, rfl⟩, _, rfl, rvs_cons.2 ⟨_, rv_t.2 ⟨_, rl_num.2 ⟨m, q, k, d, h2, _, rfl, rfl⟩, rfl⟩, _, rfl, rvs_cons.2 ⟨_, rv_v.2 ⟨rfl, rfl⟩, _, rfl, rfl⟩⟩⟩⟩, h3⟩
theorem ofP_div {add s : Int} {n d : Nm} (hd : Dig d.d) (hb : ofBad s n d = false) (h0 : ¬ (s = 0 \/ n.z = 0)) :
  ofP add s n d = if 8 < max (divP n (gcdP n d).1).1.d.length (divP d (gcdP n d).1).1.d.length then (Rt.no, false) else (⟨add, s, (divP n (gcdP n d).1).1, (divP d (gcdP n d).1).1⟩, true) := by
 obtain ⟨s1, s2, rn, rd, nn, dp⟩ := ofBad_false hb
 have en := z_pos nn
 obtain ⟨ed, pd⟩ := d_pos dp
 have gp : 0 < Nat.gcd (val n.d) (val d.d) := Nat.gcd_pos_of_pos_right _ pd
 have rg : small ((Nat.gcd (val n.d) (val d.d) : Nat) : Int) = true := by
  refine small_of_le hd rd ?_
  rw [Int.natAbs_natCast]
  exact Nat.gcd_le_right _ pd
 rw [gcdP_right rn rd, divP_nm rn rg gp, divP_nm rd rg gp]
 unfold ofP gcdN
 rw [hb, if_neg (by simp), if_neg h0]
def cNRight : Con := nRightC 71 fun a _ _ _ _ w h => num_Right a _ _ _ _ w h
def cNCmp : Con := nCmpC 69 fun a b _ _ _ _ _ _ _ _ w h1 h2 => num_Cmp a b _ _ _ _ _ _ _ _ w h1 h2
def cNOf : Con := nOfC 63 fun z w h1 h2 => num_Of z w h1 h2
def cNGcd : Con := nBinC 73 gcdP (fun _ b => [b.right = true]) fun a b _ _ _ _ _ _ _ _ w h h1 h2 => gcd_all a b _ _ _ _ _ _ _ _ _ w h1 h2 h.1 rfl
def cNDiv : Con := nDivC 74 fun a b _ _ _ _ _ _ _ _ w h1 h2 => div_all a b _ _ _ _ _ _ _ _ _ w h1 h2 rfl
def cRSign : Con where
 f := 72
 g := fun | [⟨true, [.d (.num a)]⟩] => some (.one (inV (sgn a.z) 1), [a.right = true]) | _ => none
 ok := by
  intro args res ps h hp
  split at h <;> cases h
  rename_i a
  intro W vals hv
  simp only [rvs_cons, rvs_nil, rv_t, rl_num, rl_nil] at hv
  obtain ⟨_, ⟨_, ⟨n, p, l, c, h1, _, rfl, rfl⟩, rfl⟩, _, rfl, rfl⟩ := hv
  refine (root_sign _ _ _ _ _ W h1 hp.1).mono fun _ _ h => gv_in ?_ h
  have := sgn_bd a.z
  exact ⟨by omega, by unfold I64; omega⟩
def KNm : List Con := [cNRight, cNOf, cNGcd, cNDiv, cRSign]
end Go.Proofs.YtighahcllmoajaaGreat

set_option maxRecDepth 100000
namespace Go.Proofs.YtighahcllmoajaaGreat
open Go.RowKit
theorem lim64 {z : Int} (h : I64 z) : z.natAbs <= lim /\ I64 z := ⟨by unfold I64 at h; unfold lim; omega, h⟩
def c26 : Nat := 67108864
def edV (e : Ed) (K B : Nat) : V1 := ⟨true, [.i e.k K, .i e.ax B, .i e.ay B, .i e.bx B, .i e.by' B, .i e.cx B, .i e.cy B]⟩
def toEd : List It -> Option Ed
 | [.i k _, .i ax _, .i ay _, .i bx _, .i by' _, .i cx _, .i cy _] => some ⟨k, ax, ay, bx, by', cx, cy⟩
 | _ => none
theorem toEd_rep {l : List It} {e : Ed} {V W : World} {r : Nat -> Nat} {k : Nat} {x : Value} (h : toEd l = some e) (hr : RepV V W r k ⟨true, l⟩ x) :
  x = .agg #[.int .i64 e.k, .int .i64 e.ax, .int .i64 e.ay, .int .i64 e.bx, .int .i64 e.by', .int .i64 e.cx, .int .i64 e.cy] := by
 unfold toEd at h
 split at h <;> cases h
 simp only [rv_t, rl_i, rl_nil] at hr
 obtain ⟨_, ⟨_, _, rfl, _, _, rfl, _, _, rfl, _, _, rfl, _, _, rfl, _, _, rfl, _, _, rfl, rfl⟩, rfl⟩ := hr
 rfl
def cVRight : Con where
 f := 42
 g := fun | [⟨true, [.i x _, .i y _]⟩] => some (.one (blV (coordB x y)), []) | _ => none
 ok := by
  intro args res ps h _
  split at h <;> cases h
  intro W vals hv
  simp only [rvs_cons, rvs_nil, rv_t, rl_i, rl_nil] at hv
  obtain ⟨_, ⟨_, ⟨_, _, rfl, _, _, rfl, rfl⟩, rfl⟩, _, rfl, rfl⟩ := hv
  exact (vec_Right _ _ W).mono fun _ _ h => gv_bl h
def cTurns : Con where
 f := 124
 g := fun | [⟨true, [.i _ _, .i _ _, .i n _, .v (.bool _)]⟩] => if 0 <= n /\ n <= 3 then some (.one ⟨false, [.k n]⟩, []) else none | _ => none
 ok := by
  intro args res ps h hp
  split at h <;> try cases h
  split at h <;> cases h
  rename_i hn
  intro W vals hv
  simp only [rvs_cons, rvs_nil, rv_t, rl_i, rl_v, rl_nil] at hv
  obtain ⟨_, ⟨_, ⟨_, _, rfl, _, _, rfl, _, _, rfl, _, _, rfl, rfl⟩, rfl⟩, _, rfl, rfl⟩ := hv
  exact (vec_turns _ _ _ _ W hn).mono fun _ _ h => ⟨_, h.1, RepI.val (i := .k _) ⟨rfl, by unfold I64; omega⟩, h.2⟩
theorem i64_0 : I64 0 := by unfold I64; omega
abbrev pT {b : Bool} (h : b = true) : Pf := ⟨b = true, h⟩
abbrev pF {b : Bool} (h : b = false) : Pf := ⟨b = false, h⟩
abbrev pP {p : Prop} (h : p) : Pf := ⟨p, h⟩
theorem gt_T {a b : Int} (h : b < a) : decide (a > b) = true := by simpa using h
theorem gt_F {a b : Int} (h : ¬ b < a) : decide (a > b) = false := by simpa using h
theorem ne_T {a b : Int} (h : a ≠ b) : (a != b) = true := by simpa using h
theorem ne_F {a b : Int} (h : ¬ a ≠ b) : (a != b) = false := by simpa using h
theorem bq_T {a b : Int} (h : a = b) : (a == b) = true := by simpa using h
theorem bq_F {a b : Int} (h : ¬ a = b) : (a == b) = false := by simpa using h
theorem co_b {x : Int} (h : Co x) : x.natAbs <= c26 /\ I64 x := by unfold Co at h; unfold c26 I64; omega
theorem edV_rep {V W : World} {r : Nat -> Nat} {k : Nat} {e : Ed} (h : e.ok = true) : RepV V W r k (edV e 3 c26) (.agg #[.int .i64 e.k, .int .i64 e.ax, .int .i64 e.ay, .int .i64 e.bx, .int .i64 e.by', .int .i64 e.cx, .int .i64 e.cy]) := by
 obtain ⟨⟨h1, h2⟩, ⟨h3, h4⟩, h5, h6⟩ := ok_right h
 have hk := kind_of h
 exact rv_t.2 ⟨_, rl_i.2 ⟨⟨by omega, by unfold I64; omega⟩, _, rfl, rl_i.2 ⟨co_b h1, _, rfl, rl_i.2 ⟨co_b h2, _, rfl, rl_i.2 ⟨co_b h3, _, rfl, rl_i.2 ⟨co_b h4, _, rfl, rl_i.2 ⟨co_b h5, _, rfl, rl_i.2 ⟨co_b h6, _, rfl, rfl⟩⟩⟩⟩⟩⟩⟩, rfl⟩
theorem famk_b {e : Ed} (h : e.ok = true) : (fam e.k).k.natAbs <= 3 /\ I64 (fam e.k).k := by
 rcases kind_of h with h | h | h <;> rw [h] <;> exact ⟨by decide, by unfold I64; decide⟩
def lowI (B : Nat) : List It -> List Int -> Bool
 | [], [] => true
 | .i _ A :: l, _ :: r => decide (A <= B) && lowI B l r
 | _, _ => false
theorem pt_low {V W : World} {r : Nat -> Nat} {k : Nat} {x y : Int} {A B C : Nat} (h1 : A <= C) (h2 : B <= C) : ∀ v, RepV V W r k ⟨true, [.i x A, .i y B]⟩ v -> RepV V W r k (ptV x y C) v := by
 intro v h
 simp only [rv_t, rl_i, rl_nil] at h
 obtain ⟨_, ⟨⟨a1, a2⟩, _, rfl, ⟨b1, b2⟩, _, rfl, rfl⟩, rfl⟩ := h
 exact rv_t.2 ⟨_, rl_i.2 ⟨⟨Nat.le_trans a1 h1, a2⟩, _, rfl, rl_i.2 ⟨⟨Nat.le_trans b1 h2, b2⟩, _, rfl, rfl⟩⟩, rfl⟩
theorem pt_lim {V W : World} {r : Nat -> Nat} {k : Nat} {x y : Int} {A B : Nat} : ∀ v, RepV V W r k ⟨true, [.i x A, .i y B]⟩ v -> RepV V W r k (ptV x y lim) v := by
 intro v h
 simp only [rv_t, rl_i, rl_nil] at h
 obtain ⟨_, ⟨⟨a1, a2⟩, _, rfl, ⟨b1, b2⟩, _, rfl, rfl⟩, rfl⟩ := h
 exact rv_t.2 ⟨_, rl_i.2 ⟨lim64 a2, _, rfl, rl_i.2 ⟨lim64 b2, _, rfl, rfl⟩⟩, rfl⟩
theorem pt_co {V W : World} {r : Nat -> Nat} {k : Nat} {x y : Int} {A B : Nat} (h : Co x /\ Co y) : ∀ v, RepV V W r k ⟨true, [.i x A, .i y B]⟩ v -> RepV V W r k (ptV x y c26) v := by
 intro v hv
 simp only [rv_t, rl_i, rl_nil] at hv
 obtain ⟨_, ⟨⟨a1, a2⟩, _, rfl, ⟨b1, b2⟩, _, rfl, rfl⟩, rfl⟩ := hv
 exact rv_t.2 ⟨_, rl_i.2 ⟨co_b h.1, _, rfl, rl_i.2 ⟨co_b h.2, _, rfl, rfl⟩⟩, rfl⟩
theorem checkZ_64 (e : Ed) : (checkZ e).natAbs <= 11 /\ I64 (checkZ e) := by
 unfold checkZ I64
 (repeat' split) <;> decide
theorem Fok.pre {f : FuncId} {args args' : List V1} {res : AV} (h : Fok Tryz.prog f args' res) (hr : ∀ W vals, RepVs W W (fun _ => 0) 0 args vals -> RepVs W W (fun _ => 0) 0 args' vals) : Fok Tryz.prog f args res :=
 fun W vals hv => h W vals (hr W vals hv)
theorem rvs_1 {V W : World} {r : Nat -> Nat} {k : Nat} {a b : V1} {l m : List V1} (h : ∀ x, RepV V W r k a x -> RepV V W r k b x) (g : ∀ xs, RepVs V W r k l xs -> RepVs V W r k m xs) : ∀ xs, RepVs V W r k (a :: l) xs -> RepVs V W r k (b :: m) xs :=
 fun _ ⟨x, ys, e, h1, h2⟩ => ⟨x, ys, e, h x h1, g ys h2⟩
theorem rvs_0 {V W : World} {r : Nat -> Nat} {k : Nat} : ∀ xs, RepVs V W r k [] xs -> RepVs V W r k [] xs := fun _ h => h
theorem ed_bd {V W : World} {r : Nat -> Nat} {k : Nat} {l : List It} {e : Ed} {K B : Nat} (he : toEd l = some e) (h1 : I64 e.k -> e.k.natAbs <= K) (h2 : ∀ z ∈ [e.ax, e.ay, e.bx, e.by', e.cx, e.cy], I64 z -> z.natAbs <= B) : ∀ v, RepV V W r k ⟨true, l⟩ v -> RepV V W r k (edV e K B) v := fun v hr => by
 unfold toEd at he
 split at he <;> cases he
 simp only [rv_t, rl_i, rl_nil] at hr
 obtain ⟨_, ⟨⟨_, i0⟩, _, rfl, ⟨_, i1⟩, _, rfl, ⟨_, i2⟩, _, rfl, ⟨_, i3⟩, _, rfl, ⟨_, i4⟩, _, rfl, ⟨_, i5⟩, _, rfl, ⟨_, i6⟩, _, rfl, rfl⟩, rfl⟩ := hr
 exact rv_t.2 ⟨_, rl_i.2 ⟨⟨h1 i0, i0⟩, _, rfl, rl_i.2 ⟨⟨h2 _ (by simp) i1, i1⟩, _, rfl, rl_i.2 ⟨⟨h2 _ (by simp) i2, i2⟩, _, rfl, rl_i.2 ⟨⟨h2 _ (by simp) i3, i3⟩, _, rfl, rl_i.2 ⟨⟨h2 _ (by simp) i4, i4⟩, _, rfl, rl_i.2 ⟨⟨h2 _ (by simp) i5, i5⟩, _, rfl, rl_i.2 ⟨⟨h2 _ (by simp) i6, i6⟩, _, rfl, rfl⟩⟩⟩⟩⟩⟩⟩, rfl⟩
theorem ed_lim {V W : World} {r : Nat -> Nat} {k : Nat} {l : List It} {e : Ed} (he : toEd l = some e) : ∀ v, RepV V W r k ⟨true, l⟩ v -> RepV V W r k (edV e lim lim) v :=
 ed_bd he (fun h => (lim64 h).1) (fun z _ h => (lim64 h).1)
theorem ed_rt {V W : World} {r : Nat -> Nat} {k : Nat} {l : List It} {e : Ed} (he : toEd l = some e) (h : e.right = true) : ∀ v, RepV V W r k ⟨true, l⟩ v -> RepV V W r k (edV e lim c26) v := by
 simp only [Ed.right, Bool.and_eq_true, coordB_iff, Co] at h
 refine ed_bd he (fun h => (lim64 h).1) (fun z hz _ => ?_)
 unfold c26
 simp only [List.mem_cons, List.not_mem_nil, or_false] at hz
 rcases hz with rfl | rfl | rfl | rfl | rfl | rfl <;> omega
theorem ed_ok {V W : World} {r : Nat -> Nat} {k : Nat} {l : List It} {e : Ed} (he : toEd l = some e) (h : e.ok = true) : ∀ v, RepV V W r k ⟨true, l⟩ v -> RepV V W r k (edV e 3 c26) v := by
 have hk := kind_of h
 have hr : e.right = true := by simp only [Ed.ok, Bool.and_eq_true] at h; exact h.1
 simp only [Ed.right, Bool.and_eq_true, coordB_iff, Co] at hr
 refine ed_bd he (fun _ => by omega) (fun z hz _ => ?_)
 unfold c26
 simp only [List.mem_cons, List.not_mem_nil, or_false] at hz
 rcases hz with rfl | rfl | rfl | rfl | rfl | rfl <;> omega
theorem toEd_V (e : Ed) (K B : Nat) : toEd (edV e K B).l = some e := rfl
def famV (k : Int) : V1 := ⟨true, [.v (fam k).c, .v (fam k).o, .v (fam k).r, .i (fam k).k lim]⟩
def KO : List Con := [cVRight, cTurns]
theorem of_1 (e : Ed) (hk : e.k = 1) : Fok Tryz.prog 75 [edV e lim lim] (.tup [famV e.k, blV e.ok]) := by
 have k1 : (e.k == 1) = true := by simp [hk]
 rw [show famV e.k = famV 1 by rw [hk]]
 cases hA : coordB e.ax e.ay with
 | false =>
  rw [show e.ok = false by simp [Ed.ok, Ed.right, hA]]
  exact fok KO [true, false] [pT k1, pF hA] (by kernel_rfl)
 | true =>
  cases hB : coordB e.bx e.by' with
  | false =>
   rw [show e.ok = false by simp [Ed.ok, Ed.right, hB]]
   exact fok KO [true, true, false] [pT k1, pT hA, pF hB] (by kernel_rfl)
  | true =>
   cases hC : coordB e.cx e.cy with
   | false =>
    rw [show e.ok = false by simp [Ed.ok, Ed.right, hC]]
    exact fok KO [true, true, true, false] [pT k1, pT hA, pT hB, pF hC] (by kernel_rfl)
   | true =>
    rw [show e.ok = (e.cx == 0 && e.cy == 0) by simp [Ed.ok, Ed.right, Ed.lone, hA, hB, hC, hk]]
    exact fok KO [true, true, true, true] [pT k1, pT hA, pT hB, pT hC] (by kernel_rfl)
theorem of_2 (e : Ed) (hk : e.k = 2) : Fok Tryz.prog 75 [edV e lim lim] (.tup [famV e.k, blV e.ok]) := by
 have k1 : (e.k == 1) = false := by simp [hk]
 have k2 : (e.k == 2) = true := by simp [hk]
 rw [show famV e.k = famV 2 by rw [hk]]
 cases hA : coordB e.ax e.ay with
 | false =>
  rw [show e.ok = false by simp [Ed.ok, Ed.right, hA]]
  exact fok KO [false, true, false] [pF k1, pT k2, pF hA] (by kernel_rfl)
 | true =>
  cases hB : coordB e.bx e.by' with
  | false =>
   rw [show e.ok = false by simp [Ed.ok, Ed.right, hB]]
   exact fok KO [false, true, true, false] [pF k1, pT k2, pT hA, pF hB] (by kernel_rfl)
  | true =>
   cases hC : coordB e.cx e.cy with
   | false =>
    rw [show e.ok = false by simp [Ed.ok, Ed.right, hC]]
    exact fok KO [false, true, true, true, false] [pF k1, pT k2, pT hA, pT hB, pF hC] (by kernel_rfl)
   | true =>
    refine Fok.pre ?_ fun W => rvs_1 (ed_rt (toEd_V e lim lim) (by simp [Ed.right, hA, hB, hC])) rvs_0
    have E : e.ok = ((!((e.ax - e.cx == 0) == (e.ay - e.cy == 0))) && (e.bx - e.cx == 0 - (e.ay - e.cy) + 0 && e.by' - e.cy == e.ax - e.cx + 0)) := by
     rw [show 0 - (e.ay - e.cy) + 0 = (rot 1 (e.ax - e.cx, e.ay - e.cy)).1 by simp [rot], show e.ax - e.cx + 0 = (rot 1 (e.ax - e.cx, e.ay - e.cy)).2 by simp [rot]]
     simp [Ed.ok, Ed.right, Ed.quarter, quarterB, hA, hB, hC, hk, bne]
    cases hq : (!((e.ax - e.cx == 0) == (e.ay - e.cy == 0))) with
    | false =>
     rw [E, hq, Bool.false_and]
     exact fok KO [false, true, true, true, true, false] [pF k1, pT k2, pT hA, pT hB, pT hC, pF hq] (by kernel_rfl)
    | true =>
     rw [E, hq, Bool.true_and]
     exact fok KO [false, true, true, true, true, true] [pF k1, pT k2, pT hA, pT hB, pT hC, pT hq] (by kernel_rfl)
theorem of_3 (e : Ed) (hk : e.k = 3) : Fok Tryz.prog 75 [edV e lim lim] (.tup [famV e.k, blV e.ok]) := by
 have k1 : (e.k == 1) = false := by simp [hk]
 have k2 : (e.k == 2) = false := by simp [hk]
 have k3 : (e.k == 3) = true := by simp [hk]
 rw [show famV e.k = famV 3 by rw [hk]]
 cases hA : coordB e.ax e.ay with
 | false =>
  rw [show e.ok = false by simp [Ed.ok, Ed.right, hA]]
  exact fok KO [false, false, true, false] [pF k1, pF k2, pT k3, pF hA] (by kernel_rfl)
 | true =>
  cases hB : coordB e.bx e.by' with
  | false =>
   rw [show e.ok = false by simp [Ed.ok, Ed.right, hB]]
   exact fok KO [false, false, true, true, false] [pF k1, pF k2, pT k3, pT hA, pF hB] (by kernel_rfl)
  | true =>
   cases hC : coordB e.cx e.cy with
   | false =>
    rw [show e.ok = false by simp [Ed.ok, Ed.right, hC]]
    exact fok KO [false, false, true, true, true, false] [pF k1, pF k2, pT k3, pT hA, pT hB, pF hC] (by kernel_rfl)
   | true =>
    refine Fok.pre ?_ fun W => rvs_1 (ed_rt (toEd_V e lim lim) (by simp [Ed.right, hA, hB, hC])) rvs_0
    have E : e.ok = ((!((e.ax - e.cx == 0) == (e.ay - e.cy == 0))) && (e.bx - e.cx == 0 - (0 - (e.ay - e.cy)) + 0 && e.by' - e.cy == 0 - (e.ax - e.cx) + 0)) := by
     rw [show 0 - (0 - (e.ay - e.cy)) + 0 = (rot 3 (e.ax - e.cx, e.ay - e.cy)).1 by simp [rot], show 0 - (e.ax - e.cx) + 0 = (rot 3 (e.ax - e.cx, e.ay - e.cy)).2 by simp [rot]]
     simp [Ed.ok, Ed.right, Ed.quarter, quarterB, hA, hB, hC, hk, bne]
    cases hq : (!((e.ax - e.cx == 0) == (e.ay - e.cy == 0))) with
    | false =>
     rw [E, hq, Bool.false_and]
     exact fok KO [false, false, true, true, true, true, false] [pF k1, pF k2, pT k3, pT hA, pT hB, pT hC, pF hq] (by kernel_rfl)
    | true =>
     rw [E, hq, Bool.true_and]
     exact fok KO [false, false, true, true, true, true, true] [pF k1, pF k2, pT k3, pT hA, pT hB, pT hC, pT hq] (by kernel_rfl)
theorem of_0 (e : Ed) (h1 : ¬ e.k = 1) (h2 : ¬ e.k = 2) (h3 : ¬ e.k = 3) : Fok Tryz.prog 75 [edV e lim lim] (.tup [famV e.k, blV e.ok]) := by
 have k1 : (e.k == 1) = false := by simpa using h1
 have k2 : (e.k == 2) = false := by simpa using h2
 have k3 : (e.k == 3) = false := by simpa using h3
 rw [show e.ok = false by simp [Ed.ok, h1, h2, h3]]
 unfold famV
 rw [kindB_fam (k := e.k) (by simp [kindB, h1, h2, h3])]
 exact fok KO [false, false, false] [pF k1, pF k2, pF k3] (by kernel_rfl)
def cOfE : Con where
 f := 75
 g := fun | [⟨true, l⟩] => (toEd l).map fun e => (.tup [famV e.k, blV e.ok], []) | _ => none
 ok := by
  intro args res ps h hp
  split at h <;> try cases h
  rename_i l
  cases he : toEd l with
  | none => simp [he] at h
  | some e =>
   simp only [he, Option.map_some, Option.some.injEq, Prod.mk.injEq] at h
   obtain ⟨rfl, rfl⟩ := h
   refine Fok.pre ?_ fun W => rvs_1 (ed_lim he) rvs_0
   by_cases h1 : e.k = 1
   ·exact of_1 e h1
   by_cases h2 : e.k = 2
   ·exact of_2 e h2
   by_cases h3 : e.k = 3
   ·exact of_3 e h3
   ·exact of_0 e h1 h2 h3
theorem rad_b {e : Ed} (h : e.ok = true) : (radZ e).natAbs <= 134217728 /\ I64 (radZ e) := by
 have h1 := rad_le h
 by_cases hk : e.k = 1
 ·rw [radZ_line hk]; exact ⟨by decide, i64_0⟩
 ·have := rad_pos h hk
  exact ⟨by omega, by unfold I64; omega⟩
theorem chk_F {e : Ed} (h : e.ok = true) : (checkZ e != 0) = false := by rw [checkZ_z h]; rfl
theorem chk_T {e : Ed} (h : e.ok = false) : (checkZ e != 0) = true := by have := checkZ_nz h; simpa using this
theorem ge_T {a b : Int} (h : b <= a) : decide (a ≥ b) = true := by simpa using h
theorem ge_F {a b : Int} (h : ¬ b <= a) : decide (a ≥ b) = false := by simpa using h
theorem not_T {b : Bool} (h : b = false) : (!b) = true := by rw [h]; rfl
theorem not_F {b : Bool} (h : b = true) : (!b) = false := by rw [h]; rfl
theorem check_ok (e : Ed) : Fok Tryz.prog 41 [edV e lim lim] (.one (inV (checkZ e) lim)) := by
 cases ho : e.ok with
 | true =>
  rw [checkZ_z ho]
  exact fok [cOfE] [true] [pT ho] (by kernel_rfl)
 | false =>
  by_cases h1 : 1 <= e.k
  rotate_left
  ·rw [checkZ_11a ho h1]
   exact fok [cOfE] [false, false] [pF ho, pF (ge_F h1)] (by kernel_rfl)
  by_cases h3 : e.k <= 3
  rotate_left
  ·rw [checkZ_11b ho h3]
   exact fok [cOfE] [false, true, false] [pF ho, pT (ge_T h1), pF (decide_eq_false h3)] (by kernel_rfl)
  have d3 := decide_eq_true h3
  cases hA : coordB e.ax e.ay with
  | false =>
   rw [checkZ_10 ho h1 h3 (.inl hA)]
   exact fok [cOfE, cVRight] [false, true, true, false] [pF ho, pT (ge_T h1), pT d3, pF hA] (by kernel_rfl)
  | true =>
   cases hB : coordB e.bx e.by' with
   | false =>
    rw [checkZ_10 ho h1 h3 (.inr (.inl hB))]
    exact fok [cOfE, cVRight] [false, true, true, true, false] [pF ho, pT (ge_T h1), pT d3, pT hA, pF hB] (by kernel_rfl)
   | true =>
    cases hC : coordB e.cx e.cy with
    | false =>
     rw [checkZ_10 ho h1 h3 (.inr (.inr hC))]
     exact fok [cOfE, cVRight] [false, true, true, true, true, true] [pF ho, pT (ge_T h1), pT d3, pT hA, pT hB, pT (not_T hC)] (by kernel_rfl)
    | true =>
     rw [checkZ_11c ho hA hB hC]
     exact fok [cOfE, cVRight] [false, true, true, true, true, false] [pF ho, pT (ge_T h1), pT d3, pT hA, pT hB, pF (not_F hC)] (by kernel_rfl)
theorem Fok.bd {f : FuncId} {args : List V1} {z : Int} {B : Nat} (h : Fok Tryz.prog f args (.one (inV z lim))) (hB : z.natAbs <= B) : Fok Tryz.prog f args (.one (inV z B)) :=
 h.mono fun W x hx => rv_i.2 ⟨⟨hB, (rv_i.1 hx).1.2⟩, (rv_i.1 hx).2⟩
def cChk : Con where
 f := 41
 g := fun | [⟨true, l⟩] => (toEd l).map fun e => (.one (inV (checkZ e) 11), []) | _ => none
 ok := by
  intro args res ps h _
  split at h <;> try cases h
  rename_i l
  cases he : toEd l with
  | none => simp [he] at h
  | some e =>
   simp only [he, Option.map_some, Option.some.injEq, Prod.mk.injEq] at h
   obtain ⟨rfl, rfl⟩ := h
   exact ((check_ok e).bd (checkZ_64 e).1).pre fun W => rvs_1 (ed_lim he) rvs_0
theorem radZ_arc {e : Ed} (h : e.ok = true) (hk : (e.k == 1) = false) : radZ e = max (max (e.ax - e.cx) (0 - (e.ax - e.cx))) (max (e.ay - e.cy) (0 - (e.ay - e.cy))) := by
 unfold radZ
 rw [h, hk, Int.zero_sub, Int.zero_sub]
 rfl
theorem radius_ok (e : Ed) (ho : e.ok = true) : Fok Tryz.prog 29 [edV e 3 c26] (.one (inV (radZ e) lim)) := by
 cases hk : (e.k == 1) with
 | true =>
  rw [radZ_line (by simpa using hk)]
  exact fok [cOfE] [false, true] [pF (not_F ho), pT hk] (by kernel_rfl)
 | false =>
  rw [radZ_arc ho hk]
  exact fok [cOfE] [false, false] [pF (not_F ho), pF hk] (by kernel_rfl)
def cRad : Con where
 f := 29
 g := fun | [⟨true, l⟩] => (toEd l).map fun e => (.one (inV (radZ e) 134217728), [e.ok = true]) | _ => none
 ok := by
  intro args res ps h hp
  split at h <;> try cases h
  rename_i l
  cases he : toEd l with
  | none => simp [he] at h
  | some e =>
   simp only [he, Option.map_some, Option.some.injEq, Prod.mk.injEq] at h
   obtain ⟨rfl, rfl⟩ := h
   exact ((radius_ok e hp.1).bd (rad_b hp.1).1).pre fun W => rvs_1 (ed_ok he hp.1) rvs_0
theorem reverse_ok (e : Ed) : Fok Tryz.prog 32 [edV e 3 c26] (.one (edV (revE e) lim lim)) := fok [cOfE] [] [] (by kernel_rfl)
def cRev : Con where
 f := 32
 g := fun | [⟨true, l⟩] => (toEd l).map fun e => (.one (edV (revE e) 3 c26), [e.ok = true]) | _ => none
 ok := by
  intro args res ps h hp
  split at h <;> try cases h
  rename_i l
  cases he : toEd l with
  | none => simp [he] at h
  | some e =>
   simp only [he, Option.map_some, Option.some.injEq, Prod.mk.injEq] at h
   obtain ⟨rfl, rfl⟩ := h
   refine ((reverse_ok e).mono fun W x hx => ?_).pre fun W => rvs_1 (ed_ok he hp.1) rvs_0
   obtain ⟨⟨h1, h2⟩, ⟨h3, h4⟩, h5, h6⟩ := ok_right hp.1
   refine ed_bd (toEd_V (revE e) lim lim) (fun _ => (famk_b hp.1).1) (fun z hz _ => ?_) x hx
   have := (co_b h1).1; have := (co_b h2).1; have := (co_b h3).1; have := (co_b h4).1; have := (co_b h5).1; have := (co_b h6).1
   simp only [revE, List.mem_cons, List.not_mem_nil, or_false] at hz
   rcases hz with rfl | rfl | rfl | rfl | rfl | rfl <;> assumption
end Go.Proofs.YtighahcllmoajaaGreat

namespace Go.Proofs.YtighahcllmoajaaGreat
theorem rat_tot (a b : Rat) : a <= b \/ b <= a := Rat.le_total
theorem rat_div {a b : Rat} (ha : 0 < a) (hb : 0 < b) : 0 < a / b := by rw [Rat.div_def]; exact Rat.mul_pos ha (Rat.inv_pos.2 hb)
structure Re where
 f : Nat -> Rat
 c : ∀ e : Rat, 0 < e -> ∃ N, ∀ j k, N <= j -> N <= k -> f j - f k <= e
theorem Re.bd (x : Re) : ∃ (B : Rat) (N : Nat), 0 < B /\ ∀ k, N <= k -> -B <= x.f k /\ x.f k <= B := by
 obtain ⟨N, h⟩ := x.c 1 (by decide)
 refine ⟨(if 0 <= x.f N then x.f N else -x.f N) + 1, N, ?_, fun k hk => ?_⟩
 ·split <;> grind
 ·have h1 := h k N hk (Nat.le_refl _)
  have h2 := h N k (Nat.le_refl _) hk
  split <;> grind
def Re.int (z : Int) : Re := ⟨fun _ => (z : Rat), fun e he => ⟨0, fun j k _ _ => by grind⟩⟩
def Re.add (x y : Re) : Re := ⟨fun k => x.f k + y.f k, fun e he => by
 obtain ⟨N, h⟩ := x.c (e / 2) (by grind)
 obtain ⟨M, g⟩ := y.c (e / 2) (by grind)
 refine ⟨N + M, fun j k hj hk => ?_⟩
 have h1 := h j k (by omega) (by omega)
 have h2 := g j k (by omega) (by omega)
 grind⟩
def Re.neg (x : Re) : Re := ⟨fun k => -x.f k, fun e he => by
 obtain ⟨N, h⟩ := x.c e he
 exact ⟨N, fun j k hj hk => by have h1 := h k j hk hj; grind⟩⟩
theorem rmul_bd {a b B e : Rat} (hB : 0 < B) (h1 : -B <= a) (h2 : a <= B) (h3 : -e <= b) (h4 : b <= e) : a * b <= B * e := by
 have he : 0 <= e := by grind
 rcases rat_tot 0 a with h | h
 ·have k1 := Rat.mul_le_mul_of_nonneg_left h4 h
  have k2 := Rat.mul_le_mul_of_nonneg_right h2 he
  grind
 ·have k1 := Rat.mul_le_mul_of_nonneg_left h3 (show 0 <= -a by grind)
  have k2 := Rat.mul_le_mul_of_nonneg_right (show -a <= B by grind) he
  grind
def Re.mul (x y : Re) : Re := ⟨fun k => x.f k * y.f k, fun e he => by
 obtain ⟨B, N, hB, hb⟩ := x.bd
 obtain ⟨C, M, hC, hc⟩ := y.bd
 have e1 : 0 < e / (2 * B) := rat_div he (by grind)
 have e2 : 0 < e / (2 * C) := rat_div he (by grind)
 obtain ⟨K, h⟩ := x.c _ e2
 obtain ⟨L, g⟩ := y.c _ e1
 refine ⟨N + M + K + L, fun j k hj hk => ?_⟩
 have b1 := hb j (by omega)
 have b2 := hc k (by omega)
 have h1 := h j k (by omega) (by omega)
 have h2 := h k j (by omega) (by omega)
 have g1 := g j k (by omega) (by omega)
 have g2 := g k j (by omega) (by omega)
 have m1 := rmul_bd (e := e / (2 * B)) hB b1.1 b1.2 (show _ <= y.f j - y.f k by grind) g1
 have m2 := rmul_bd (e := e / (2 * C)) hC b2.1 b2.2 (show _ <= x.f j - x.f k by grind) h1
 have q1 : B * (e / (2 * B)) = e / 2 := by grind
 have q2 : C * (e / (2 * C)) = e / 2 := by grind
 grind⟩
def nn (x : Re) : Prop := ∀ e : Rat, 0 < e -> ∃ N, ∀ k, N <= k -> -e <= x.f k
theorem nn_eq {x y : Re} (h : nn x) (e : ∀ k, x.f k = y.f k) : nn y := fun d hd => by
 obtain ⟨N, g⟩ := h d hd
 exact ⟨N, fun k hk => by rw [<- e]; exact g k hk⟩
theorem nn_of {x : Re} (h : ∀ k, 0 <= x.f k) : nn x := fun d hd => ⟨0, fun k _ => by have := h k; grind⟩
theorem nn_add {x y : Re} (h : nn x) (g : nn y) : nn (x.add y) := fun e he => by
 obtain ⟨N, h⟩ := h (e / 2) (by grind)
 obtain ⟨M, g⟩ := g (e / 2) (by grind)
 refine ⟨N + M, fun k hk => ?_⟩
 have h1 := h k (by omega)
 have h2 := g k (by omega)
 show -e <= x.f k + y.f k
 grind
def ps (x : Re) : Prop := ∃ (e : Rat) (N : Nat), 0 < e /\ ∀ k, N <= k -> e <= x.f k
theorem ps_nn {x : Re} (h : ps x) : nn x := fun e he => by
 obtain ⟨d, N, hd, h⟩ := h
 exact ⟨N, fun k hk => by have := h k hk; grind⟩
theorem ps_not {x : Re} (h : ps x) : ¬ nn x.neg := fun g => by
 obtain ⟨d, N, hd, h⟩ := h
 obtain ⟨M, g⟩ := g (d / 2) (by grind)
 have h1 := h (N + M) (by omega)
 have h2 := g (N + M) (by omega)
 have h3 : -(d / 2) <= -x.f (N + M) := h2
 grind
theorem ps_of {x : Re} (h : ¬ nn x.neg) : ps x := by
 have : ∃ e : Rat, 0 < e /\ ∀ N, ∃ k, N <= k /\ e < x.f k := by
  apply Classical.byContradiction
  intro hn
  apply h
  intro e he
  apply Classical.byContradiction
  intro h2
  apply hn
  refine ⟨e, he, fun N => ?_⟩
  apply Classical.byContradiction
  intro h3
  apply h2
  refine ⟨N, fun k hk => ?_⟩
  show -e <= -x.f k
  rcases rat_tot (x.f k) e with g | g
  ·grind
  ·rcases Rat.le_iff_lt_or_eq.1 g with g | g
   ·exact absurd ⟨k, hk, g⟩ h3
   ·grind
 obtain ⟨e, he, h⟩ := this
 obtain ⟨N, g⟩ := x.c (e / 2) (by grind)
 obtain ⟨j, hj, h⟩ := h N
 exact ⟨e / 2, N, by grind, fun k hk => by have := g j k hj hk; grind⟩
theorem nn_or (x : Re) : nn x \/ nn x.neg := by
 by_cases h : nn x.neg
 ·exact .inr h
 ·exact .inl (ps_nn (ps_of h))
theorem ps_mul {x y : Re} (h : ps x) (g : ps y) : ps (x.mul y) := by
 obtain ⟨d, N, hd, h⟩ := h
 obtain ⟨e, M, he, g⟩ := g
 refine ⟨d * e, N + M, Rat.mul_pos hd he, fun k hk => ?_⟩
 have h1 := h k (by omega)
 have h2 := g k (by omega)
 have k1 := Rat.mul_le_mul_of_nonneg_left h2 (show 0 <= d by grind)
 have k2 := Rat.mul_le_mul_of_nonneg_right h1 (show 0 <= y.f k by grind)
 show d * e <= x.f k * y.f k
 grind
theorem ps_add {x y : Re} (h : ps x) (g : nn y) : ps (x.add y) := by
 obtain ⟨d, N, hd, h⟩ := h
 obtain ⟨M, g⟩ := g (d / 2) (by grind)
 refine ⟨d / 2, N + M, by grind, fun k hk => ?_⟩
 have h1 := h k (by omega)
 have h2 := g k (by omega)
 show d / 2 <= x.f k + y.f k
 grind
theorem nn_mul {x y : Re} (h : nn x) (g : nn y) : nn (x.mul y) := fun e he => by
 obtain ⟨B, N, hB, hb⟩ := x.bd
 obtain ⟨C, M, hC, hc⟩ := y.bd
 have e1 : 0 < e / (B + C) := rat_div he (by grind)
 obtain ⟨K, h⟩ := h _ e1
 obtain ⟨L, g⟩ := g _ e1
 refine ⟨N + M + K + L, fun k hk => ?_⟩
 have b1 := hb k (by omega)
 have b2 := hc k (by omega)
 have h1 := h k (by omega)
 have h2 := g k (by omega)
 have q : (B + C) * (e / (B + C)) = e := by grind
 obtain ⟨t, ht⟩ : ∃ t, e / (B + C) = t := ⟨_, rfl⟩
 rw [ht] at h1 h2 q e1
 show -e <= x.f k * y.f k
 obtain ⟨a, ha⟩ : ∃ a, x.f k = a := ⟨_, rfl⟩
 obtain ⟨b, hb'⟩ : ∃ b, y.f k = b := ⟨_, rfl⟩
 rw [ha] at b1 h1 ⊢
 rw [hb'] at b2 h2 ⊢
 rcases rat_tot 0 a with s | s
 ·rcases rat_tot 0 b with r | r
  ·have := Rat.mul_nonneg s r; grind
  ·have k1 := Rat.mul_le_mul_of_nonneg_left h2 s
   have k2 := Rat.mul_le_mul_of_nonneg_right b1.2 (show 0 <= t by grind)
   have k3 := Rat.mul_nonneg (show 0 <= C by grind) (show 0 <= t by grind)
   grind
 ·rcases rat_tot 0 b with r | r
  ·have k1 := Rat.mul_le_mul_of_nonneg_right h1 r
   have k2 := Rat.mul_le_mul_of_nonneg_right b2.2 (show 0 <= t by grind)
   have k3 := Rat.mul_nonneg (show 0 <= B by grind) (show 0 <= t by grind)
   grind
  ·have := Rat.mul_nonneg (show 0 <= -a by grind) (show 0 <= -b by grind); grind
def isq : Nat -> Nat
 | 0 => 0
 | m + 1 => if (isq m + 1) * (isq m + 1) <= m + 1 then isq m + 1 else isq m
theorem isq_ok : ∀ m, isq m * isq m <= m /\ m < (isq m + 1) * (isq m + 1)
 | 0 => by decide
 | m + 1 => by
  obtain ⟨h1, h2⟩ := isq_ok m
  unfold isq
  split
  ·rename_i h
   refine ⟨h, ?_⟩
   have e : (isq m + 1 + 1) * (isq m + 1 + 1) = (isq m + 1) * (isq m + 1) + 2 * (isq m + 1) + 1 := by grind
   omega
  ·omega
theorem pow_cast (k : Nat) : ((2 ^ k : Nat) : Rat) * ((2 ^ k : Nat) : Rat) = ((4 ^ k : Nat) : Rat) := by
 rw [<- Rat.natCast_mul, <- Nat.mul_pow]
theorem pow_posR (k : Nat) : (0 : Rat) < ((2 ^ k : Nat) : Rat) := by
 have : 0 < 2 ^ k := Nat.pow_pos (by decide)
 exact Rat.natCast_pos.2 this
theorem sq_canc {a b p : Rat} (hp : 0 < p) (h : a * (p * p) <= b * (p * p)) : a <= b := by
 rcases rat_tot a b with g | g
 ·exact g
 ·rcases Rat.le_iff_lt_or_eq.1 g with g | g
  ·have := Rat.mul_lt_mul_of_pos_right g (Rat.mul_pos hp hp); grind
  ·grind
theorem sq_le {a b : Rat} (hb : 0 <= b) (h : a * a <= b * b) : a <= b := by
 rcases rat_tot a b with g | g
 ·exact g
 ·rcases Rat.le_iff_lt_or_eq.1 g with g | g
  ·have k1 := Rat.mul_lt_mul_of_pos_right g (show 0 < a by grind)
   have k2 := Rat.mul_le_mul_of_nonneg_left (show b <= a by grind) hb
   grind
  ·grind
def rtf (c k : Nat) : Rat := ((isq (c * 4 ^ k) : Nat) : Rat) / ((2 ^ k : Nat) : Rat)
def tk (k : Nat) : Rat := 1 / ((2 ^ k : Nat) : Rat)
theorem tk_pos (k : Nat) : 0 < tk k := rat_div (by decide) (pow_posR k)
theorem rtf_nn (c k : Nat) : 0 <= rtf c k := by
 unfold rtf
 have hp := pow_posR k
 have h0 : (0 : Rat) <= ((isq (c * 4 ^ k) : Nat) : Rat) := Rat.natCast_nonneg
 rw [Rat.div_def]
 exact Rat.mul_nonneg h0 (by have := Rat.inv_pos.2 hp; grind)
theorem rtf_bd (c k : Nat) : rtf c k * rtf c k <= (c : Rat) /\ (c : Rat) <= (rtf c k + tk k) * (rtf c k + tk k) := by
 obtain ⟨h1, h2⟩ := isq_ok (c * 4 ^ k)
 have h1 : ((isq (c * 4 ^ k) * isq (c * 4 ^ k) : Nat) : Rat) <= ((c * 4 ^ k : Nat) : Rat) := Rat.natCast_le_natCast.2 h1
 have h2 : ((c * 4 ^ k : Nat) : Rat) <= (((isq (c * 4 ^ k) + 1) * (isq (c * 4 ^ k) + 1) : Nat) : Rat) := Rat.natCast_le_natCast.2 (Nat.le_of_lt h2)
 rw [Rat.natCast_mul, Rat.natCast_mul, <- pow_cast] at h1 h2
 rw [Rat.natCast_add] at h2
 have hp := pow_posR k
 unfold rtf tk
 generalize ((isq (c * 4 ^ k) : Nat) : Rat) = r at *
 generalize ((2 ^ k : Nat) : Rat) = p at *
 generalize (c : Rat) = d at *
 have hp0 : p ≠ 0 := by grind
 obtain ⟨x, X⟩ : ∃ x, r / p = x := ⟨_, rfl⟩
 obtain ⟨t, T⟩ : ∃ t, 1 / p = t := ⟨_, rfl⟩
 have e1 : r = x * p := by rw [<- X]; grind
 have e2 : 1 = t * p := by rw [<- T]; grind
 rw [X, T]
 have h3 : ((1 : Nat) : Rat) = 1 := rfl
 rw [h3] at h2
 constructor
 ·refine sq_canc hp ?_
  rw [e1] at h1
  grind
 ·refine sq_canc hp ?_
  have e3 : r + 1 = (x + t) * p := by grind
  rw [e3] at h2
  grind
theorem rat_den (e : Rat) : e * (e.den : Rat) = (e.num : Rat) := by
 have h := Rat.mkRat_self e
 rw [Rat.mkRat_eq_div] at h
 have hd : ((e.den : Nat) : Rat) ≠ 0 := by
  have := e.den_pos
  have h2 : (0 : Rat) < ((e.den : Nat) : Rat) := Rat.natCast_pos.2 this
  grind
 generalize ((e.den : Nat) : Rat) = d at *
 generalize ((e.num : Int) : Rat) = n at *
 rw [<- h]
 grind
theorem rat_num {e : Rat} (h : 0 < e) : 0 < e.num := by
 have := (Rat.lt_iff _ _).1 h
 simpa using this
theorem arch (b : Nat) {e : Rat} (he : 0 < e) : ∃ N, ∀ k, N <= k -> (b : Rat) * tk k <= e := by
 refine ⟨b * e.den, fun k hk => ?_⟩
 have h1 : (b * e.den : Nat) < 2 ^ k := Nat.lt_of_le_of_lt hk Nat.lt_two_pow_self
 have h2 : ((b * e.den : Nat) : Rat) <= ((2 ^ k : Nat) : Rat) := Rat.natCast_le_natCast.2 (Nat.le_of_lt h1)
 rw [Rat.natCast_mul] at h2
 have h3 : e * (e.den : Rat) = (e.num : Rat) := rat_den e
 have h4 : (1 : Rat) <= (e.num : Rat) := by
  have : 0 < e.num := rat_num he
  have : (1 : Int) <= e.num := this
  exact Rat.intCast_le_intCast.2 this
 have h5 := Rat.mul_le_mul_of_nonneg_left h2 (show 0 <= e by grind)
 have h6 := Rat.mul_le_mul_of_nonneg_left h4 (show (0 : Rat) <= (b : Rat) from Rat.natCast_nonneg)
 have hp := pow_posR k
 unfold tk
 generalize ((2 ^ k : Nat) : Rat) = p at *
 have h7 : (b : Rat) <= e * p := by grind
 obtain ⟨t, T⟩ : ∃ t, 1 / p = t := ⟨_, rfl⟩
 have hp0 : p ≠ 0 := by grind
 have e2 : 1 = t * p := by rw [<- T]; grind
 have ht : 0 < t := by rw [<- T]; exact rat_div (by decide) hp
 rw [T]
 have h8 := Rat.mul_le_mul_of_nonneg_right h7 (show 0 <= t by grind)
 have h9 : e * p * t = e := by rw [Rat.mul_assoc, Rat.mul_comm p t, <- e2, Rat.mul_one]
 rw [h9] at h8
 exact h8
def Re.rt (c : Nat) : Re := ⟨rtf c, fun e he => by
 obtain ⟨N, h⟩ := arch 1 he
 refine ⟨N, fun j k _ hk => ?_⟩
 have h1 := h k hk
 have h2 : ((1 : Nat) : Rat) = 1 := rfl
 rw [h2] at h1
 have h3 := (rtf_bd c j).1
 have h4 := (rtf_bd c k).2
 have h5 := sq_le (show 0 <= rtf c k + tk k by have := rtf_nn c k; have := tk_pos k; grind) (show rtf c j * rtf c j <= _ by grind)
 grind⟩
theorem rt_nn (c : Nat) : nn (Re.rt c) := nn_of fun k => rtf_nn c k
theorem rt_le (c : Nat) (k : Nat) : rtf c k <= (c : Rat) + 1 := by
 have h := (rtf_bd c k).1
 have h0 : (0 : Rat) <= (c : Rat) := Rat.natCast_nonneg
 refine sq_le (by grind) ?_
 have := Rat.mul_nonneg h0 h0
 grind
theorem rt_up (c : Nat) : nn ((Re.int c).add ((Re.rt c).mul (Re.rt c)).neg) := nn_of fun k => by
 have h := (rtf_bd c k).1
 show 0 <= ((c : Int) : Rat) + -(rtf c k * rtf c k)
 rw [Rat.intCast_natCast]
 grind
theorem rt_dn (c : Nat) : nn (((Re.rt c).mul (Re.rt c)).add (Re.int c).neg) := fun e he => by
 obtain ⟨N, h⟩ := arch (2 * (c + 1) + 1) he
 refine ⟨N, fun k hk => ?_⟩
 have h1 := h k hk
 have h2 := (rtf_bd c k).2
 have h3 := rt_le c k
 have h4 := tk_pos k
 have h5 : tk k <= 1 := by
  have hp := pow_posR k
  have : ((1 : Nat) : Rat) <= ((2 ^ k : Nat) : Rat) := Rat.natCast_le_natCast.2 (Nat.pow_pos (by decide))
  have h6 : ((1 : Nat) : Rat) = 1 := rfl
  rw [h6] at this
  unfold tk
  generalize ((2 ^ k : Nat) : Rat) = p at *
  obtain ⟨t, T⟩ : ∃ t, 1 / p = t := ⟨_, rfl⟩
  have hp0 : p ≠ 0 := by grind
  have e2 : 1 = t * p := by rw [<- T]; grind
  have ht : 0 < t := by rw [<- T]; exact rat_div (by decide) hp
  rw [T]
  have := Rat.mul_le_mul_of_nonneg_left this (show 0 <= t by grind)
  grind
 show -e <= rtf c k * rtf c k + -((c : Int) : Rat)
 rw [Rat.intCast_natCast]
 have e1 : ((2 * (c + 1) + 1 : Nat) : Rat) = 2 * ((c : Rat) + 1) + 1 := by
  rw [Rat.natCast_add, Rat.natCast_mul, Rat.natCast_add]; rfl
 rw [e1] at h1
 have k1 := Rat.mul_le_mul_of_nonneg_right h3 (show 0 <= tk k by grind)
 have k2 := Rat.mul_le_mul_of_nonneg_right h5 (show 0 <= tk k by grind)
 generalize rtf c k = r at *
 generalize tk k = t at *
 generalize (c : Rat) = d at *
 grind
end Go.Proofs.YtighahcllmoajaaGreat

set_option maxHeartbeats 1000000
set_option maxRecDepth 100000
namespace Go.Proofs.YtighahcllmoajaaGreat
open Go.RowKit
theorem root_Sign1 (a b c : Nm) (na nb nc : Bool) (pa pb pc : Option Addr) (la ca lb cb lc cc A B C : Nat) (w : World) (ha : NR w na pa la ca a) (hb : NR w nb pb lb cb b) (hc : NR w nc pc lc cc c) (ra : a.right = true) (rb : b.right = true) (rc : c.right = true)
  (s1 : ∀ k, small (prodZ ([a, a].take k)) = true) (s2 : ∀ k, small (prodZ ([b, b, c].take k)) = true)
  (a0 : w.cell? ⟨A, 0, none⟩ = some (.bool na)) (a1 : w.cell? ⟨A, 1, none⟩ = some (.slice pa la ca)) (b0 : w.cell? ⟨B, 0, none⟩ = some (.bool nb)) (b1 : w.cell? ⟨B, 1, none⟩ = some (.slice pb lb cb)) (c0 : w.cell? ⟨C, 0, none⟩ = some (.bool nc)) (c1 : w.cell? ⟨C, 1, none⟩ = some (.slice pc lc cc)) :
  Calls Tryz.prog 188 #[.pointer (some ⟨A, 0, none⟩), .pointer (some ⟨B, 0, none⟩), .pointer (some ⟨C, 0, none⟩)] w fun e w' => e = .returned (.int .i64 (sideZ a.z b.z c.z)) /\ Ext w w' := by
 have S1 := Lib.hid s1
 have S2 := Lib.hid s2
 clear s1 s2
 go_enter Tryz.func188, Tryz.ntmps188
 go_wp2_with fail
 refine (root_side a b c _ _ _ _ _ _ _ _ _ _ _ _ _ ha hb hc ra rb rc S1.out S2.out).mono ?_
 rintro e w1 ⟨rfl, hx⟩
 go_wp2
 go_ret
 exact ⟨rfl, hx⟩
theorem root_guarded_sign (a b c : Nm) (na nb nc : Bool) (pa pb pc : Option Addr) (la ca lb cb lc cc A B C : Nat) (w : World) (ha : NR w na pa la ca a) (hb : NR w nb pb lb cb b) (hc : NR w nc pc lc cc c) (ra : a.right = true) (rb : b.right = true) (rc : c.right = true)
  (s1 : ∀ k, small (prodZ ([a, a].take k)) = true) (s2 : ∀ k, small (prodZ ([b, b, c].take k)) = true)
  (a0 : w.cell? ⟨A, 0, none⟩ = some (.bool na)) (a1 : w.cell? ⟨A, 1, none⟩ = some (.slice pa la ca)) (b0 : w.cell? ⟨B, 0, none⟩ = some (.bool nb)) (b1 : w.cell? ⟨B, 1, none⟩ = some (.slice pb lb cb)) (c0 : w.cell? ⟨C, 0, none⟩ = some (.bool nc)) (c1 : w.cell? ⟨C, 1, none⟩ = some (.slice pc lc cc)) :
  Calls Tryz.prog 60 #[.func (.func 188) #[] #[.pointer (some ⟨A, 0, none⟩), .pointer (some ⟨B, 0, none⟩), .pointer (some ⟨C, 0, none⟩)]] w fun e w' => e = .returned (.int .i64 (sideZ a.z b.z c.z)) /\ Ext w w' := by
 have S1 := Lib.hid s1
 have S2 := Lib.hid s2
 clear s1 s2
 have hmf : ∀ (fn : Fn) (first cap : Array Value) (w : World), (Instr.makeFunc fn first cap).run Tryz.prog w = .ok (.func fn first cap) w := fun _ _ _ _ => rfl
 have hA := World.block_lt_of_cell? w _ a0
 have hB := World.block_lt_of_cell? w _ b0
 have hC := World.block_lt_of_cell? w _ c0
 have hx0 : Ext w (w.alloc (.cells #[.int .i64 0] 3)) := bxx
 go_enter_defers Tryz.func60, Tryz.ntmps60
 go_wp2_with fail
 refine (root_Sign1 a b c _ _ _ _ _ _ _ _ _ _ _ _ A B C _ (ha.ext hx0) (hb.ext hx0) (hc.ext hx0) ra rb rc S1.out S2.out ((hx0.cell (p := ⟨A, 0, none⟩) hA).trans a0) ((hx0.cell (p := ⟨A, 1, none⟩) hA).trans a1) ((hx0.cell (p := ⟨B, 0, none⟩) hB).trans b0) ((hx0.cell (p := ⟨B, 1, none⟩) hB).trans b1) ((hx0.cell (p := ⟨C, 0, none⟩) hC).trans c0) ((hx0.cell (p := ⟨C, 1, none⟩) hC).trans c1)).mono ?_
 rintro e w1 ⟨rfl, hx⟩
 have hx1 : Ext w w1 := Ext.step hx0 hx
 have hz_w1 : w.heap.size + 1 <= w1.heap.size := Nat.le_trans omm hx.size
 obtain ⟨hl_w1_0, hk_w1_0, hf_w1_0⟩ := extK hx (w.heap.size)
 go_wp2_with fail
 refine leaves_cons (f := 105) (args := #[.pointer (some ⟨w.heap.size, 0, none⟩)]) (by simp) (by simp [go_sem]) ?_
 refine (catch_idle ⟨w.heap.size, 0, none⟩ _).mono ?_
 rintro e u' w'' ⟨rfl, rfl, rfl⟩
 simp [Leaves, settle, results, Tryz.results60, go_sem, hk_w1_0]
 exact bxx
end Go.Proofs.YtighahcllmoajaaGreat
