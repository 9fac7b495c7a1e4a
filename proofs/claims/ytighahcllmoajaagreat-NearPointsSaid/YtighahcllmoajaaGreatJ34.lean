/- Contracts: etchantref01.Same, and the law's is. | Contracts: root.Right, etchantref02.Same, etchantref02.Right. | Contracts for the kernel's walker: numbers, roots, points, edges. | Contracts of functions that draw, for the kernel's walker. | Contract: r06.Near. | Contracts: near.quarter, near.Point, by the kernel's walker. | Contract: near.Point, by the kernel's walker. | Contracts: root.sum, root.opposite. -/
import Derived.Test.YtighahcllmoajaaGreatJ23
import Derived.Test.YtighahcllmoajaaGreatJ33
import Derived.Test.YtighahcllmoajaaGreatJ21
import Derived.Test.YtighahcllmoajaaGreatJ27
import Derived.Test.YtighahcllmoajaaGreatJ28
import Derived.Test.YtighahcllmoajaaGreatJ29
set_option linter.unusedVariables false
set_option linter.unusedSimpArgs false

namespace Go.Proofs.YtighahcllmoajaaGreat
open Go.RowKit

def sameB (a b : Nm) : Bool := a.neg == b.neg && cmpL a.d b.d == 0
theorem sameB_self (a : Nm) : sameB a a = true := by simp [sameB, cmpL_refl]
theorem sameB_eq {a b : Nm} (h : a = b) : sameB a b = true := by subst h; exact sameB_self a
set_option maxRecDepth 100000 in
set_option maxHeartbeats 1000000 in
theorem r01_Same (a b : Nm) (na nb : Bool) (pa pb : Option Addr) (la ca lb cb : Nat) (w : World) (ha : NR w na pa la ca a) (hb : NR w nb pb lb cb b) :
    Calls Tryz.prog 49 #[.agg #[.bool na, .slice pa la ca], .agg #[.bool nb, .slice pb lb cb]] w fun e w' => e = .returned (.bool (sameB a b)) ∧ Ext w w' := by
  have CP := Lib.hid (fun w' (hx : Ext w w') => r01_compare a.d b.d pa pb la ca lb cb w' (ha.2.2.ext hx) (hb.2.2.ext hx) ha.2.1 hb.2.1)
  have hna := ha.1
  have hnb := hb.1
  unfold sameB
  obtain ⟨c, C⟩ : ∃ c, Hid (cmpL a.d b.d = c) := ⟨_, rfl⟩
  rw [C.out] at CP ⊢
  rw [← hna, ← hnb]
  clear hna hnb ha hb
  by_cases h : na = nb
  · subst h
    have e0 : (na == na) = true := by simp
    go_enter Tryz.func49, Tryz.ntmps49
    go_wp2_with fail
    refine (CP.out _ bxx).mono ?_
    rintro e w1 ⟨rfl, hx⟩
    have hx0 : Ext w w1 := Ext.step bxx hx
    go_wp2
    go_ret
    exact ⟨by simp, hx0⟩
  · have e0 : (na == nb) = false := by simpa using h
    go_enter Tryz.func49, Tryz.ntmps49
    go_wp2
    go_ret
    exact ⟨by rw [e0]; rfl, bxx⟩

end Go.Proofs.YtighahcllmoajaaGreat

namespace Go.Proofs.YtighahcllmoajaaGreat
open Go.RowKit
attribute [local go_sem] Gives givesU

theorem root_OfE (add s : Int) (x y : Nm) (r : Rt × Bool) (n m : Bool) (p q : Option Addr) (l c k d : Nat) (w : World) (hn : NR w n p l c x) (hd : NR w m q k d y) (h : ofP add s x y = r) :
    Calls Tryz.prog 28 #[.int .i64 add, .int .i64 s, .agg #[.bool n, .slice p l c], .agg #[.bool m, .slice q k d]] w (RetRt w r) := h ▸ root_Of add s x y n m p q l c k d w hn hd
theorem num_CmpE (a b : Nm) (v : Int) (na nb : Bool) (pa pb : Option Addr) (la ca lb cb : Nat) (w : World) (ha : NR w na pa la ca a) (hb : NR w nb pb lb cb b) (h : cmpP a b = v) :
    Calls Tryz.prog 69 #[.agg #[.bool na, .slice pa la ca], .agg #[.bool nb, .slice pb lb cb]] w fun e w' => e = .returned (.int .i64 v) ∧ Ext w w' := by
  subst h
  exact num_Cmp a b _ _ _ _ _ _ _ _ _ ha hb
set_option maxRecDepth 100000 in
set_option maxHeartbeats 4000000 in
theorem root_Right (add s : Int) (x y : Nm) (n m : Bool) (p q : Option Addr) (l c k d : Nat) (w : World) (hn : NR w n p l c x) (hd : NR w m q k d y) :
    Calls Tryz.prog 24 #[.agg #[.int .i64 add, .int .i64 s, .bool n, .slice p l c, .bool m, .slice q k d]] w fun e w' => e = .returned (.bool (Rt.right ⟨add, s, x, y⟩)) ∧ Ext w w' := by
  obtain ⟨⟨⟨ba, bs, bn, bd⟩, ok⟩, HO⟩ : ∃ r, ofP add s x y = r := ⟨_, rfl⟩
  have RES : Hid (Rt.right ⟨add, s, x, y⟩ = (ok && (bs == s && (cmpP x bn == 0 && cmpP y bd == 0)))) := Lib.hid (by unfold Rt.right; simp only; rw [HO])
  have CO := Lib.hid (root_OfE add s x y _ n m p q l c k d · · · HO)
  have HN := Lib.hid hn
  have HD := Lib.hid hd
  clear hn hd HO
  obtain ⟨c1, C1⟩ : ∃ v, Hid (cmpP x bn = v) := ⟨_, rfl⟩
  obtain ⟨c2, C2⟩ : ∃ v, Hid (cmpP y bd = v) := ⟨_, rfl⟩
  rw [C1.out, C2.out] at RES
  go_enter Tryz.func24, Tryz.ntmps24
  go_upto_region 1 with (fail)
  refine wp_know (fun W => Ext w W ∧ RB W w.heap.size add s n p l c m q k d) ?_ ?_
  · exact ⟨bxx, RB.heap (heap_new rfl)⟩
  rintro W0 ⟨ex, rb⟩
  obtain ⟨e0, e1, e2, ⟨e3, e4⟩, ⟨e5, e6⟩, ef⟩ := id rb
  go_wp2_with fail
  refine (CO.out _ (HN.out.ext bxx) (HD.out.ext bxx)).mono ?_
  rintro e W1 ⟨n1, p1, l1, c1', m1, q1, k1, d1, rfl, nr1, nr2, hx⟩
  have hx1 : Ext W0 W1 := Ext.step bxx hx
  have ex1 : Ext w W1 := Ext.step ex hx1
  replace rb := rb.ext hx1
  clear e0 e1 e2 e3 e4 e5 e6 ef hx hx1 ex CO
  go_upto_region 2 with (fail)
  refine wp_know (fun W => Ext w W ∧ RB W w.heap.size add s n p l c m q k d ∧ RB W W1.heap.size ba bs n1 p1 l1 c1' m1 q1 k1 d1 ∧ NR W n1 p1 l1 c1' bn ∧ NR W m1 q1 k1 d1 bd) ?_ ?_
  · exact ⟨ex1.alloc ex1.size _, rb.ext ((Below.refl _ _).alloc (Nat.le_refl _) _), RB.heap (heap_new rfl), nr1.alloc _, nr2.alloc _⟩
  obtain ⟨g, G⟩ : ∃ x, Hid (W1.heap.size = x) := ⟨_, rfl⟩
  rw [G.out]
  clear rb ex1 nr1 nr2
  rintro W2 ⟨ex, rb, rg, nr1, nr2⟩
  obtain ⟨e0, e1, e2, ⟨e3, e4⟩, ⟨e5, e6⟩, ef⟩ := id rb
  obtain ⟨h0, h1, h2, ⟨h3, h4⟩, ⟨h5, h6⟩, hf⟩ := id rg
  have NR1 := Lib.hid nr1
  have NR2 := Lib.hid nr2
  have HN2 := Lib.hid (HN.out.ext ex)
  have HD2 := Lib.hid (HD.out.ext ex)
  clear rb rg nr1 nr2 ef hf HN HD
  cases ok with
  | false =>
    refine wp_FSc (fun W => W.cell? ⟨w.heap.size, 0, none⟩ = some (.int .i64 add) ∧ W.cell? ⟨w.heap.size, 1, none⟩ = some (.int .i64 s) ∧ cn W w.heap.size 2 n p l c ∧ cn W w.heap.size 4 m q k d ∧ W.cell? ⟨g, 0, none⟩ = some (.int .i64 ba) ∧ W.cell? ⟨g, 1, none⟩ = some (.int .i64 bs) ∧ cn W g 2 n1 p1 l1 c1' ∧ cn W g 4 m1 q1 k1 d1) ?_
    repeat (first | refine F_s ?_ | refine F_r ?_)
    rintro W3 ⟨hx, _⟩
    go_wp2
    go_ret
    exact ⟨by rw [RES.out]; rfl, Ext.step ex hx⟩
  | true =>
  by_cases b1 : bs = s
  · have f1 : (bs == s) = true := by simpa using b1
    have B1 := Lib.hid b1
    clear b1
    by_cases b2 : c1 = 0
    · have f2 : (c1 == 0) = true := by simpa using b2
      have B2 := Lib.hid b2
      clear b2
      have bb : (c2 == 0) = true ∨ (c2 == 0) = false := by cases (c2 == 0) <;> simp
      have CB : ∃ v, Hid ((c2 == 0) = v) := ⟨_, Lib.hid rfl⟩
      obtain ⟨v, V⟩ := CB
      have f3 := V.out
      refine wp_FSc (fun W => W.cell? ⟨w.heap.size, 0, none⟩ = some (.int .i64 add) ∧ W.cell? ⟨w.heap.size, 1, none⟩ = some (.int .i64 s) ∧ cn W w.heap.size 2 n p l c ∧ cn W w.heap.size 4 m q k d ∧ W.cell? ⟨g, 0, none⟩ = some (.int .i64 ba) ∧ W.cell? ⟨g, 1, none⟩ = some (.int .i64 bs) ∧ cn W g 2 n1 p1 l1 c1' ∧ cn W g 4 m1 q1 k1 d1) ?_
      repeat (first | refine F_s ?_ | refine F_r ?_)
      refine F_c (.int .i64 c1) (fun W hW => num_CmpE x bn c1 _ _ _ _ _ _ _ _ _ (HN2.out.ext hW.1) (NR1.out.ext hW.1) C1.out) ?_
      repeat (first | refine F_s ?_ | refine F_r ?_)
      refine F_c (.int .i64 c2) (fun W hW => num_CmpE y bd c2 _ _ _ _ _ _ _ _ _ (HD2.out.ext hW.1) (NR2.out.ext hW.1) C2.out) ?_
      repeat (first | refine F_s ?_ | refine F_r ?_)
      rintro W3 ⟨hx, _⟩
      go_wp2
      go_ret
      refine ⟨?_, Ext.step ex hx⟩
      rw [RES.out, V.out, f1, f2]
      first | rfl | simp
    · have f2 : (c1 == 0) = false := by simpa using b2
      have B2 := Lib.hid b2
      clear b2
      refine wp_FSc (fun W => W.cell? ⟨w.heap.size, 0, none⟩ = some (.int .i64 add) ∧ W.cell? ⟨w.heap.size, 1, none⟩ = some (.int .i64 s) ∧ cn W w.heap.size 2 n p l c ∧ cn W w.heap.size 4 m q k d ∧ W.cell? ⟨g, 0, none⟩ = some (.int .i64 ba) ∧ W.cell? ⟨g, 1, none⟩ = some (.int .i64 bs) ∧ cn W g 2 n1 p1 l1 c1' ∧ cn W g 4 m1 q1 k1 d1) ?_
      repeat (first | refine F_s ?_ | refine F_r ?_)
      refine F_c (.int .i64 c1) (fun W hW => num_CmpE x bn c1 _ _ _ _ _ _ _ _ _ (HN2.out.ext hW.1) (NR1.out.ext hW.1) C1.out) ?_
      repeat (first | refine F_s ?_ | refine F_r ?_)
      rintro W3 ⟨hx, _⟩
      go_wp2
      go_ret
      refine ⟨?_, Ext.step ex hx⟩
      rw [RES.out, f1, f2]
      first | rfl | simp
  · have f1 : (bs == s) = false := by simpa using b1
    have B1 := Lib.hid b1
    clear b1
    refine wp_FSc (fun W => W.cell? ⟨w.heap.size, 0, none⟩ = some (.int .i64 add) ∧ W.cell? ⟨w.heap.size, 1, none⟩ = some (.int .i64 s) ∧ cn W w.heap.size 2 n p l c ∧ cn W w.heap.size 4 m q k d ∧ W.cell? ⟨g, 0, none⟩ = some (.int .i64 ba) ∧ W.cell? ⟨g, 1, none⟩ = some (.int .i64 bs) ∧ cn W g 2 n1 p1 l1 c1' ∧ cn W g 4 m1 q1 k1 d1) ?_
    repeat (first | refine F_s ?_ | refine F_r ?_)
    rintro W3 ⟨hx, _⟩
    go_wp2
    go_ret
    refine ⟨?_, Ext.step ex hx⟩
    rw [RES.out, f1]
    first | rfl | simp
end Go.Proofs.YtighahcllmoajaaGreat

namespace Go.Proofs.YtighahcllmoajaaGreat
open Go.RowKit

def cOf : Con where
  f := 63
  g := fun | [⟨false, [.i z _]⟩] => some (.one (nmV (ofZ z)), []) | _ => none
  ok := by
    intro args res ps h _
    split at h <;> cases h
    intro W vals hv
    simp only [rvs_cons, rvs_nil, rv_i] at hv
    obtain ⟨_, ⟨⟨_, h1, h2⟩, rfl⟩, _, rfl, rfl⟩ := hv
    exact (num_Of _ W h1 h2).mono fun _ _ h => gv_nm h
def cMul : Con where
  f := 108
  g := fun | [⟨true, [.d (.num a)]⟩, ⟨true, [.d (.num b)]⟩] => some (.tup [nmV (mulP a b).1, blV (mulP a b).2], []) | _ => none
  ok := by
    intro args res ps h _
    split at h <;> cases h
    intro W vals hv
    simp only [rvs_cons, rvs_nil, rv_t, rl_num, rl_nil] at hv
    obtain ⟨_, ⟨_, ⟨n, p, l, c, h1, _, rfl, rfl⟩, rfl⟩, _, rfl, _, ⟨_, ⟨m, q, k, d, h2, _, rfl, rfl⟩, rfl⟩, _, rfl, rfl⟩ := hv
    exact (num_Mul _ _ _ _ _ _ _ _ _ _ W h1 h2).mono fun _ _ h => gv_nb h
/-- A root as a value. -/
def rtV (r : Rt) : V1 := ⟨true, [.i r.add lim, .i r.s lim, .d (.num r.n), .d (.num r.d)]⟩
theorem ofP_add (add s : Int) (n d : Nm) (h : I64 add) : I64 (ofP add s n d).1.add ∧ I64 (ofP add s n d).1.s := by
  unfold ofP
  split
  · exact ⟨i64_0, i64_0⟩
  · rename_i hb
    obtain ⟨h1, h2, _⟩ := ofBad_false (Bool.not_eq_true _ ▸ hb)
    split
    · exact ⟨h, i64_0⟩
    · split
      · exact ⟨i64_0, i64_0⟩
      · exact ⟨h, by show I64 s; unfold I64; omega⟩
theorem rtV_rep {V W : World} {r : Nat → Nat} {k : Nat} {a : Rt} {n m : Bool} {p q : Option Addr} {l c j d : Nat} (h1 : I64 a.add ∧ I64 a.s) (hn : NR W n p l c a.n) (hd : NR W m q j d a.d) : RepV V W r k (rtV a) (.agg #[.int .i64 a.add, .int .i64 a.s, .bool n, .slice p l c, .bool m, .slice q j d]) :=
  rv_t.2 ⟨_, rl_i.2 ⟨lim64 h1.1, _, rfl, rl_i.2 ⟨lim64 h1.2, _, rfl, rl_num.2 ⟨n, p, l, c, hn, _, rfl, rl_num.2 ⟨m, q, j, d, hd, [], rfl, rfl⟩⟩⟩⟩, rfl⟩
def cRtOf : Con where
  f := 28
  g := fun | [⟨false, [.i a _]⟩, ⟨false, [.i s _]⟩, ⟨true, [.d (.num n)]⟩, ⟨true, [.d (.num d)]⟩] => some (.tup [rtV (ofP a s n d).1, blV (ofP a s n d).2], []) | _ => none
  ok := by
    intro args res ps h _
    split at h <;> cases h
    intro W vals hv
    simp only [rvs_cons, rvs_nil, rv_t, rv_i, rl_num, rl_nil] at hv
    obtain ⟨_, ⟨⟨_, i1⟩, rfl⟩, _, rfl, _, ⟨_, rfl⟩, _, rfl, _, ⟨_, ⟨n, p, l, c, h1, _, rfl, rfl⟩, rfl⟩, _, rfl, _, ⟨_, ⟨m, q, k, d, h2, _, rfl, rfl⟩, rfl⟩, _, rfl, rfl⟩ := hv
    refine (root_Of _ _ _ _ _ _ _ _ _ _ _ _ W h1 h2).mono fun e w' h => ?_
    obtain ⟨n, p, l, c, m, q, k, d, rfl, h1, h2, h3⟩ := h
    exact ⟨_, rfl, ⟨[_, _], rfl, rvs_cons.2 ⟨_, rtV_rep (ofP_add _ _ _ _ i1) h1 h2, _, rfl, rvs_cons.2 ⟨_, rv_v.2 ⟨rfl, rfl⟩, _, rfl, rfl⟩⟩⟩, h3⟩
def KA : List Con := [cOf, cMul, cRtOf, cChk, cVRight, cRad, cRev]
end Go.Proofs.YtighahcllmoajaaGreat

namespace Go.Proofs.YtighahcllmoajaaGreat
open Go.RowKit
attribute [local go_sem] Gives givesU

/-- A draw in memory, with its whole block. -/
def DrawH (w : World) (B : Nat) (v : Value) (d : List Value) (T : TypeId) (k : Nat) : Prop := w.heap[B]? = some (.cells (v :: .int .i64 (k : Nat) :: d).toArray T)
theorem DrawH.at {w : World} {B len cp k : Nat} {a : Option Addr} {d : List Value} {T : TypeId} (h : DrawH w B (.slice a len cp) d T k) : DrawAt w B a len cp k := by
  unfold DrawH at h
  refine ⟨(Array.getElem?_eq_some_iff.1 h).1, ?_, ?_, fun o => by simp [World.frozen?, h]⟩
  · rw [cell_of_row _ _ _ _ _ _ h]; simp
  · rw [cell_of_row _ _ _ _ _ _ h]; simp
theorem DrawH.ext {w w' : World} {B k : Nat} {v : Value} {d : List Value} {T : TypeId} (h : DrawH w B v d T k) (hx : Ext w w') : DrawH w' B v d T k := heap_ext h hx
theorem DrawH.set {w : World} {B k : Nat} {v : Value} {d : List Value} {T : TypeId} (h : DrawH w B v d T k) (j : Nat) : DrawH (w.setCell ⟨B, 1, none⟩ (.int .i64 (j : Nat))) B v d T j := by
  unfold DrawH at *
  have hB := (Array.getElem?_eq_some_iff.1 h).1
  have e := (Array.getElem?_eq_some_iff.1 h).2
  rw [Array.getElem?_eq_some_iff]
  refine ⟨by simpa [World.setCell] using hB, ?_⟩
  simp only [World.setCell, Array.getElem_modify, if_true, e]
  simp
set_option maxRecDepth 100000 in
set_option maxHeartbeats 2000000 in
theorem r01_NextH (L : List Int) (B : Nat) (a : Option Addr) (len cp k : Nat) (n : Int) (d : List Value) (T : TypeId) (w : World) (hH : DrawH w B (.slice a len cp) d T k) (hL : Ints w a len L) (hne : 0 < len → ∀ x, a = some x → x.block ≠ B) (hn : 0 < n ∧ n ≤ 4294967296) (hk : k ≤ len) :
    Calls Tryz.prog 37 #[.pointer (some ⟨B, 0, none⟩), .int .i64 n] w fun e w' => e = .returned (.int .i64 (nextV L k n)) ∧ DrawH w' B (.slice a len cp) d T (nextK L k) ∧ Past B w w' := by
  have hd := hH.at
  obtain ⟨hB, c0, c1, hf⟩ := hd
  obtain ⟨hl, hm, hrow⟩ := hL
  by_cases hlt : k < len
  · have e1 : nextV L k n = modZ (L[k]?.getD 0) n := by unfold nextV; rw [if_pos (by omega)]
    have e2 : nextK L k = k + 1 := by unfold nextK; rw [if_pos (by omega)]
    rw [e1, e2]
    obtain ⟨b, o, rfl, hb, hc⟩ := hrow (by omega)
    have hck := hc k hlt
    have hbB : b ≠ B := hne (by omega) _ rfl
    obtain ⟨x, X⟩ : ∃ x, L[k]?.getD 0 = x := ⟨_, rfl⟩
    rw [X] at hck ⊢
    have MC := Lib.hid (fun w => r01_Mod x n w hn)
    replace hH := Lib.hid hH
    clear e1 e2 hc hrow hl hne X hn
    have w1 : IntKind.i64.wrap ((k : Int) + 1) = ((k + 1 : Nat) : Int) := by rw [wrap_in]; rfl; unfold I64; omega
    have w2 : IntKind.i64.wrap (((k + 1 : Nat) : Int) - 1) = (k : Int) := by rw [wrap_in]; omega; unfold I64; omega
    have g1 : decide ((len : Int) ≤ (k : Int)) = false := by rw [decide_eq_false_iff_not]; omega
    have i0 : (0 : Int) ≤ (k : Int) := by omega
    have i1 : (k : Int) < (len : Int) := by omega
    go_enter Tryz.func37, Tryz.ntmps37
    have w3 : IntKind.i64.wrap (k : Int) = (k : Int) := by rw [wrap_in]; unfold I64; omega
    have ts : (k : Int).toNat = k := by omega
    go_wp2_with fail
    refine wp_FSc (fun W => W.cell? ⟨B, 0, none⟩ = some (.slice (some ⟨b, o, none⟩) len cp) ∧ W.cell? ⟨B, 1, none⟩ = some (.int .i64 k)) ?_
    repeat (first | refine F_s ?_ | refine F_r ?_)
    rintro W ⟨hx, hc0, hc1⟩
    have hdW : DrawAt W B (some ⟨b, o, none⟩) len cp k := DrawAt.ext ⟨hB, c0, c1, hf⟩ hx
    have hfW := hdW.2.2.2
    have hkW : W.cell? ⟨b, o + k, none⟩ = some (.int .i64 x) := (hx.cell (p := ⟨b, o + k, none⟩) hb).trans hck
    have hBW : B < W.heap.size := Nat.lt_of_lt_of_le hB hx.size
    have hbW : b < W.heap.size := Nat.lt_of_lt_of_le hb hx.size
    have hxs := hx.size
    clear hdW
    have HD := Lib.hid (hH.out.ext hx)
    have HX : Hid (Ext w W) := hx
    clear hx
    go_wp2_with fail
    refine wp_FSc (fun W => W.cell? ⟨B, 0, none⟩ = some (.slice (some ⟨b, o, none⟩) len cp) ∧ W.cell? ⟨B, 1, none⟩ = some (.int .i64 (k + 1 : Nat)) ∧ W.cell? ⟨b, o + k, none⟩ = some (.int .i64 x)) ?_
    repeat (first | refine F_s ?_ | refine F_r ?_)
    refine F_c (.int .i64 (modZ x n)) (fun W hW => MC.out _) ?_
    repeat (first | refine F_s ?_ | refine F_r ?_)
    rintro W2 ⟨hx2, hc2⟩
    go_wp2
    go_ret
    exact ⟨rfl, (HD.out.set _).ext hx2, ((Past.of_ext HX.out).step (Past.set W 1 _)).step (Past.of_ext hx2)⟩
  · have e1 : nextV L k n = 0 := by unfold nextV; rw [if_neg (by omega)]
    have e2 : nextK L k = k := by unfold nextK; rw [if_neg (by omega)]
    rw [e1, e2]
    have g1 : decide ((len : Int) ≤ (k : Int)) = true := by rw [decide_eq_true_iff]; omega
    have hdh := Lib.hid hH
    clear hH
    clear e1 e2 hl hne hn hrow
    go_enter Tryz.func37, Tryz.ntmps37
    go_wp2_with fail
    refine wp_FSc (fun W => W.cell? ⟨B, 0, none⟩ = some (.slice a len cp) ∧ W.cell? ⟨B, 1, none⟩ = some (.int .i64 k)) ?_
    repeat (first | refine F_s ?_ | refine F_r ?_)
    rintro W ⟨hx, hc0, hc1⟩
    go_wp2
    go_ret
    exact ⟨rfl, hdh.out.ext hx, Past.of_ext hx⟩
theorem ints_ne {w : World} {L : List Int} {v : Value} {B : Nat} (h : IntsC w L v) (hne : ∀ a len c, v = .slice a len c → 0 < len → ∀ x, a = some x → x.block ≠ B) : ∃ a len c, v = .slice a len c ∧ Ints w a len L ∧ (0 < len → ∀ x, a = some x → x.block ≠ B) := by
  obtain ⟨a, len, c, e, h1, h2, h3⟩ := h
  exact ⟨a, len, c, e, h1, hne a len c e⟩
theorem nextK_le {L : List Int} {k : Nat} (h : k ≤ L.length) : nextK L k ≤ L.length := by unfold nextK; split <;> omega
def xNext : Eff where
  f := 37
  g := fun L k args => match args with | [⟨false, [.i n _]⟩] => if 0 < n ∧ n ≤ 4294967296 then some (⟨false, [.i (nextV L k n) n.natAbs]⟩, nextK L k, []) else none | _ => none
  ok := by
    intro L k args res k' ps h hp W B v d T vals hg hL hne hk hv
    simp only at h
    split at h <;> (try (cases h; done))
    split at h <;> cases h
    rename_i n A hn
    simp only [rvs_cons, rvs_nil, rv_i] at hv
    obtain ⟨_, ⟨_, rfl⟩, _, rfl, rfl⟩ := hv
    obtain ⟨a, len, c, rfl, h1, h2⟩ := ints_ne hL hne
    refine (r01_NextH L B a len c k n d T W hg h1 h2 hn (by rw [h1.1]; exact hk)).mono fun e w' ⟨e1, h3, h4⟩ => ⟨_, e1, ?_, h3, nextK_le hk, h4⟩
    have := nextV_bd L k hn.1
    exact rv_i.2 ⟨⟨by omega, by unfold I64; omega⟩, rfl⟩
end Go.Proofs.YtighahcllmoajaaGreat

namespace Go.Proofs.YtighahcllmoajaaGreat
open Go.RowKit
attribute [local go_sem] Gives givesU
theorem Past.drawH {B g : Nat} {w w' : World} (h : Past B w w') {cs : Array Value} {T : TypeId} (hg : w.heap[g]? = some (.cells cs T)) (hne : g ≠ B) : w'.heap[g]? = some (.cells cs T) := by
  rw [h.block g (Array.getElem?_eq_some_iff.1 hg).1 hne]; exact hg
theorem Past.new {B g : Nat} {w V V' : World} (h : Past B w V) (hg : w.heap.size ≤ g) (p : Past g V V') : Past B w V' :=
  ⟨p.os.trans h.os, p.tape.trans h.tape, p.output.trans h.output, Nat.le_trans h.size p.size, fun k hk hB => (p.block k (Nat.lt_of_lt_of_le hk h.size) (by omega)).trans (h.block k hk hB)⟩
set_option maxRecDepth 100000 in
set_option maxHeartbeats 1000000 in
theorem r06_Near (L : List Int) (B k : Nat) (a : Option Addr) (len cp : Nat) (d : List Value) (T : TypeId) (width : Int) (w : World) (hw : 0 ≤ width ∧ width ≤ 100000) (hH : DrawH w B (.slice a len cp) d T k) (hL : Ints w a len L) (hne : 0 < len → ∀ x, a = some x → x.block ≠ B) (hk : k ≤ len) :
    Calls Tryz.prog 38 #[.pointer (some ⟨B, 0, none⟩), .int .i64 width] w fun e w' => e = .returned (.agg #[.int .i64 (nextV L k (2 * width + 1) - width), .int .i64 (nextV L (nextK L k) (2 * width + 1) - width)]) ∧ DrawH w' B (.slice a len cp) d T (nextK L (nextK L k)) ∧ Past B w w' := by
  have w1 : IntKind.i64.wrap (2 * width) = 2 * width := wrap_in (by unfold I64; omega)
  have w2 : IntKind.i64.wrap (2 * width + 1) = 2 * width + 1 := wrap_in (by unfold I64; omega)
  have b1 := nextV_bd L k (n := 2 * width + 1) (by omega)
  have b2 := nextV_bd L (nextK L k) (n := 2 * width + 1) (by omega)
  have hn : 0 < 2 * width + 1 ∧ 2 * width + 1 ≤ 4294967296 := by omega
  have w3 : IntKind.i64.wrap (nextV L k (2 * width + 1) - width) = nextV L k (2 * width + 1) - width := wrap_in (by unfold I64; omega)
  have w4 : IntKind.i64.wrap (nextV L (nextK L k) (2 * width + 1) - width) = nextV L (nextK L k) (2 * width + 1) - width := wrap_in (by unfold I64; omega)
  have hB : B < w.heap.size := (Array.getElem?_eq_some_iff.1 hH).1
  have hk2 : nextK L k ≤ len := by have := hL.1; unfold nextK; split <;> omega
  have NX := Lib.hid (fun (k : Nat) (n : Int) (W : World) (hd : DrawH W B (.slice a len cp) d T k) (hL' : Ints W a len L) (hn : 0 < n ∧ n ≤ 4294967296) (hk : k ≤ len) => r01_NextH L B a len cp k n d T W hd hL' hne hn hk)
  have HH := Lib.hid hH
  have HL := Lib.hid hL
  have HN := Lib.hid hn
  have HK := Lib.hid hk
  have HE := Lib.hid hne
  have HK2 := Lib.hid hk2
  clear hH hL hn hk hk2 hw b1 b2 hne
  obtain ⟨u1, U1⟩ : ∃ u, Hid (nextV L k (2 * width + 1) = u) := ⟨_, rfl⟩
  obtain ⟨u2, U2⟩ : ∃ u, Hid (nextV L (nextK L k) (2 * width + 1) = u) := ⟨_, rfl⟩
  rw [U1.out] at w3 ⊢
  rw [U2.out] at w4 ⊢
  go_enter Tryz.func38, Tryz.ntmps38
  go_wp2_with fail
  refine (NX.out k _ _ (HH.out.ext bxx) (HL.out.ext bxx) HN.out HK.out).mono ?_
  rintro e V1 ⟨rfl, h1, p1⟩
  rw [U1.out]
  have s1 := p1.size
  simp at s1
  have c1 := p1.drawH (g := w.heap.size) (heap_new rfl) (by omega)
  have x1 : Past B w V1 := (Past.of_ext bxx).step p1
  have y1 := pt_block c1
  have L1 := Lib.hid (x1.ints HL.out HE.out)
  replace h1 := Lib.hid h1
  replace x1 := Lib.hid x1
  clear p1
  go_wp2_with fail
  refine (NX.out _ _ _ h1.out L1.out HN.out HK2.out).mono ?_
  rintro e V2 ⟨rfl, h2, p2⟩
  rw [U2.out]
  have s2 := p2.size
  have c2 := p2.drawH (g := w.heap.size) c1 (by omega)
  have y2 := pt_block c2
  replace h2 := Lib.hid h2
  have x2 := Lib.hid (x1.out.step p2)
  clear p2 c1 y1
  have hne2 : B ≠ w.heap.size := by omega
  go_wp2_with fail
  refine bodyPost_ret (v := .agg #[.int .i64 (u1 - width), .int .i64 (u2 - width)]) (by simp only [results, Tryz.results38]; go_simp) rfl ?_
  exact ⟨rfl, (Past.set _ 1 _).drawH ((Past.set _ 0 _).drawH h2.out hne2) hne2, ((x2.out.new (Nat.le_refl _) (Past.set _ 0 _)).new (Nat.le_refl _) (Past.set _ 1 _))⟩
def xNear : Eff where
  f := 38
  g := fun L k args => match args with | [⟨false, [.i n _]⟩] => if 0 ≤ n ∧ n ≤ 100000 then some (⟨true, [.i (nextV L k (2 * n + 1) - n) n.natAbs, .i (nextV L (nextK L k) (2 * n + 1) - n) n.natAbs]⟩, nextK L (nextK L k), []) else none | _ => none
  ok := by
    intro L k args res k' ps h hp W B v d T vals hg hL hne hk hv
    simp only at h
    split at h <;> (try (cases h; done))
    split at h <;> cases h
    rename_i n A hn
    simp only [rvs_cons, rvs_nil, rv_i] at hv
    obtain ⟨_, ⟨_, rfl⟩, _, rfl, rfl⟩ := hv
    obtain ⟨a, len, c, rfl, h1, h2⟩ := ints_ne hL hne
    refine (r06_Near L B k a len c d T n W hn hg h1 h2 (by rw [h1.1]; exact hk)).mono fun e w' ⟨e1, h3, h4⟩ => ⟨_, e1, ?_, h3, nextK_le (nextK_le hk), h4⟩
    have b1 := nextV_bd L k (n := 2 * n + 1) (by omega)
    have b2 := nextV_bd L (nextK L k) (n := 2 * n + 1) (by omega)
    exact rv_t.2 ⟨_, rl_i.2 ⟨⟨by omega, by unfold I64; omega⟩, _, rfl, rl_i.2 ⟨⟨by omega, by unfold I64; omega⟩, _, rfl, rfl⟩⟩, rfl⟩
end Go.Proofs.YtighahcllmoajaaGreat

namespace Go.Proofs.YtighahcllmoajaaGreat
open Go.RowKit

theorem wi_min (a b : Int) : decide (min a b ≥ 0) = (decide (0 ≤ a) && decide (0 ≤ b)) := by
  rw [Bool.eq_iff_iff]; simp; omega
set_option maxRecDepth 100000 in
theorem within_ok (dx dy fx fy tx ty : Int) : Fok Tryz.prog 127 [ptV dx dy c27, ptV fx fy c27, ptV tx ty c27] (.one (blV (wiB dx dy fx fy tx ty))) := by
  have h : wiB dx dy fx fy tx ty = decide (min (fx * dy - fy * dx) (dx * ty - dy * tx) ≥ 0) := (wi_min _ _).symm
  rw [h]
  exact fok [] [] [] (by kernel_rfl)
def cWithin : Con where
  f := 127
  g := fun | [⟨true, [.i dx A, .i dy B]⟩, ⟨true, [.i fx C, .i fy D]⟩, ⟨true, [.i tx E, .i ty F]⟩] => if (A ≤ c27 ∧ B ≤ c27) ∧ (C ≤ c27 ∧ D ≤ c27) ∧ (E ≤ c27 ∧ F ≤ c27) then some (.one (blV (wiB dx dy fx fy tx ty)), []) else none | _ => none
  ok := by
    intro args res ps h hp
    split at h <;> try cases h
    split at h <;> cases h
    rename_i hb
    exact (within_ok _ _ _ _ _ _).pre fun W => rvs_1 (pt_low hb.1.1 hb.1.2) (rvs_1 (pt_low hb.2.1.1 hb.2.1.2) (rvs_1 (pt_low hb.2.2.1 hb.2.2.2) rvs_0))
theorem neB_F {x y : Int} (h : (x == 0 && y == 0) = true) : (!eqZ [.i x, .i y] [.i 0, .i 0]) = false := by simpa [eqZ, eqS] using h
theorem neB_T {x y : Int} (h : (x == 0 && y == 0) = false) : (!eqZ [.i x, .i y] [.i 0, .i 0]) = true := by simp only [eqZ, eqS, h]; rfl
set_option maxRecDepth 100000 in
theorem quarter_ok (e : Ed) (x y : Int) (hok : e.ok = true) : Fok Tryz.prog 89 [edV e 3 c26, ptV x y c27] (.one (blV (inQ e x y))) := by
  by_cases hk : e.k = 3
  · have h1 : (e.k == 3) = true := by simpa using hk
    cases hz : (x == 0 && y == 0) with
    | true =>
      rw [show inQ e x y = false by unfold inQ; rw [hz]; rfl]
      exact fok [cRev, cWithin] [true, false] [pT h1, pP hok, pF (neB_F hz)] (by kernel_rfl)
    | false =>
      rw [show inQ e x y = wiB x y (e.bx - e.cx) (e.by' - e.cy) (e.ax - e.cx) (e.ay - e.cy) by unfold inQ; rw [hz, if_pos hk]; rfl]
      exact fok [cRev, cWithin] [true, true] [pT h1, pP hok, pT (neB_T hz)] (by kernel_rfl)
  · have h1 : (e.k == 3) = false := by simpa using hk
    cases hz : (x == 0 && y == 0) with
    | true =>
      rw [show inQ e x y = false by unfold inQ; rw [hz]; rfl]
      exact fok [cRev, cWithin] [false, false] [pF h1, pF (neB_F hz)] (by kernel_rfl)
    | false =>
      rw [show inQ e x y = wiB x y (e.ax - e.cx) (e.ay - e.cy) (e.bx - e.cx) (e.by' - e.cy) by unfold inQ; rw [hz, if_neg hk]; rfl]
      exact fok [cRev, cWithin] [false, true] [pF h1, pT (neB_T hz)] (by kernel_rfl)
def cQuarter : Con where
  f := 89
  g := fun | [⟨true, l⟩, ⟨true, [.i x A, .i y B]⟩] => if A ≤ c27 ∧ B ≤ c27 then (toEd l).map fun e => (.one (blV (inQ e x y)), [e.ok = true]) else none | _ => none
  ok := by
    intro args res ps h hp
    split at h <;> try cases h
    split at h <;> try cases h
    rename_i hb
    rename_i l x A y B
    cases he : toEd l with
    | none => simp [he] at h
    | some e =>
      simp only [he, Option.map_some, Option.some.injEq, Prod.mk.injEq] at h
      obtain ⟨rfl, rfl⟩ := h
      exact (quarter_ok e x y hp.1).pre fun W => rvs_1 (ed_ok he hp.1) (rvs_1 (pt_low hb.1 hb.2) rvs_0)
/-- A root and a spot. -/
def spV (s : Sp) : V1 := ⟨true, [.i s.x lim, .i s.y lim, .i s.dx lim, .i s.dy lim, .i s.p lim, .i s.q lim, .i s.len lim]⟩
def rsV (r : Rt × Sp) : AV := .tup [rtV r.1, spV r.2]
theorem zero_sub' (x : Int) : 0 - x = -x := by omega
end Go.Proofs.YtighahcllmoajaaGreat

namespace Go.Proofs.YtighahcllmoajaaGreat
open Go.RowKit

theorem coord_F {x y : Int} (h : coordB x y = true) : (!coordB x y) = false := by rw [h]; rfl
theorem coord_T {x y : Int} (h : coordB x y = false) : (!coordB x y) = true := by rw [h]; rfl
theorem mulP_sq {x : Int} (h : I64 x) : (mulP (ofZ x) (ofZ x)).1 = ofZ (x * x) := by
  have s0 := (Wd.of64 h).small (by omega)
  have s1 := ((Wd.of64 h).mul (Wd.of64 h)).small (by omega)
  rw [mulP_small' s0 s0 s1]
def cPower : Con where
  f := 87
  g := fun | [⟨false, [.i x _]⟩] => some (.one (nmV (ofZ (x * x))), []) | _ => none
  ok := by
    intro args res ps h _
    split at h <;> cases h
    intro W vals hv
    have hx := hv
    simp only [rvs_cons, rvs_nil, rv_i] at hx
    obtain ⟨_, ⟨⟨_, hi⟩, rfl⟩, _, rfl, rfl⟩ := hx
    rw [← mulP_sq hi]
    exact fok [cOf, cMul] [] [] (by kernel_rfl) W _ hv
def KP : List Con := [cOf, cPower, cRtOf, cChk, cVRight, cRad, cQuarter]
set_option maxRecDepth 100000 in
theorem point_ok (e : Ed) (x y : Int) (hok : e.ok = true) (hc : coordB x y = true) : Fok Tryz.prog 13 [edV e 3 c26, ptV x y c26] (rsV (pointR e x y)) := by
  have P1 := pF (chk_F hok)
  have P2 := pF (coord_F hc)
  have e0 : pointR e x y = if e.k = 1 then lineR e x y else arcR e x y := by unfold pointR; rw [hok, hc]; rfl
  rw [e0]
  by_cases hk : e.k = 1
  · have hk1 : (e.k == 1) = true := by simpa using hk
    rw [if_pos hk]
    unfold lineR
    split
    · rename_i h1
      exact fok KP [false, false, true, true] [P1, P2, pT hk1, pT (decide_eq_true h1)] (by kernel_rfl)
    · rename_i h1
      split
      · rename_i h2
        exact fok KP [false, false, true, false, true] [P1, P2, pT hk1, pF (decide_eq_false h1), pT (ge_T h2)] (by kernel_rfl)
      · rename_i h2
        exact fok KP [false, false, true, false, false] [P1, P2, pT hk1, pF (decide_eq_false h1), pF (ge_F h2)] (by kernel_rfl)
  · have hk1 : (e.k == 1) = false := by simpa using hk
    rw [if_neg hk]
    unfold arcR
    split
    · rename_i hq
      by_cases h2 : radZ e * radZ e ≤ sqI (x - e.cx) (y - e.cy)
      · rw [if_pos h2, ← zero_sub' (radZ e)]
        exact fok KP [false, false, false, true, true] [P1, P2, pF hk1, pP hok, pP hok, pT hq, pT (ge_T h2)] (by kernel_rfl)
      · rw [if_neg h2]
        exact fok KP [false, false, false, true, false, true] [P1, P2, pF hk1, pP hok, pP hok, pT hq, pF (ge_F h2), pP hok, pT hq] (by kernel_rfl)
    · rename_i hq
      replace hq := Bool.eq_false_iff.2 hq
      split
      · rename_i h2
        exact fok KP [false, false, false, false, false, true] [P1, P2, pF hk1, pP hok, pP hok, pF hq, pP hok, pF hq, pT (decide_eq_true h2)] (by kernel_rfl)
      · rename_i h2
        exact fok KP [false, false, false, false, false, false] [P1, P2, pF hk1, pP hok, pP hok, pF hq, pP hok, pF hq, pF (decide_eq_false h2)] (by kernel_rfl)
set_option maxRecDepth 100000 in
theorem point_no (e : Ed) (x y : Int) (h : (e.ok && coordB x y) = false) : Fok Tryz.prog 13 [edV e lim lim, ptV x y lim] (rsV (pointR e x y)) := by
  rw [show pointR e x y = (Rt.no, Sp.no) by unfold pointR; rw [h]; rfl]
  cases ho : e.ok with
  | false => exact fok KP [true] [pT (chk_T ho)] (by kernel_rfl)
  | true =>
    rw [ho] at h
    exact fok KP [false, true] [pF (chk_F ho), pT (coord_T h)] (by kernel_rfl)
def cPoint : Con where
  f := 13
  g := fun | [⟨true, l⟩, ⟨true, [.i x _, .i y _]⟩] => (toEd l).map fun e => (rsV (pointR e x y), []) | _ => none
  ok := by
    intro args res ps h hp
    split at h <;> try cases h
    rename_i l x A y B
    cases he : toEd l with
    | none => simp [he] at h
    | some e =>
      simp only [he, Option.map_some, Option.some.injEq, Prod.mk.injEq] at h
      obtain ⟨rfl, rfl⟩ := h
      cases hc : (e.ok && coordB x y) with
      | false => exact (point_no e x y hc).pre fun W => rvs_1 (ed_lim he) (rvs_1 pt_lim rvs_0)
      | true =>
        simp only [Bool.and_eq_true] at hc
        exact (point_ok e x y hc.1 hc.2).pre fun W => rvs_1 (ed_ok he hc.1) (rvs_1 (pt_co (coordB_iff.1 hc.2)) rvs_0)
end Go.Proofs.YtighahcllmoajaaGreat

namespace Go.Proofs.YtighahcllmoajaaGreat
open Go.RowKit
attribute [local go_sem] Gives givesU

/-- The sum of numbers. -/
def sumZ (l : List Nm) : Int := l.foldl (fun z a => z + a.z) 0
theorem sumZ_snoc (l : List Nm) (a : Nm) : sumZ (l ++ [a]) = sumZ l + a.z := by simp [sumZ]
theorem sumZ_take (l : List Nm) (k : Nat) (a : Nm) (h : l[k]? = some a) : sumZ (l.take (k + 1)) = sumZ (l.take k) + a.z := by
  have hk := (List.getElem?_eq_some_iff.1 h).1
  rw [List.take_succ_eq_append_getElem hk, sumZ_snoc]
  rw [List.getElem?_eq_getElem hk] at h
  cases h
  rfl
theorem addP_small {a b : Nm} {z : Int} (ra : a.right = true) (rb : b.right = true) (hz : a.z + b.z = z) (hs : small z = true) : addP a b = (ofZ z, true) := by
  unfold addP fit
  rw [ra, rb, hz, hs]
  rfl
theorem ofZ_zero : ofZ 0 = zero := by unfold zero ofZ; simp [digs_zero]

set_option maxRecDepth 100000 in
set_option maxHeartbeats 2000000 in
theorem root_sum (l : List Nm) (b : Nat) (n c : Nat) (w : World) (h : NRs w b l) (hn : n = l.length) (hl : l.length ≤ 1000) (hs : ∀ k, small (sumZ (l.take k)) = true) :
    Calls Tryz.prog 62 #[.slice (some ⟨b, 0, none⟩) n c] w (RetN w (ofZ (sumZ l))) := by
  subst hn
  have HS := Lib.hid hs
  clear hs
  have HN := Lib.hid h
  have hb := h.1
  clear h
  go_enter Tryz.func62, Tryz.ntmps62
  go_wp2_with fail
  obtain ⟨w1, W1⟩ : ∃ w1, Hid (w.alloc (.cells #[.bool false, .slice none 0 0] 36) = w1) := ⟨_, rfl⟩
  rw [W1.out]
  have hx1 : Ext w w1 := by rw [← W1.out]; exact bxx
  have s0 : w1.cell? ⟨w.heap.size, 0, none⟩ = some (.bool false) := by rw [← W1.out]; go_simp
  have s1 : w1.cell? ⟨w.heap.size, 1, none⟩ = some (.slice none 0 0) := by rw [← W1.out]; go_simp
  have sf : ∀ o, w1.frozen? ⟨w.heap.size, o, none⟩ = false := by intro o; rw [← W1.out]; go_simp
  have hz1 : w.heap.size < w1.heap.size := by rw [← W1.out]; simp
  go_loopw [9] (fun i wr => ∃ (k : Nat) (n' : Bool) (p' : Option Addr) (l' c' : Nat), k ≤ l.length ∧ i = .int .i64 (k : Int) ∧ wr.cell? ⟨w.heap.size, 0, none⟩ = some (.bool n') ∧ wr.cell? ⟨w.heap.size, 1, none⟩ = some (.slice p' l' c') ∧ (∀ o, wr.frozen? ⟨w.heap.size, o, none⟩ = false) ∧
      NR wr n' p' l' c' (ofZ (sumZ (l.take k))) ∧ (∀ x, p' = some x → w.heap.size < x.block) ∧ w.heap.size < wr.heap.size ∧ Ext w wr) (fun i _ => l.length - (intOf i).toNat)
  case atStart => exact ⟨0, false, none, 0, 0, Nat.zero_le _, rfl, s0, s1, sf, by rw [show sumZ (l.take 0) = 0 by simp [sumZ], ofZ_zero]; exact NR.zero _, fun x hx => (by cases hx), hz1, hx1⟩
  case round =>
    clear s0 s1 sf hz1 hx1
    obtain ⟨k, n', p', l', c', hk, rfl, s0, s1, sf, hnr, hnew, hzr, hx⟩ := hrel
    by_cases hlt : k < l.length
    · have hb2 : b < wr.heap.size := Nat.lt_of_lt_of_le hb hx.size
      obtain ⟨ra, n2, p2, l2, c2, e0, e1, hna⟩ := (HN.out.ext hx).2 k l[k] (List.getElem?_eq_getElem hlt)
      have PR := Lib.hid (sumZ_take l k l[k] (List.getElem?_eq_getElem hlt))
      clear hnew
      go_wp2_with fail
      have MP := Lib.hid (addP_small (ofZ_right (HS.out k)) ra (by rw [ofZ_z]; exact PR.out.symm) (HS.out (k + 1)))
      refine (num_Add (ofZ (sumZ (l.take k))) l[k] _ _ _ _ _ _ _ _ _ (hnr.alloc _) (hna.alloc _)).mono ?_
      rintro e w3 ⟨n3, p3, l3, c3, rfl, hnr3, hnew3, hx3⟩
      rw [MP.out] at hnr3 ⊢
      have hx4 : Ext wr w3 := Ext.step bxx hx3
      have hx5 : Ext w w3 := Ext.step hx hx4
      have s0' : w3.cell? ⟨w.heap.size, 0, none⟩ = some (.bool n') := (hx4.cell (p := ⟨w.heap.size, 0, none⟩) hzr).trans s0
      have s1' : w3.cell? ⟨w.heap.size, 1, none⟩ = some (.slice p' l' c') := (hx4.cell (p := ⟨w.heap.size, 1, none⟩) hzr).trans s1
      have sf' : ∀ o, w3.frozen? ⟨w.heap.size, o, none⟩ = false := fun o => (hx4.frozen (p := ⟨w.heap.size, o, none⟩) hzr).trans (sf o)
      have hw2 : w.heap.size < w3.heap.size := Nat.lt_of_lt_of_le hzr hx4.size
      have hnew4 : ∀ x, p3 = some x → w.heap.size < x.block := fun x hx => by have := hnew3 x hx; simp at this; omega
      have NEW := Lib.hid hnew4
      clear hnew3 hnew4 s0 s1 sf hnr hna hx3 e0 e1
      go_wp2_with fail
      refine ⟨⟨k + 1, n3, p3, l3, c3, by omega, rfl, by go_simp, by go_simp, fun o => by go_simp, ?_, fun x hx => NEW.out x hx, by simp; omega, bxx⟩, by simp [intOf]; omega⟩
      refine (NR.set' (NR.set' hnr3 _ ?_ _) _ ?_ _).alloc _
      · intro y hy; have := NEW.out y hy; simp; omega
      · intro y hy; have := NEW.out y hy; simp; omega
    · obtain rfl : k = l.length := by omega
      rw [List.take_of_length_le (Nat.le_refl _)] at hnr
      have HNW := Lib.hid hnew
      clear hnew
      go_wp2_with fail
      refine bodyPost_ret (v := .agg #[.bool n', .slice p' l' c']) (by simp [results, Tryz.results62, go_sem, *]) rfl ?_
      refine ⟨n', p', l', c', rfl, ?_, fun x hx => Nat.le_of_lt (HNW.out x hx), bxx⟩
      refine NR.set' (NR.set' hnr _ ?_ _) _ ?_ _
      · intro y hy; have := HNW.out y hy; simp; omega
      · intro y hy; have := HNW.out y hy; simp; omega
set_option maxRecDepth 100000 in
set_option maxHeartbeats 2000000 in
theorem root_opposite (a : Nm) (na : Bool) (pa : Option Addr) (la ca : Nat) (w : World) (ha : NR w na pa la ca a) (ra : a.right = true) (z : Int) (hz : -a.z = z) (hs : small z = true) :
    Calls Tryz.prog 64 #[.agg #[.bool na, .slice pa la ca]] w (RetN w (ofZ z)) := by
  have HA := Lib.hid ha
  have sm1 : small (-1) = true := by decide +kernel
  have rm1 := ofZ_right sm1
  have HS : Hid (∀ k, small (prodZ ([ofZ (-1), a].take k)) = true) := Lib.hid (by
    intro k
    match k with
    | 0 => exact small_one
    | 1 => simpa [prodZ, ofZ_z] using sm1
    | k + 2 =>
      have e : prodZ ([ofZ (-1), a].take (k + 2)) = z := by simp [prodZ, ofZ_z]; omega
      rw [e]; exact hs)
  have HP : Hid (prodZ [ofZ (-1), a] = z) := Lib.hid (by simp [prodZ, ofZ_z]; omega)
  clear ha hz hs sm1
  go_enter Tryz.func64, Tryz.ntmps64
  go_wp2_with fail
  refine wp_GR (w.heap.size + 1) (.cells #[.bool false, .slice none 0 0] 36) (fun W => Ext w W ∧ w.heap.size + 1 + 1 ≤ W.heap.size ∧ W.cell? ⟨w.heap.size, 0, none⟩ = some (.bool na) ∧ W.cell? ⟨w.heap.size, 1, none⟩ = some (.slice pa la ca)) ?_
  intro hSM hRKS
  refine F_num w (ofZ (-1)) (by rfl) (by rfl) (by intro W hW; (try dsimp only at hW); have hwW := (show w.heap.size ≤ W.heap.size by have hzz := hW; (repeat (first | exact hzz.size | exact hzz.1.size | replace hzz := hzz.1))); go_simp; exact (num_Of (-1) _ (by decide) (by decide)).mono fun _ _ h => RetN.isN hwW h) ?_; intro n1 p1 l1 c1 hn1; refine F_put ?_
  repeat (first | refine F_s ?_ | refine F_r ?_)
  refine F_ns2 (ofZ (-1)) a _ _ (by rfl) (by rfl) (by rfl) (by rfl) (by rfl) (fun W hW => ⟨hW.2, HA.out.ext hW.1.1.1⟩) rm1 ra ?_
  intro g
  refine F_put ?_
  repeat (first | refine F_s ?_ | refine F_r ?_)
  refine F_num w (ofZ z) (by rfl) (by rfl) (by intro W hW; (try dsimp only at hW); have hwW := (show w.heap.size ≤ W.heap.size by have hzz := hW; (repeat (first | exact hzz.size | exact hzz.1.size | replace hzz := hzz.1))); go_simp; exact ((HP.out ▸ root_times2 (ofZ (-1)) a g 2 W hW.2 HS.out)).mono fun _ _ h => RetN.isN hwW h) ?_; intro n2 p2 l2 c2 hn2; refine F_put ?_
  repeat (first | refine F_s ?_ | refine F_r ?_)
  refine F_w (fun W => _ ∧ NR W n2 p2 l2 c2 (ofZ z)) (fun W hW => ⟨⟨hW.1.1.1.1, hW.2⟩, hW.1.1.1.2⟩) ?_
  repeat (first | refine F_s ?_ | refine F_r ?_)
  rintro W ⟨⟨⟨⟨hx, hz, hc⟩, hn⟩, hb⟩, _⟩
  obtain ⟨c0, c1, _, hl⟩ := pt_block hb
  clear hc hb
  go_wp2
  refine bodyPost_ret (v := .agg #[.bool n2, .slice p2 l2 c2]) (by simp [results, Tryz.results64, go_sem, *]) rfl ?_
  exact ⟨n2, p2, l2, c2, rfl, hn, hn2, hx⟩
end Go.Proofs.YtighahcllmoajaaGreat
