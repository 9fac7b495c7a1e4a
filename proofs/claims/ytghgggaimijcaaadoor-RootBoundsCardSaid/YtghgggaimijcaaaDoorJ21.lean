/- More steps: calls that give roots; variables that hold roots. | More steps: stores of aggregates of any size, whole or into a part of a variable; loads of whole variables. | Plain: the text of a right root tells the root. | Plain: numbers as rows of rational numbers that draw together, their order, and the roots of whole numbers. -/
import Derived.Test.YtghgggaimijcaaaDoorJ09
import Derived.Test.YtghgggaimijcaaaDoorJ20
import Derived.Test.YtghgggaimijcaaaDoorJ14
import Derived.Test.YtghgggaimijcaaaDoorJ13
import Derived.Test.YtghgggaimijcaaaDoorJ01
import Derived.Laws.Tables
import Derived.Laws.Rows
import Derived.Laws.CopyRow
import Derived.Deep.WholeRow
set_option linter.unusedVariables false
set_option linter.unusedSimpArgs false

namespace Go.Proofs.YtghgggaimijcaaaDoor
open Go.RowKit

/-- A root is returned. -/
def RetRo (w : World) (a : Rt) (e : Ending) (w' : World) : Prop :=
  ∃ n p l c m q k d, e = .returned (.agg #[.int .i64 a.add, .int .i64 a.s, .bool n, .slice p l c, .bool m, .slice q k d]) ∧ NR w' n p l c a.n ∧ NR w' m q k d a.d ∧ Ext w w'
/-- The value is the root a. -/
def IsRo (W : World) (a : Rt) (v : Value) (w' : World) : Prop :=
  ∃ n p l c m q k d, v = .agg #[.int .i64 a.add, .int .i64 a.s, .bool n, .slice p l c, .bool m, .slice q k d] ∧ NR w' n p l c a.n ∧ NR w' m q k d a.d ∧ Ext W w'
/-- The value is the root and a bool. -/
def IsRb (W : World) (r : Rt × Bool) (v : Value) (w' : World) : Prop :=
  ∃ n p l c m q k d, v = .tuple #[.agg #[.int .i64 r.1.add, .int .i64 r.1.s, .bool n, .slice p l c, .bool m, .slice q k d], .bool r.2] ∧ NR w' n p l c r.1.n ∧ NR w' m q k d r.1.d ∧ Ext W w'
theorem RetRo.isRo {W : World} {a : Rt} {e : Ending} {w' : World} (h : RetRo W a e w') : ∃ v, e = .returned v ∧ IsRo W a v w' := by
  obtain ⟨n, p, l, c, m, q, k, d, rfl, h⟩ := h
  exact ⟨_, rfl, n, p, l, c, m, q, k, d, rfl, h⟩
theorem RetRt.isRb {W : World} {r : Rt × Bool} {e : Ending} {w' : World} (h : RetRt W r e w') : ∃ v, e = .returned v ∧ IsRb W r v w' := by
  obtain ⟨n, p, l, c, m, q, k, d, rfl, h⟩ := h
  exact ⟨_, rfl, n, p, l, c, m, q, k, d, rfl, h⟩
section
variable {P : Program} {ops : Array Oper} {S : World → Prop} {Q : Act → World → Prop} {o : Oper} {l : List Oper} {a : Act} {own : List Nat} {F : World → Prop}
/-- A call that gives a root. -/
theorem F_root (r : Rt) (hk : fkind o = 2) (hw : Region.wanted o (yielded ops a.tmps) = true)
    (hg : ∀ w, F w → Gives P o a w (IsRo w r))
    (h : ∀ n p l' c m q k d, WpF P ops S Q l (a.put o.dst (.agg #[.int .i64 r.add, .int .i64 r.s, .bool n, .slice p l' c, .bool m, .slice q k d])) own (fun w => (F w ∧ NR w n p l' c r.n) ∧ NR w m q k d r.d)) : WpF P ops S Q (o :: l) a own F := by
  refine .eff hk hw ((Bool × Option Addr × Nat × Nat) × Bool × Option Addr × Nat × Nat) (fun t => .agg #[.int .i64 r.add, .int .i64 r.s, .bool t.1.1, .slice t.1.2.1 t.1.2.2.1 t.1.2.2.2, .bool t.2.1, .slice t.2.2.1 t.2.2.2.1 t.2.2.2.2])
    (fun t w => NR w t.1.1 t.1.2.1 t.1.2.2.1 t.1.2.2.2 r.n ∧ NR w t.2.1 t.2.2.1 t.2.2.2.1 t.2.2.2.2 r.d) (fun t w w' h hb => ⟨h.1.ext hb, h.2.ext hb⟩) (fun w hf => ?_) ?_
  · refine (hg w hf).imp ?_
    rintro v w' ⟨n, p, l, c, m, q, k, d, rfl, h1, h2, h3⟩
    exact ⟨((n, p, l, c), m, q, k, d), rfl, h3, h1, h2⟩
  · rintro ⟨⟨n, p, l', c⟩, m, q, k, d⟩ _
    have e : (fun w => F w ∧ NR w n p l' c r.n ∧ NR w m q k d r.d) = (fun w => (F w ∧ NR w n p l' c r.n) ∧ NR w m q k d r.d) := by
      funext w; exact propext and_assoc.symm
    have := h n p l' c m q k d
    rw [← e] at this
    exact this
/-- A call that gives a root and a bool. -/
theorem F_rootB (r : Rt × Bool) (hk : fkind o = 2) (hw : Region.wanted o (yielded ops a.tmps) = true)
    (hg : ∀ w, F w → Gives P o a w (IsRb w r))
    (h : ∀ n p l' c m q k d, WpF P ops S Q l (a.put o.dst (.tuple #[.agg #[.int .i64 r.1.add, .int .i64 r.1.s, .bool n, .slice p l' c, .bool m, .slice q k d], .bool r.2])) own (fun w => (F w ∧ NR w n p l' c r.1.n) ∧ NR w m q k d r.1.d)) : WpF P ops S Q (o :: l) a own F := by
  refine .eff hk hw ((Bool × Option Addr × Nat × Nat) × Bool × Option Addr × Nat × Nat) (fun t => .tuple #[.agg #[.int .i64 r.1.add, .int .i64 r.1.s, .bool t.1.1, .slice t.1.2.1 t.1.2.2.1 t.1.2.2.2, .bool t.2.1, .slice t.2.2.1 t.2.2.2.1 t.2.2.2.2], .bool r.2])
    (fun t w => NR w t.1.1 t.1.2.1 t.1.2.2.1 t.1.2.2.2 r.1.n ∧ NR w t.2.1 t.2.2.1 t.2.2.2.1 t.2.2.2.2 r.1.d) (fun t w w' h hb => ⟨h.1.ext hb, h.2.ext hb⟩) (fun w hf => ?_) ?_
  · refine (hg w hf).imp ?_
    rintro v w' ⟨n, p, l, c, m, q, k, d, rfl, h1, h2, h3⟩
    exact ⟨((n, p, l, c), m, q, k, d), rfl, h3, h1, h2⟩
  · rintro ⟨⟨n, p, l', c⟩, m, q, k, d⟩ _
    have e : (fun w => F w ∧ NR w n p l' c r.1.n ∧ NR w m q k d r.1.d) = (fun w => (F w ∧ NR w n p l' c r.1.n) ∧ NR w m q k d r.1.d) := by
      funext w; exact propext and_assoc.symm
    have := h n p l' c m q k d
    rw [← e] at this
    exact this
end
/-- A variable that holds the root a. -/
def RV (W : World) (g : Nat) (a : Rt) (n1 : Bool) (p1 : Option Addr) (l1 c1 : Nat) (n2 : Bool) (p2 : Option Addr) (l2 c2 : Nat) : Prop :=
  RB W g a.add a.s n1 p1 l1 c1 n2 p2 l2 c2 ∧ NR W n1 p1 l1 c1 a.n ∧ NR W n2 p2 l2 c2 a.d
theorem RV.ext {W W' : World} {g : Nat} {a : Rt} {n1 n2 : Bool} {p1 p2 : Option Addr} {l1 c1 l2 c2 : Nat} (h : RV W g a n1 p1 l1 c1 n2 p2 l2 c2) (hx : Ext W W') : RV W' g a n1 p1 l1 c1 n2 p2 l2 c2 := ⟨h.1.ext hx, h.2.1.ext hx, h.2.2.ext hx⟩
end Go.Proofs.YtghgggaimijcaaaDoor

namespace Go.Proofs.YtghgggaimijcaaaDoor
open Go.RowKit

section
variable {P : Program} {ops : Array Oper} {S : World → Prop} {Q : Act → World → Prop} {o : Oper} {l : List Oper} {a : Act} {own : List Nat} {F : World → Prop}
/-- A store of an aggregate into (a part of) a variable. -/
theorem F_storeA (R : World → Prop) (g off : Nat) (cs vs cs' : Array Value) (T ty : TypeId) (x y : Operand) (ho : o.op = .store ty x y) (hk : fkind o = 3) (hw : Region.wanted o (yielded ops a.tmps) = true)
    (hx : a.eval x = .pointer (some ⟨g, off, none⟩)) (hy : a.eval y = .agg vs) (hi : (P.info? ty).map (·.size) = some vs.size) (hsz : off + vs.size ≤ cs.size) (h1 : vs.all (·.oneCell') = true) (he : putAt cs off vs = cs')
    (hF : ∀ W, F W → R W ∧ W.heap[g]? = some (.cells cs T)) (hR : RK g (.cells cs T) R) (hm : FMono R) (hs : ∀ W, R W → S W)
    (h : WpF P ops S Q l (a.put o.dst undef) own (fun W => (R W ∧ W.heap[g]? = some (.cells cs' T)) ∧ ∀ g ∈ own, g < W.heap.size)) : WpF P ops S Q (o :: l) a own F := by
  refine F_store (fun W => R W ∧ W.heap[g]? = some (.cells cs' T)) (hm.and (fmono_obj _ _)) (fun W h => hs W h.1) hk hw (fun W hf => ?_) h
  obtain ⟨hr, hb⟩ := hF W hf
  obtain ⟨k1, k2⟩ := onlyB_setRow (cs' := cs') hb
  have e : (execOp a.eval o).run P W = .ok .skip (W.setRow g cs') := by
    have := run_storeVar_at (P := P) W g off T ty cs vs hb hi hsz h1
    rw [he] at this
    unfold execOp
    simp only [ho, hx, hy, Instr.storeAt, Instr.sureAddr, Sem.run_bind, Sem.run_pure, Result.andThen, this]
  unfold Gives
  rw [e]
  exact ⟨rfl, by rw [k1.size]; exact Nat.le_refl _, hR W _ hr hb k1, k2⟩
/-- A load of a whole variable. -/
theorem F_loadA (g : Nat) (cs : Array Value) (T ty : TypeId) (x : Operand) (d : TypeDesc) (ho : o.op = .load ty x) (hw : Region.wanted o (yielded ops a.tmps) = true)
    (hx : a.eval x = .pointer (some ⟨g, 0, none⟩)) (hu : P.underlying ty = some d) (hd : (match d with | .struct _ | .array _ _ => true | _ => false) = true) (hi : (P.info? ty).map (·.size) = some cs.size)
    (hS : ∀ W, S W → W.heap[g]? = some (.cells cs T)) (h : WpF P ops S Q l (a.put o.dst (.agg cs)) own F) : WpF P ops S Q (o :: l) a own F := by
  refine F_run hw (fun W hs => ?_) h
  unfold execOp
  simp only [ho, hx, Instr.loadAt, Instr.sureAddr, Sem.run_bind, Sem.run_pure, Result.andThen, run_loadVar_row W g T ty cs (0, 0) d (hS W hs) hu hd hi]
end
end Go.Proofs.YtghgggaimijcaaaDoor

namespace Go.Proofs.YtghgggaimijcaaaDoor
open Go.RowKit
open Go.Lib (decDigits decDigits_one decDigits_length nDigits)

def digB (c : UInt8) : Bool := decide (48 ≤ c.toNat) && decide (c.toNat ≤ 57)
theorem dig_all : ∀ (n : Nat) (c : UInt8), c ∈ decDigits n → digB c = true := by
  intro n
  induction n using Nat.strongRecOn with
  | _ n ih =>
    intro c hc
    have one : ∀ k, k < 10 → digB (UInt8.ofNat (48 + k)) = true := by
      intro k hk
      have e : (UInt8.ofNat (48 + k)).toNat = 48 + k := by simp; omega
      simp only [digB, e, Bool.and_eq_true, decide_eq_true_eq]
      omega
    by_cases h : n < 10
    · rw [decDigits_one h] at hc
      have := List.mem_singleton.1 hc
      subst this
      exact one n h
    · rw [decDigits_more h] at hc
      rcases List.mem_append.1 hc with g | g
      · exact ih (n / 10) (by omega) c g
      · have := List.mem_singleton.1 g
        subst this
        exact one (n % 10) (by omega)
theorem dec_inj : ∀ (m n : Nat), decDigits m = decDigits n → m = n := by
  intro m
  induction m using Nat.strongRecOn with
  | _ m ih =>
    intro n h
    have one : ∀ j k, j < 10 → k < 10 → UInt8.ofNat (48 + j) = UInt8.ofNat (48 + k) → j = k := by
      intro j k hj hk e
      have := congrArg UInt8.toNat e
      simp at this
      omega
    by_cases hm : m < 10
    · by_cases hn : n < 10
      · rw [decDigits_one hm, decDigits_one hn] at h
        simp only [List.cons.injEq, and_true] at h
        exact one m n hm hn h
      · exfalso
        rw [decDigits_one hm, decDigits_more hn] at h
        have := congrArg List.length h
        have := dec_pos (n / 10)
        simp only [List.length_append, List.length_singleton] at *
        omega
    · by_cases hn : n < 10
      · exfalso
        rw [decDigits_one hn, decDigits_more hm] at h
        have := congrArg List.length h
        have := dec_pos (m / 10)
        simp only [List.length_append, List.length_singleton] at *
        omega
      · rw [decDigits_more hm, decDigits_more hn] at h
        obtain ⟨h1, h2⟩ := List.append_inj' h rfl
        simp only [List.cons.injEq, and_true] at h2
        have e1 := ih (m / 10) (by omega) (n / 10) h1
        have e2 := one (m % 10) (n % 10) (by omega) (by omega) h2
        omega
/-- Begins with no digit. -/
def NoDig (l : List UInt8) : Prop := ∀ c r, l = c :: r → digB c = false
theorem noDig_nil : NoDig [] := by intro c r h; cases h
theorem noDig_cons {c : UInt8} {r : List UInt8} (h : digB c = false) : NoDig (c :: r) := by
  intro c' r' e
  cases e
  exact h
theorem dig_split : ∀ (a b r s : List UInt8), (∀ c ∈ a, digB c = true) → (∀ c ∈ b, digB c = true) → NoDig r → NoDig s → a ++ r = b ++ s → a = b ∧ r = s
  | [], [], r, s, _, _, _, _, h => ⟨rfl, h⟩
  | [], y :: b, r, s, _, hb, hr, _, h => by
    have := hr y (b ++ s) h
    rw [hb y (List.mem_cons_self ..)] at this
    cases this
  | x :: a, [], r, s, ha, _, _, hs, h => by
    have := hs x (a ++ r) h.symm
    rw [ha x (List.mem_cons_self ..)] at this
    cases this
  | x :: a, y :: b, r, s, ha, hb, hr, hs, h => by
    simp only [List.cons_append, List.cons.injEq] at h
    obtain ⟨h1, h2⟩ := dig_split a b r s (fun c hc => ha c (List.mem_cons_of_mem _ hc)) (fun c hc => hb c (List.mem_cons_of_mem _ hc)) hr hs h.2
    exact ⟨by rw [h.1, h1], h2⟩
/-- The text of an int. -/
def textI (z : Int) : List UInt8 := if z < 0 then 45 :: decDigits z.natAbs else decDigits z.natAbs
theorem textI_split {y z : Int} {r s : List UInt8} (hr : NoDig r) (hs : NoDig s) (h : textI y ++ r = textI z ++ s) : y = z ∧ r = s := by
  unfold textI at h
  have d0 : ∀ n, ∃ c l, decDigits n = c :: l ∧ digB c = true := by
    intro n
    have := dec_pos n
    obtain ⟨c, l, e⟩ : ∃ c l, decDigits n = c :: l := List.exists_cons_of_ne_nil (fun e => by rw [e] at this; simp at this)
    exact ⟨c, l, e, dig_all n c (by rw [e]; exact List.mem_cons_self ..)⟩
  have n45 : digB 45 = false := by decide
  split at h <;> split at h
  · simp only [List.cons_append, List.cons.injEq, true_and] at h
    obtain ⟨h1, h2⟩ := dig_split _ _ _ _ (dig_all _) (dig_all _) hr hs h
    have := dec_inj _ _ h1
    exact ⟨by omega, h2⟩
  · exfalso
    obtain ⟨c, l, e, hc⟩ := d0 z.natAbs
    rw [e] at h
    simp only [List.cons_append, List.cons.injEq] at h
    rw [← h.1, n45] at hc
    cases hc
  · exfalso
    obtain ⟨c, l, e, hc⟩ := d0 y.natAbs
    rw [e] at h
    simp only [List.cons_append, List.cons.injEq] at h
    rw [h.1, n45] at hc
    cases hc
  · obtain ⟨h1, h2⟩ := dig_split _ _ _ _ (dig_all _) (dig_all _) hr hs h
    have := dec_inj _ _ h1
    exact ⟨by omega, h2⟩
/-- What the text of a root is. -/
def textD (d : Nm) : List UInt8 := if d.z = 1 then [] else 47 :: textL d
def textS (a : Rt) : List UInt8 := if a.s = 1 then 43 :: 114 :: textL a.n else if a.s = -1 then 45 :: 114 :: textL a.n else []
def textR (a : Rt) : List UInt8 := if a.right then textI a.add ++ (textS a ++ textD a.d) else []
theorem textL_dec {a : Nm} (h : a.right = true) (hn : a.neg = false) : textL a = decDigits (val a.d) := by
  unfold textL
  rw [h, if_pos rfl, hn]
  rfl
theorem noDig_D (d : Nm) : NoDig (textD d) := by
  unfold textD
  split
  · exact noDig_nil
  · exact noDig_cons (by decide)
theorem text_inj {a b : Rt} (da : Dig a.n.d ∧ Dig a.d.d) (db : Dig b.n.d ∧ Dig b.d.d) (ra : a.right = true) (rb : b.right = true) (h : textR a = textR b) : a = b := by
  obtain ⟨ka, _⟩ := right_ok da.1 da.2 ra
  obtain ⟨kb, _⟩ := right_ok db.1 db.2 rb
  unfold textR at h
  rw [ra, rb, if_pos rfl, if_pos rfl] at h
  have nd : ∀ x : Rt, NoDig (textS x ++ textD x.d) := by
    intro x
    unfold textS
    split
    · exact noDig_cons (by decide)
    · split
      · exact noDig_cons (by decide)
      · exact noDig_D _
  obtain ⟨e0, h1⟩ := textI_split (nd a) (nd b) h
  have eN : ∀ {x y : Nm}, Dig x.d → Dig y.d → x.right = true → y.right = true → x.neg = false → y.neg = false → val x.d = val y.d → x = y := by
    intro x y dx dy rx ry nx ny e
    rw [← ofZ_of_right dx rx, ← ofZ_of_right dy ry, z_pos nx, z_pos ny, e]
  have zd := z_pos ka.dn
  have ze := z_pos kb.dn
  have tn := textL_dec ka.nr ka.nn
  have tm := textL_dec kb.nr kb.nn
  have td := textL_dec ka.dr ka.dn
  have te := textL_dec kb.dr kb.dn
  have dD : textD a.d = textD b.d → a.d = b.d := by
    intro e
    unfold textD at e
    refine eN da.2 db.2 ka.dr kb.dr ka.dn kb.dn ?_
    split at e <;> split at e
    · omega
    · cases e
    · cases e
    · simp only [List.cons.injEq, true_and] at e
      rw [td, te] at e
      exact dec_inj _ _ e
  have fin : a.s = b.s → a.n = b.n → a.d = b.d → a = b := by
    intro e1 e2 e3
    cases a; cases b
    simp only at *
    subst e0 e1 e2 e3
    rfl
  have a1 := ka.sl
  have a2 := ka.su
  have b1 := kb.sl
  have b2 := kb.su
  have rest : textL a.n ++ textD a.d = textL b.n ++ textD b.d → a.n = b.n ∧ a.d = b.d := by
    intro e
    rw [tn, tm] at e
    obtain ⟨e1, e2⟩ := dig_split _ _ _ _ (dig_all _) (dig_all _) (noDig_D _) (noDig_D _) e
    exact ⟨eN da.1 db.1 ka.nr kb.nr ka.nn kb.nn (dec_inj _ _ e1), dD e2⟩
  have none : ∀ {x : Rt}, x.Ok → x.s = 0 → textD x.d = [] := by
    intro x kx h0
    unfold textD
    rw [if_pos]
    rw [z_pos kx.dn, (kx.n0 h0).2]; rfl
  unfold textS at h1
  rcases (show a.s = 1 ∨ a.s = -1 ∨ a.s = 0 by omega) with ha | ha | ha <;> rcases (show b.s = 1 ∨ b.s = -1 ∨ b.s = 0 by omega) with hb | hb | hb <;> rw [ha, hb] at h1
  · simp only [if_true, List.cons_append, List.cons.injEq, true_and] at h1
    obtain ⟨e1, e2⟩ := rest h1
    exact fin (by omega) e1 e2
  · simp at h1
  · rw [none kb hb] at h1; simp at h1
  · simp at h1
  · rw [if_neg (by decide), if_pos rfl, if_neg (by decide), if_pos rfl] at h1
    simp only [List.cons_append, List.cons.injEq, true_and] at h1
    obtain ⟨e1, e2⟩ := rest h1
    exact fin (by omega) e1 e2
  · rw [none kb hb] at h1; simp at h1
  · rw [none ka ha] at h1; simp at h1
  · rw [none ka ha] at h1; simp at h1
  · have v1 := ka.n0 ha
    have v2 := kb.n0 hb
    exact fin (by omega) (eN da.1 db.1 ka.nr kb.nr ka.nn kb.nn (by omega)) (eN da.2 db.2 ka.dr kb.dr ka.dn kb.dn (by omega))
end Go.Proofs.YtghgggaimijcaaaDoor

namespace Go.Proofs.YtghgggaimijcaaaDoor
theorem rat_tot (a b : Rat) : a ≤ b ∨ b ≤ a := Rat.le_total
theorem rat_div {a b : Rat} (ha : 0 < a) (hb : 0 < b) : 0 < a / b := by rw [Rat.div_def]; exact Rat.mul_pos ha (Rat.inv_pos.2 hb)
/-- Numbers as rows of rational numbers that draw together. -/
structure Re where
  f : Nat → Rat
  c : ∀ e : Rat, 0 < e → ∃ N, ∀ j k, N ≤ j → N ≤ k → f j - f k ≤ e
theorem Re.bd (x : Re) : ∃ (B : Rat) (N : Nat), 0 < B ∧ ∀ k, N ≤ k → -B ≤ x.f k ∧ x.f k ≤ B := by
  obtain ⟨N, h⟩ := x.c 1 (by decide)
  refine ⟨(if 0 ≤ x.f N then x.f N else -x.f N) + 1, N, ?_, fun k hk => ?_⟩
  · split <;> grind
  · have h1 := h k N hk (Nat.le_refl _)
    have h2 := h N k (Nat.le_refl _) hk
    split <;> grind
def Re.int (z : Int) : Re := ⟨fun _ => (z : Rat), fun e he => ⟨0, fun j k _ _ => by grind⟩⟩
def Re.add (x y : Re) : Re := ⟨fun k => x.f k + y.f k, fun e he => by
  obtain ⟨N, h⟩ := x.c (e / 2) (by grind)
  obtain ⟨M, g⟩ := y.c (e / 2) (by grind)
  refine ⟨N + M, fun j k hj hk => ?_⟩
  have h1 := h j k (by omega) (by omega)
  have h2 := g j k (by omega) (by omega)
  grind⟩
def Re.neg (x : Re) : Re := ⟨fun k => -x.f k, fun e he => by
  obtain ⟨N, h⟩ := x.c e he
  exact ⟨N, fun j k hj hk => by have h1 := h k j hk hj; grind⟩⟩
theorem mul_bd {a b B e : Rat} (hB : 0 < B) (h1 : -B ≤ a) (h2 : a ≤ B) (h3 : -e ≤ b) (h4 : b ≤ e) : a * b ≤ B * e := by
  have he : 0 ≤ e := by grind
  rcases rat_tot 0 a with h | h
  · have k1 := Rat.mul_le_mul_of_nonneg_left h4 h
    have k2 := Rat.mul_le_mul_of_nonneg_right h2 he
    grind
  · have k1 := Rat.mul_le_mul_of_nonneg_left h3 (show 0 ≤ -a by grind)
    have k2 := Rat.mul_le_mul_of_nonneg_right (show -a ≤ B by grind) he
    grind
def Re.mul (x y : Re) : Re := ⟨fun k => x.f k * y.f k, fun e he => by
  obtain ⟨B, N, hB, hb⟩ := x.bd
  obtain ⟨C, M, hC, hc⟩ := y.bd
  have e1 : 0 < e / (2 * B) := rat_div he (by grind)
  have e2 : 0 < e / (2 * C) := rat_div he (by grind)
  obtain ⟨K, h⟩ := x.c _ e2
  obtain ⟨L, g⟩ := y.c _ e1
  refine ⟨N + M + K + L, fun j k hj hk => ?_⟩
  have b1 := hb j (by omega)
  have b2 := hc k (by omega)
  have h1 := h j k (by omega) (by omega)
  have h2 := h k j (by omega) (by omega)
  have g1 := g j k (by omega) (by omega)
  have g2 := g k j (by omega) (by omega)
  have m1 := mul_bd (e := e / (2 * B)) hB b1.1 b1.2 (show _ ≤ y.f j - y.f k by grind) g1
  have m2 := mul_bd (e := e / (2 * C)) hC b2.1 b2.2 (show _ ≤ x.f j - x.f k by grind) h1
  have q1 : B * (e / (2 * B)) = e / 2 := by grind
  have q2 : C * (e / (2 * C)) = e / 2 := by grind
  grind⟩
/-- Not negative. -/
def nn (x : Re) : Prop := ∀ e : Rat, 0 < e → ∃ N, ∀ k, N ≤ k → -e ≤ x.f k
theorem nn_eq {x y : Re} (h : nn x) (e : ∀ k, x.f k = y.f k) : nn y := fun d hd => by
  obtain ⟨N, g⟩ := h d hd
  exact ⟨N, fun k hk => by rw [← e]; exact g k hk⟩
theorem nn_of {x : Re} (h : ∀ k, 0 ≤ x.f k) : nn x := fun d hd => ⟨0, fun k _ => by have := h k; grind⟩
theorem nn_add {x y : Re} (h : nn x) (g : nn y) : nn (x.add y) := fun e he => by
  obtain ⟨N, h⟩ := h (e / 2) (by grind)
  obtain ⟨M, g⟩ := g (e / 2) (by grind)
  refine ⟨N + M, fun k hk => ?_⟩
  have h1 := h k (by omega)
  have h2 := g k (by omega)
  show -e ≤ x.f k + y.f k
  grind
/-- Greater than 0. -/
def ps (x : Re) : Prop := ∃ (e : Rat) (N : Nat), 0 < e ∧ ∀ k, N ≤ k → e ≤ x.f k
theorem ps_nn {x : Re} (h : ps x) : nn x := fun e he => by
  obtain ⟨d, N, hd, h⟩ := h
  exact ⟨N, fun k hk => by have := h k hk; grind⟩
theorem ps_not {x : Re} (h : ps x) : ¬ nn x.neg := fun g => by
  obtain ⟨d, N, hd, h⟩ := h
  obtain ⟨M, g⟩ := g (d / 2) (by grind)
  have h1 := h (N + M) (by omega)
  have h2 := g (N + M) (by omega)
  have h3 : -(d / 2) ≤ -x.f (N + M) := h2
  grind
theorem ps_of {x : Re} (h : ¬ nn x.neg) : ps x := by
  have : ∃ e : Rat, 0 < e ∧ ∀ N, ∃ k, N ≤ k ∧ e < x.f k := by
    apply Classical.byContradiction
    intro hn
    apply h
    intro e he
    apply Classical.byContradiction
    intro h2
    apply hn
    refine ⟨e, he, fun N => ?_⟩
    apply Classical.byContradiction
    intro h3
    apply h2
    refine ⟨N, fun k hk => ?_⟩
    show -e ≤ -x.f k
    rcases rat_tot (x.f k) e with g | g
    · grind
    · rcases Rat.le_iff_lt_or_eq.1 g with g | g
      · exact absurd ⟨k, hk, g⟩ h3
      · grind
  obtain ⟨e, he, h⟩ := this
  obtain ⟨N, g⟩ := x.c (e / 2) (by grind)
  obtain ⟨j, hj, h⟩ := h N
  exact ⟨e / 2, N, by grind, fun k hk => by have := g j k hj hk; grind⟩
theorem nn_or (x : Re) : nn x ∨ nn x.neg := by
  by_cases h : nn x.neg
  · exact .inr h
  · exact .inl (ps_nn (ps_of h))
theorem ps_mul {x y : Re} (h : ps x) (g : ps y) : ps (x.mul y) := by
  obtain ⟨d, N, hd, h⟩ := h
  obtain ⟨e, M, he, g⟩ := g
  refine ⟨d * e, N + M, Rat.mul_pos hd he, fun k hk => ?_⟩
  have h1 := h k (by omega)
  have h2 := g k (by omega)
  have k1 := Rat.mul_le_mul_of_nonneg_left h2 (show 0 ≤ d by grind)
  have k2 := Rat.mul_le_mul_of_nonneg_right h1 (show 0 ≤ y.f k by grind)
  show d * e ≤ x.f k * y.f k
  grind
theorem ps_add {x y : Re} (h : ps x) (g : nn y) : ps (x.add y) := by
  obtain ⟨d, N, hd, h⟩ := h
  obtain ⟨M, g⟩ := g (d / 2) (by grind)
  refine ⟨d / 2, N + M, by grind, fun k hk => ?_⟩
  have h1 := h k (by omega)
  have h2 := g k (by omega)
  show d / 2 ≤ x.f k + y.f k
  grind
theorem nn_mul {x y : Re} (h : nn x) (g : nn y) : nn (x.mul y) := fun e he => by
  obtain ⟨B, N, hB, hb⟩ := x.bd
  obtain ⟨C, M, hC, hc⟩ := y.bd
  have e1 : 0 < e / (B + C) := rat_div he (by grind)
  obtain ⟨K, h⟩ := h _ e1
  obtain ⟨L, g⟩ := g _ e1
  refine ⟨N + M + K + L, fun k hk => ?_⟩
  have b1 := hb k (by omega)
  have b2 := hc k (by omega)
  have h1 := h k (by omega)
  have h2 := g k (by omega)
  have q : (B + C) * (e / (B + C)) = e := by grind
  obtain ⟨t, ht⟩ : ∃ t, e / (B + C) = t := ⟨_, rfl⟩
  rw [ht] at h1 h2 q e1
  show -e ≤ x.f k * y.f k
  obtain ⟨a, ha⟩ : ∃ a, x.f k = a := ⟨_, rfl⟩
  obtain ⟨b, hb'⟩ : ∃ b, y.f k = b := ⟨_, rfl⟩
  rw [ha] at b1 h1 ⊢
  rw [hb'] at b2 h2 ⊢
  rcases rat_tot 0 a with s | s
  · rcases rat_tot 0 b with r | r
    · have := Rat.mul_nonneg s r; grind
    · have k1 := Rat.mul_le_mul_of_nonneg_left h2 s
      have k2 := Rat.mul_le_mul_of_nonneg_right b1.2 (show 0 ≤ t by grind)
      have k3 := Rat.mul_nonneg (show 0 ≤ C by grind) (show 0 ≤ t by grind)
      grind
  · rcases rat_tot 0 b with r | r
    · have k1 := Rat.mul_le_mul_of_nonneg_right h1 r
      have k2 := Rat.mul_le_mul_of_nonneg_right b2.2 (show 0 ≤ t by grind)
      have k3 := Rat.mul_nonneg (show 0 ≤ B by grind) (show 0 ≤ t by grind)
      grind
    · have := Rat.mul_nonneg (show 0 ≤ -a by grind) (show 0 ≤ -b by grind); grind

/-- The root of a whole number, rounded down. -/
def isq : Nat → Nat
  | 0 => 0
  | m + 1 => if (isq m + 1) * (isq m + 1) ≤ m + 1 then isq m + 1 else isq m
theorem isq_ok : ∀ m, isq m * isq m ≤ m ∧ m < (isq m + 1) * (isq m + 1)
  | 0 => by decide
  | m + 1 => by
    obtain ⟨h1, h2⟩ := isq_ok m
    unfold isq
    split
    · rename_i h
      refine ⟨h, ?_⟩
      have e : (isq m + 1 + 1) * (isq m + 1 + 1) = (isq m + 1) * (isq m + 1) + 2 * (isq m + 1) + 1 := by grind
      omega
    · omega
theorem pow_cast (k : Nat) : ((2 ^ k : Nat) : Rat) * ((2 ^ k : Nat) : Rat) = ((4 ^ k : Nat) : Rat) := by
  rw [← Rat.natCast_mul, ← Nat.mul_pow]
theorem pow_posR (k : Nat) : (0 : Rat) < ((2 ^ k : Nat) : Rat) := by
  have : 0 < 2 ^ k := Nat.pow_pos (by decide)
  exact Rat.natCast_pos.2 this
theorem sq_canc {a b p : Rat} (hp : 0 < p) (h : a * (p * p) ≤ b * (p * p)) : a ≤ b := by
  rcases rat_tot a b with g | g
  · exact g
  · rcases Rat.le_iff_lt_or_eq.1 g with g | g
    · have := Rat.mul_lt_mul_of_pos_right g (Rat.mul_pos hp hp); grind
    · grind
theorem sq_le {a b : Rat} (hb : 0 ≤ b) (h : a * a ≤ b * b) : a ≤ b := by
  rcases rat_tot a b with g | g
  · exact g
  · rcases Rat.le_iff_lt_or_eq.1 g with g | g
    · have k1 := Rat.mul_lt_mul_of_pos_right g (show 0 < a by grind)
      have k2 := Rat.mul_le_mul_of_nonneg_left (show b ≤ a by grind) hb
      grind
    · grind
def rtf (c k : Nat) : Rat := ((isq (c * 4 ^ k) : Nat) : Rat) / ((2 ^ k : Nat) : Rat)
def tk (k : Nat) : Rat := 1 / ((2 ^ k : Nat) : Rat)
theorem tk_pos (k : Nat) : 0 < tk k := rat_div (by decide) (pow_posR k)
theorem rtf_nn (c k : Nat) : 0 ≤ rtf c k := by
  unfold rtf
  have hp := pow_posR k
  have h0 : (0 : Rat) ≤ ((isq (c * 4 ^ k) : Nat) : Rat) := Rat.natCast_nonneg
  rw [Rat.div_def]
  exact Rat.mul_nonneg h0 (by have := Rat.inv_pos.2 hp; grind)
theorem rtf_bd (c k : Nat) : rtf c k * rtf c k ≤ (c : Rat) ∧ (c : Rat) ≤ (rtf c k + tk k) * (rtf c k + tk k) := by
  obtain ⟨h1, h2⟩ := isq_ok (c * 4 ^ k)
  have h1 : ((isq (c * 4 ^ k) * isq (c * 4 ^ k) : Nat) : Rat) ≤ ((c * 4 ^ k : Nat) : Rat) := Rat.natCast_le_natCast.2 h1
  have h2 : ((c * 4 ^ k : Nat) : Rat) ≤ (((isq (c * 4 ^ k) + 1) * (isq (c * 4 ^ k) + 1) : Nat) : Rat) := Rat.natCast_le_natCast.2 (Nat.le_of_lt h2)
  rw [Rat.natCast_mul, Rat.natCast_mul, ← pow_cast] at h1 h2
  rw [Rat.natCast_add] at h2
  have hp := pow_posR k
  unfold rtf tk
  generalize ((isq (c * 4 ^ k) : Nat) : Rat) = r at *
  generalize ((2 ^ k : Nat) : Rat) = p at *
  generalize (c : Rat) = d at *
  have hp0 : p ≠ 0 := by grind
  obtain ⟨x, X⟩ : ∃ x, r / p = x := ⟨_, rfl⟩
  obtain ⟨t, T⟩ : ∃ t, 1 / p = t := ⟨_, rfl⟩
  have e1 : r = x * p := by rw [← X]; grind
  have e2 : 1 = t * p := by rw [← T]; grind
  rw [X, T]
  have h3 : ((1 : Nat) : Rat) = 1 := rfl
  rw [h3] at h2
  constructor
  · refine sq_canc hp ?_
    rw [e1] at h1
    grind
  · refine sq_canc hp ?_
    have e3 : r + 1 = (x + t) * p := by grind
    rw [e3] at h2
    grind
theorem rat_den (e : Rat) : e * (e.den : Rat) = (e.num : Rat) := by
  have h := Rat.mkRat_self e
  rw [Rat.mkRat_eq_div] at h
  have hd : ((e.den : Nat) : Rat) ≠ 0 := by
    have := e.den_pos
    have h2 : (0 : Rat) < ((e.den : Nat) : Rat) := Rat.natCast_pos.2 this
    grind
  generalize ((e.den : Nat) : Rat) = d at *
  generalize ((e.num : Int) : Rat) = n at *
  rw [← h]
  grind
theorem rat_num {e : Rat} (h : 0 < e) : 0 < e.num := by
  have := (Rat.lt_iff _ _).1 h
  simpa using this
theorem arch (b : Nat) {e : Rat} (he : 0 < e) : ∃ N, ∀ k, N ≤ k → (b : Rat) * tk k ≤ e := by
  refine ⟨b * e.den, fun k hk => ?_⟩
  have h1 : (b * e.den : Nat) < 2 ^ k := Nat.lt_of_le_of_lt hk Nat.lt_two_pow_self
  have h2 : ((b * e.den : Nat) : Rat) ≤ ((2 ^ k : Nat) : Rat) := Rat.natCast_le_natCast.2 (Nat.le_of_lt h1)
  rw [Rat.natCast_mul] at h2
  have h3 : e * (e.den : Rat) = (e.num : Rat) := rat_den e
  have h4 : (1 : Rat) ≤ (e.num : Rat) := by
    have : 0 < e.num := rat_num he
    have : (1 : Int) ≤ e.num := this
    exact Rat.intCast_le_intCast.2 this
  have h5 := Rat.mul_le_mul_of_nonneg_left h2 (show 0 ≤ e by grind)
  have h6 := Rat.mul_le_mul_of_nonneg_left h4 (show (0 : Rat) ≤ (b : Rat) from Rat.natCast_nonneg)
  have hp := pow_posR k
  unfold tk
  generalize ((2 ^ k : Nat) : Rat) = p at *
  have h7 : (b : Rat) ≤ e * p := by grind
  obtain ⟨t, T⟩ : ∃ t, 1 / p = t := ⟨_, rfl⟩
  have hp0 : p ≠ 0 := by grind
  have e2 : 1 = t * p := by rw [← T]; grind
  have ht : 0 < t := by rw [← T]; exact rat_div (by decide) hp
  rw [T]
  have h8 := Rat.mul_le_mul_of_nonneg_right h7 (show 0 ≤ t by grind)
  have h9 : e * p * t = e := by rw [Rat.mul_assoc, Rat.mul_comm p t, ← e2, Rat.mul_one]
  rw [h9] at h8
  exact h8
/-- The root of a number. -/
def Re.rt (c : Nat) : Re := ⟨rtf c, fun e he => by
  obtain ⟨N, h⟩ := arch 1 he
  refine ⟨N, fun j k _ hk => ?_⟩
  have h1 := h k hk
  have h2 : ((1 : Nat) : Rat) = 1 := rfl
  rw [h2] at h1
  have h3 := (rtf_bd c j).1
  have h4 := (rtf_bd c k).2
  have h5 := sq_le (show 0 ≤ rtf c k + tk k by have := rtf_nn c k; have := tk_pos k; grind) (show rtf c j * rtf c j ≤ _ by grind)
  grind⟩
theorem rt_nn (c : Nat) : nn (Re.rt c) := nn_of fun k => rtf_nn c k
theorem rt_le (c : Nat) (k : Nat) : rtf c k ≤ (c : Rat) + 1 := by
  have h := (rtf_bd c k).1
  have h0 : (0 : Rat) ≤ (c : Rat) := Rat.natCast_nonneg
  refine sq_le (by grind) ?_
  have := Rat.mul_nonneg h0 h0
  grind
theorem rt_up (c : Nat) : nn ((Re.int c).add ((Re.rt c).mul (Re.rt c)).neg) := nn_of fun k => by
  have h := (rtf_bd c k).1
  show 0 ≤ ((c : Int) : Rat) + -(rtf c k * rtf c k)
  rw [Rat.intCast_natCast]
  grind
theorem rt_dn (c : Nat) : nn (((Re.rt c).mul (Re.rt c)).add (Re.int c).neg) := fun e he => by
  obtain ⟨N, h⟩ := arch (2 * (c + 1) + 1) he
  refine ⟨N, fun k hk => ?_⟩
  have h1 := h k hk
  have h2 := (rtf_bd c k).2
  have h3 := rt_le c k
  have h4 := tk_pos k
  have h5 : tk k ≤ 1 := by
    have hp := pow_posR k
    have : ((1 : Nat) : Rat) ≤ ((2 ^ k : Nat) : Rat) := Rat.natCast_le_natCast.2 (Nat.pow_pos (by decide))
    have h6 : ((1 : Nat) : Rat) = 1 := rfl
    rw [h6] at this
    unfold tk
    generalize ((2 ^ k : Nat) : Rat) = p at *
    obtain ⟨t, T⟩ : ∃ t, 1 / p = t := ⟨_, rfl⟩
    have hp0 : p ≠ 0 := by grind
    have e2 : 1 = t * p := by rw [← T]; grind
    have ht : 0 < t := by rw [← T]; exact rat_div (by decide) hp
    rw [T]
    have := Rat.mul_le_mul_of_nonneg_left this (show 0 ≤ t by grind)
    grind
  show -e ≤ rtf c k * rtf c k + -((c : Int) : Rat)
  rw [Rat.intCast_natCast]
  have e1 : ((2 * (c + 1) + 1 : Nat) : Rat) = 2 * ((c : Rat) + 1) + 1 := by
    rw [Rat.natCast_add, Rat.natCast_mul, Rat.natCast_add]; rfl
  rw [e1] at h1
  have k1 := Rat.mul_le_mul_of_nonneg_right h3 (show 0 ≤ tk k by grind)
  have k2 := Rat.mul_le_mul_of_nonneg_right h5 (show 0 ≤ tk k by grind)
  generalize rtf c k = r at *
  generalize tk k = t at *
  generalize (c : Rat) = d at *
  grind
end Go.Proofs.YtghgggaimijcaaaDoor
