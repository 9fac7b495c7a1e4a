/- The kernel's walker at work: contracts as a table. | Plain: long division of digits (shifted, guess, reduce, divide). | Plain: long division of digits, second part. -/
import Derived.Test.YtighahcllmoajaaGreatJ12
import Derived.Test.YtighahcllmoajaaGreatJ14
import Derived.Test.YtighahcllmoajaaGreatJ01
import Derived.Test.YtighahcllmoajaaGreatJ13
set_option linter.unusedVariables false
set_option linter.unusedSimpArgs false

namespace Go.Proofs.YtighahcllmoajaaGreat
open Go.RowKit
structure Con where
 f : FuncId
 g : List V1 -> Option (AV × List Prop)
 ok : ∀ args res ps, g args = some (res, ps) -> All ps -> Fok Tryz.prog f args res
def tab : List Con -> FuncId -> Option (List V1 -> Option (AV × List Prop))
 | [], _ => none
 | c :: l, f => if c.f = f then some c.g else tab l f
theorem tab_ok : ∀ l : List Con, KOk Tryz.prog (tab l)
 | [], _, _, _, _, _, h => by cases h
 | c :: l, f, g, args, res, ps, h => by
  unfold tab at h
  split at h
  ·rename_i e
   cases h
   subst e
   exact c.ok args res ps
  ·exact tab_ok l f g args res ps h
theorem prog_nm (f : FuncId) (fn : Func) (h : Tryz.prog.funcs[f]? = some fn) : (fn.name == "runtime.NumGoroutine") = false := by
 have h0 : (Tryz.prog.funcs.toList.all fun fn => !(fn.name == "runtime.NumGoroutine")) = true := by kernel_rfl
 have := List.all_eq_true.1 h0 fn (by rw [Array.mem_toList_iff]; exact Array.mem_of_getElem? h)
 simpa using this
theorem sc_int {x : Sc} (h : x.kind = false) : ∃ z, x = .i z := by cases x <;> first | exact ⟨_, rfl⟩ | cases h
theorem sc_bool {x : Sc} (h : x.kind = true) : ∃ z, x = .b z := by cases x <;> first | exact ⟨_, rfl⟩ | cases h
theorem sc_cons {xs : List Sc} {b : Bool} {n : List Bool} (h : xs.map Sc.kind = b :: n) : ∃ x l, xs = x :: l /\ x.kind = b /\ l.map Sc.kind = n := by
 cases xs with
 | nil => cases h
 | cons x l => simp only [List.map_cons, List.cons.injEq] at h; exact ⟨x, l, rfl, h.1, h.2⟩
theorem sc_nil {xs : List Sc} (h : xs.map Sc.kind = []) : xs = [] := by simpa using h
theorem equal_of {t : TypeId} {u v : Value} {e : Bool} {w : World} (hb : binOp .eql t u v = (do pure (.bool (<- Op.equal t u v)))) (h : (binOp .eql t u v).run Tryz.prog w = .ok (.bool e) w) : (Op.equal t u v).run Tryz.prog w = .ok e w := by
 rw [hb, Sem.run_bind] at h
 cases hr : (Op.equal t u v).run Tryz.prog w with
 | ok b w' =>
  rw [hr] at h
  simp only [Result.andThen_ok, Sem.run_pure, Result.ok.injEq, Value.bool.injEq] at h
  rw [h.1, h.2]
 | halt x w' => rw [hr] at h; cases h
theorem eq_pt : EqOk Tryz.prog 24 [false, false] := by
 refine ⟨by kernel_rfl, fun xs ys hx hy w => ?_⟩
 obtain ⟨_, _, rfl, h1, hx⟩ := sc_cons hx
 obtain ⟨_, _, rfl, h2, hx⟩ := sc_cons hx
 obtain rfl := sc_nil hx
 obtain ⟨_, _, rfl, h3, hy⟩ := sc_cons hy
 obtain ⟨_, _, rfl, h4, hy⟩ := sc_cons hy
 obtain rfl := sc_nil hy
 obtain ⟨a, rfl⟩ := sc_int h1
 obtain ⟨b, rfl⟩ := sc_int h2
 obtain ⟨c, rfl⟩ := sc_int h3
 obtain ⟨d, rfl⟩ := sc_int h4
 exact equal_of rfl (eql_pt w a b c d)
theorem eq_b2 : EqOk Tryz.prog 93 [true, true] := by
 refine ⟨by kernel_rfl, fun xs ys hx hy w => ?_⟩
 obtain ⟨_, _, rfl, h1, hx⟩ := sc_cons hx
 obtain ⟨_, _, rfl, h2, hx⟩ := sc_cons hx
 obtain rfl := sc_nil hx
 obtain ⟨_, _, rfl, h3, hy⟩ := sc_cons hy
 obtain ⟨_, _, rfl, h4, hy⟩ := sc_cons hy
 obtain rfl := sc_nil hy
 obtain ⟨a, rfl⟩ := sc_bool h1
 obtain ⟨b, rfl⟩ := sc_bool h2
 obtain ⟨c, rfl⟩ := sc_bool h3
 obtain ⟨d, rfl⟩ := sc_bool h4
 cases a <;> cases b <;> cases c <;> cases d <;> kernel_rfl
theorem eql_spot (w : World) (a0 a1 a2 a3 a4 a5 a6 b0 b1 b2 b3 b4 b5 b6 : Int) : (binOp .eql 40 (.agg #[.int .i64 a0, .int .i64 a1, .int .i64 a2, .int .i64 a3, .int .i64 a4, .int .i64 a5, .int .i64 a6]) (.agg #[.int .i64 b0, .int .i64 b1, .int .i64 b2, .int .i64 b3, .int .i64 b4, .int .i64 b5, .int .i64 b6])).run Tryz.prog w = .ok (.bool (a0 == b0 && (a1 == b1 && (a2 == b2 && (a3 == b3 && (a4 == b4 && (a5 == b5 && a6 == b6))))))) w := by
 by_cases h0 : a0 = b0
 rotate_left
 ·have g0 : (a0 == b0) = false := by simpa using h0
  go_simp
 subst h0
 by_cases h1 : a1 = b1
 rotate_left
 ·have g1 : (a1 == b1) = false := by simpa using h1
  go_simp
 subst h1
 by_cases h2 : a2 = b2
 rotate_left
 ·have g2 : (a2 == b2) = false := by simpa using h2
  go_simp
 subst h2
 by_cases h3 : a3 = b3
 rotate_left
 ·have g3 : (a3 == b3) = false := by simpa using h3
  go_simp
 subst h3
 by_cases h4 : a4 = b4
 rotate_left
 ·have g4 : (a4 == b4) = false := by simpa using h4
  go_simp
 subst h4
 by_cases h5 : a5 = b5
 rotate_left
 ·have g5 : (a5 == b5) = false := by simpa using h5
  go_simp
 subst h5
 by_cases h6 : a6 = b6
 rotate_left
 ·have g6 : (a6 == b6) = false := by simpa using h6
  go_simp
 subst h6
 go_simp
theorem eq_spot : EqOk Tryz.prog 40 [false, false, false, false, false, false, false] := by
 refine ⟨by kernel_rfl, fun xs ys hx hy w => ?_⟩
 obtain ⟨_, _, rfl, h0, hx⟩ := sc_cons hx
 obtain ⟨_, _, rfl, h1, hx⟩ := sc_cons hx
 obtain ⟨_, _, rfl, h2, hx⟩ := sc_cons hx
 obtain ⟨_, _, rfl, h3, hx⟩ := sc_cons hx
 obtain ⟨_, _, rfl, h4, hx⟩ := sc_cons hx
 obtain ⟨_, _, rfl, h5, hx⟩ := sc_cons hx
 obtain ⟨_, _, rfl, h6, hx⟩ := sc_cons hx
 obtain rfl := sc_nil hx
 obtain ⟨_, _, rfl, k0, hy⟩ := sc_cons hy
 obtain ⟨_, _, rfl, k1, hy⟩ := sc_cons hy
 obtain ⟨_, _, rfl, k2, hy⟩ := sc_cons hy
 obtain ⟨_, _, rfl, k3, hy⟩ := sc_cons hy
 obtain ⟨_, _, rfl, k4, hy⟩ := sc_cons hy
 obtain ⟨_, _, rfl, k5, hy⟩ := sc_cons hy
 obtain ⟨_, _, rfl, k6, hy⟩ := sc_cons hy
 obtain rfl := sc_nil hy
 obtain ⟨_, rfl⟩ := sc_int h0
 obtain ⟨_, rfl⟩ := sc_int k0
 obtain ⟨_, rfl⟩ := sc_int h1
 obtain ⟨_, rfl⟩ := sc_int k1
 obtain ⟨_, rfl⟩ := sc_int h2
 obtain ⟨_, rfl⟩ := sc_int k2
 obtain ⟨_, rfl⟩ := sc_int h3
 obtain ⟨_, rfl⟩ := sc_int k3
 obtain ⟨_, rfl⟩ := sc_int h4
 obtain ⟨_, rfl⟩ := sc_int k4
 obtain ⟨_, rfl⟩ := sc_int h5
 obtain ⟨_, rfl⟩ := sc_int k5
 obtain ⟨_, rfl⟩ := sc_int h6
 obtain ⟨_, rfl⟩ := sc_int k6
 exact equal_of rfl (eql_spot w _ _ _ _ _ _ _ _ _ _ _ _ _ _)
def EQ : List (TypeId × List Bool) := [(24, [false, false]), (93, [true, true]), (40, [false, false, false, false, false, false, false])]
theorem EQ_ok (t : TypeId) (n : List Bool) (h : EQ.lookup t = some n) : EqOk Tryz.prog t n := by
 unfold EQ at h
 simp only [List.lookup] at h
 split at h
 ·rename_i e
  cases h
  rw [beq_iff_eq.1 e]
  exact eq_pt
 ·split at h
  ·rename_i e
   cases h
   rw [beq_iff_eq.1 e]
   exact eq_b2
  ·split at h
   ·rename_i e
    cases h
    rw [beq_iff_eq.1 e]
    exact eq_spot
   ·cases h
theorem fok0 {f : FuncId} {args : List V1} {res : AV} (h : aFun Tryz.prog ⟨[], [], [], []⟩ (fun _ => none) 40 f args [] = some ((res, []), [], [])) : Fok Tryz.prog f args res :=
 FokB.toO ((aFun_ok prog_nm (E := ⟨[], [], [], []⟩) (fun _ _ h => by cases h) (fun _ _ h => by cases h) (fun _ _ _ _ h => by cases h) (fun _ h => by cases h) (fun _ _ _ _ _ h => by cases h) 40).ok f args [] (res, []) _ [] h trivial)
theorem mt_of {T : TypeId} {name : String} {n : Int} {wd : Nat} {f : FuncId} {fn : Func} {cb : Code} (hm : ∀ v w, (method (Tryz.prog.types.size + Made.depth) T v name).run Tryz.prog w = Result.ok (f, v) w) (h1 : Tryz.prog.funcs[f]? = some fn) (h2 : fn.body = some cb) (hF : ∀ l, l.length = wd -> Fok Tryz.prog f [⟨true, intsI l⟩] (.one ⟨false, [.k n]⟩)) (hi : I64 n) : MtOk Tryz.prog T name n wd := by
 refine ⟨hi, fun o c x l a w ho hc ha hx hwd => ?_⟩
 have hnm := prog_nm f fn h1
 have hrun : (execOp a.eval o).run Tryz.prog w = .ok (.enter f #[.agg (l.map fun x : Int × Nat => Value.int .i64 x.1).toArray]) w := by
  have e0 : c.args = #[] := Array.eq_empty_of_size_eq_zero ha
  have h3 : fn.name ≠ "runtime.NumGoroutine" := by simpa using hnm
  have e1 : ∀ v, (callMethod (.iface T v) name #[]).run Tryz.prog w = .ok (.enter f #[v]) w := fun v => by
   simp only [callMethod, Sem.run_bind, run_program, hm, Result.andThen_ok, callFunc, h1]
   simp [h3, h2]
  unfold execOp
  simp only [ho, resolve, hc, e0, hx.1, Sem.run_bind, Sem.run_pure, Result.andThen_ok, invoke]
  generalize (Value.agg (l.map fun x : Int × Nat => Value.int .i64 x.1).toArray) = v
  rw [show #[Value.iface T v] ++ Array.map a.eval #[] = #[Value.iface T v] by simp]
  have e2 : (#[Value.iface T v].extract 1) = #[] := by simp
  simp only [List.getElem?_toArray, List.getElem?_cons_zero]
  rw [e2]
  exact e1 v
 refine gives_enter hrun ?_
 refine (hF l hwd w [_] ⟨_, _, rfl, ⟨_, rl_map (fun x hx' => ⟨rfl, hx.2 x hx'⟩), rfl, nofun⟩, rfl⟩).mono fun e w' ⟨v, e1, h1, h2⟩ => ⟨v, e1, ?_, h2⟩
 simpa using h1.scal.1
theorem len_s {α : Type} {l : List α} {n : Nat} (h : l.length = n + 1) : ∃ x m, l = x :: m /\ m.length = n := by
 cases l with
 | nil => simp at h
 | cons x m => exact ⟨x, m, rfl, by simpa using h⟩
def MT : List ((TypeId × String) × Int × Nat) := [((151, "etchant/meet.kind"), 0, 2), ((153, "etchant/meet.kind"), 1, 4), ((156, "etchant/meet.kind"), 2, 7)]
theorem mt_point : MtOk Tryz.prog 151 "etchant/meet.kind" 0 2 := by
 refine mt_of (f := 204) (fun v w => by kernel_rfl) Tryz.func204 rfl (fun l h0 => ?_) (by unfold I64; omega)
 obtain ⟨x0, l0, rfl, h1⟩ := len_s h0
 obtain ⟨x1, l1, rfl, h2⟩ := len_s h1
 obtain rfl := List.eq_nil_of_length_eq_zero h2
 exact fok0 (by kernel_rfl)
theorem mt_line : MtOk Tryz.prog 153 "etchant/meet.kind" 1 4 := by
 refine mt_of (f := 205) (fun v w => by kernel_rfl) Tryz.func205 rfl (fun l h0 => ?_) (by unfold I64; omega)
 obtain ⟨x0, l0, rfl, h1⟩ := len_s h0
 obtain ⟨x1, l1, rfl, h2⟩ := len_s h1
 obtain ⟨x2, l2, rfl, h3⟩ := len_s h2
 obtain ⟨x3, l3, rfl, h4⟩ := len_s h3
 obtain rfl := List.eq_nil_of_length_eq_zero h4
 exact fok0 (by kernel_rfl)
theorem mt_arc : MtOk Tryz.prog 156 "etchant/meet.kind" 2 7 := by
 refine mt_of (f := 206) (fun v w => by kernel_rfl) Tryz.func206 rfl (fun l h0 => ?_) (by unfold I64; omega)
 obtain ⟨x0, l0, rfl, h1⟩ := len_s h0
 obtain ⟨x1, l1, rfl, h2⟩ := len_s h1
 obtain ⟨x2, l2, rfl, h3⟩ := len_s h2
 obtain ⟨x3, l3, rfl, h4⟩ := len_s h3
 obtain ⟨x4, l4, rfl, h5⟩ := len_s h4
 obtain ⟨x5, l5, rfl, h6⟩ := len_s h5
 obtain ⟨x6, l6, rfl, h7⟩ := len_s h6
 obtain rfl := List.eq_nil_of_length_eq_zero h7
 exact fok0 (by kernel_rfl)
theorem MT_ok (T : TypeId) (name : String) (n : Int) (wd : Nat) (h : MT.lookup (T, name) = some (n, wd)) : MtOk Tryz.prog T name n wd := by
 unfold MT at h
 simp only [List.lookup] at h
 split at h
 ·rename_i e
  cases h
  obtain ⟨rfl, rfl⟩ := Prod.mk.inj (beq_iff_eq.1 e)
  exact mt_point
 ·split at h
  ·rename_i e
   cases h
   obtain ⟨rfl, rfl⟩ := Prod.mk.inj (beq_iff_eq.1 e)
   exact mt_line
  ·split at h
   ·rename_i e
    cases h
    obtain ⟨rfl, rfl⟩ := Prod.mk.inj (beq_iff_eq.1 e)
    exact mt_arc
   ·cases h
structure Eff where
 f : FuncId
 g : EffF
 ok : EffOk Tryz.prog f g
def WR : List FuncId := [60]
theorem WR_ok (f : FuncId) (h : WR.contains f = true) : WrapOk Tryz.prog f := by
 obtain rfl : f = 60 := by simpa [WR] using h
 exact guard_wrap
def env (X : List Eff) : Env := ⟨EQ, X.map (fun x => (x.f, x.g)), MT, WR⟩
theorem env_ok (X : List Eff) (f : FuncId) (g : EffF) (h : (env X).eff.lookup f = some g) : EffOk Tryz.prog f g := by
 induction X with
 | nil => cases h
 | cons x X ih =>
  simp only [env, List.map_cons, List.lookup] at h ih
  split at h
  ·rename_i e
   cases h
   rw [beq_iff_eq.1 e]
   exact x.ok
  ·exact ih h
theorem fokB {f : FuncId} {args : List V1} {res : AV} (K : List Con) (q : List Bool) (pf : List Pf) (X : List Eff) (h : aFun Tryz.prog (env X) (tab K) 40 f args q = some ((res, []), pf.map Pf.p, [])) : Fok Tryz.prog f args res :=
 FokB.toO ((aFun_ok prog_nm EQ_ok (env_ok X) MT_ok WR_ok (tab_ok K) 40).ok f args q (res, []) _ [] h (all_pf pf))
theorem lax_i {V W : World} {r : Nat -> Nat} {k : Nat} {i : It} {cs : List Value} (h1 : RepI V W r k i cs) : RepI V W r k (laxI i) cs := by
 cases i with
 | i z B => exact ⟨h1.1, by have := h1.2.2; unfold I64 at this; unfold lim; omega, h1.2.2⟩
 | b k => exact ⟨h1, rfl⟩
 | k n => exact ⟨h1.1, by have := h1.2; unfold I64 at this; unfold lim; omega, h1.2⟩
 | _ => exact h1
theorem lax_l {V W : World} {r : Nat -> Nat} {k : Nat} : ∀ {l : List It} {cs : List Value}, RepL V W r k l cs -> RepL V W r k (laxL l) cs
 | [], _, e => e
 | i :: l, _, ⟨c, d, e, h1, h2⟩ => by
  unfold laxL
  split
  ·obtain ⟨c2, d2, e2, h3, h4⟩ := h2
   subst e2 e
   cases h1
   rw [h3.1]
   exact ⟨[_, _], d2, rfl, ⟨_, _, _, _, rfl, ⟨rfl, rfl, Row.nil _⟩⟩, lax_l h4⟩
  ·exact ⟨c, d, e, lax_i h1, lax_l h2⟩
theorem lax_v {V W : World} {r : Nat -> Nat} {k : Nat} {v : V1} {x : Value} : RepV V W r k v x -> RepV V W r k (laxV v) x
 | ⟨cs, h1, h2, h3⟩ => ⟨cs, lax_l h1, h2, h3⟩
theorem lax_vs {V W : World} {r : Nat -> Nat} {k : Nat} : ∀ {l : List V1} {xs : List Value}, RepVs V W r k l xs -> RepVs V W r k (l.map laxV) xs
 | [], _, e => e
 | _ :: _, _, ⟨x, ys, e, h1, h2⟩ => ⟨x, ys, e, lax_v h1, lax_vs h2⟩
theorem lax_a {V W : World} {r : Nat -> Nat} {k : Nat} : ∀ {v : AV} {x : Value}, RepA V W r k v x -> RepA V W r k (laxA v) x
 | .und, _, e => e
 | .any, _, e => e
 | .one _, _, e => lax_v e
 | .tup _, _, ⟨xs, e, h⟩ => ⟨xs, e, lax_vs h⟩
theorem Fok.mono {f : FuncId} {args : List V1} {res res' : AV} (h : Fok Tryz.prog f args res) (hr : ∀ W x, RepA W W (fun _ => 0) 0 res x -> RepA W W (fun _ => 0) 0 res' x) : Fok Tryz.prog f args res' :=
 fun W vals hv => (h W vals hv).mono fun _ _ ⟨v, h1, h2, h3⟩ => ⟨v, h1, hr _ _ h2, h3⟩
theorem fokX {f : FuncId} {args : List V1} {res : AV} (X : List Eff) (K : List Con) (q : List Bool) (pf : List Pf) (h : (aFun Tryz.prog (env X) (tab K) 40 f args q).map (fun z => ((laxA z.1.1, z.1.2), z.2)) = some ((res, []), pf.map Pf.p, [])) : Fok Tryz.prog f args res := by
 cases hz : aFun Tryz.prog (env X) (tab K) 40 f args q with
 | none => rw [hz] at h; cases h
 | some z =>
  obtain ⟨⟨z0, z1⟩, z2, z3⟩ := z
  rw [hz] at h
  simp only [Option.map_some, Option.some.injEq, Prod.mk.injEq] at h
  obtain ⟨⟨rfl, rfl⟩, rfl, rfl⟩ := h
  exact (fokB K q pf X hz).mono fun _ _ h => lax_a h
theorem fok {f : FuncId} {args : List V1} {res : AV} (K : List Con) (q : List Bool) (pf : List Pf) (h : (aFun Tryz.prog (env []) (tab K) 40 f args q).map (fun z => ((laxA z.1.1, z.1.2), z.2)) = some ((res, []), pf.map Pf.p, [])) : Fok Tryz.prog f args res := fokX [] K q pf h
section
variable {V W : World} {r : Nat -> Nat} {k : Nat}
theorem rl_nil {cs : List Value} : RepL V W r k [] cs ↔ cs = [] := Iff.rfl
theorem rl_i {z : Int} {B : Nat} {l : List It} {cs : List Value} : RepL V W r k (.i z B :: l) cs ↔ (z.natAbs <= B /\ I64 z) /\ ∃ d, cs = .int .i64 z :: d /\ RepL V W r k l d :=
 ⟨fun ⟨c, d, e, ⟨h1, h2⟩, h3⟩ => ⟨h2, d, by rw [e, h1]; rfl, h3⟩, fun ⟨h, d, e, h3⟩ => ⟨[_], d, e, ⟨rfl, h⟩, h3⟩⟩
theorem rl_v {x : Value} {l : List It} {cs : List Value} : RepL V W r k (.v x :: l) cs ↔ okV x = true /\ ∃ d, cs = x :: d /\ RepL V W r k l d :=
 ⟨fun ⟨c, d, e, ⟨h1, h2⟩, h3⟩ => ⟨h2, d, by rw [e, h1]; rfl, h3⟩, fun ⟨h, d, e, h3⟩ => ⟨[_], d, e, ⟨rfl, h⟩, h3⟩⟩
theorem rl_b {x : Bool} {l : List It} {cs : List Value} : RepL V W r k (.b x :: l) cs ↔ ∃ d, cs = .bool x :: d /\ RepL V W r k l d :=
 ⟨fun ⟨c, d, e, h2, h3⟩ => ⟨d, by rw [e, show c = [Value.bool x] from h2]; rfl, h3⟩, fun ⟨d, e, h3⟩ => ⟨[_], d, e, rfl, h3⟩⟩
theorem rl_num {x : Nm} {l : List It} {cs : List Value} : RepL V W r k (.d (.num x) :: l) cs ↔ ∃ n p m c, NR W n p m c x /\ ∃ d, cs = .bool n :: .slice p m c :: d /\ RepL V W r k l d :=
 ⟨fun ⟨c, d, e, ⟨n, p, m, c', h1, h2⟩, h3⟩ => ⟨n, p, m, c', h2, d, by rw [e, h1]; rfl, h3⟩, fun ⟨n, p, m, c', h, d, e, h3⟩ => ⟨[_, _], d, e, ⟨n, p, m, c', rfl, h⟩, h3⟩⟩
theorem rv_t {l : List It} {x : Value} : RepV V W r k ⟨true, l⟩ x ↔ ∃ cs, RepL V W r k l cs /\ x = .agg cs.toArray :=
 ⟨fun ⟨cs, h1, h2, _⟩ => ⟨cs, h1, h2⟩, fun ⟨cs, h1, h2⟩ => ⟨cs, h1, h2, nofun⟩⟩
theorem rv_i {z : Int} {B : Nat} {x : Value} : RepV V W r k ⟨false, [.i z B]⟩ x ↔ (z.natAbs <= B /\ I64 z) /\ x = .int .i64 z :=
 ⟨fun h => ⟨h.scal.2, by simpa using h.scal.1⟩, fun ⟨h, e⟩ => RepI.val ⟨by rw [e], h⟩⟩
theorem rv_v {v x : Value} : RepV V W r k ⟨false, [.v v]⟩ x ↔ okV v = true /\ x = v :=
 ⟨fun h => ⟨h.scal.2, by simpa using h.scal.1⟩, fun ⟨h, e⟩ => RepI.val ⟨by rw [e], h⟩⟩
theorem rvs_nil {xs : List Value} : RepVs V W r k [] xs ↔ xs = [] := Iff.rfl
theorem rvs_cons {v : V1} {l : List V1} {xs : List Value} : RepVs V W r k (v :: l) xs ↔ ∃ x, RepV V W r k v x /\ ∃ ys, xs = x :: ys /\ RepVs V W r k l ys :=
 ⟨fun ⟨x, ys, e, h1, h2⟩ => ⟨x, h1, ys, e, h2⟩, fun ⟨x, h1, ys, e, h2⟩ => ⟨x, ys, e, h1, h2⟩⟩
end
def nmV (x : Nm) : V1 := ⟨true, [.d (.num x)]⟩
def blV (b : Bool) : V1 := ⟨false, [.v (.bool b)]⟩
def inV (z : Int) (B : Nat) : V1 := ⟨false, [.i z B]⟩
def ptV (x y : Int) (B : Nat) : V1 := ⟨true, [.i x B, .i y B]⟩
abbrev Gv (res : AV) (w : World) (e : Ending) (w' : World) : Prop := ∃ v, e = .returned v /\ RepA w' w' (fun _ => 0) 0 res v /\ Ext w w'
theorem gv_nm {x : Nm} {w : World} {e : Ending} {w' : World} (h : RetN w x e w') : Gv (.one (nmV x)) w e w' := by
 obtain ⟨n, p, l, c, rfl, h1, _, h2⟩ := h
 exact ⟨_, rfl, rv_t.2 ⟨_, rl_num.2 ⟨n, p, l, c, h1, [], rfl, rfl⟩, rfl⟩, h2⟩
theorem gv_nb {x : Nm × Bool} {w : World} {e : Ending} {w' : World} (h : RetNum w x e w') : Gv (.tup [nmV x.1, blV x.2]) w e w' := by
 obtain ⟨n, p, l, c, rfl, h1, _, h2⟩ := h
 exact ⟨_, rfl, ⟨[_, _], rfl, rvs_cons.2 ⟨_, rv_t.2 ⟨_, rl_num.2 ⟨n, p, l, c, h1, [], rfl, rfl⟩, rfl⟩, _, rfl, rvs_cons.2 ⟨_, rv_v.2 ⟨rfl, rfl⟩, _, rfl, rfl⟩⟩⟩, h2⟩
theorem gv_bl {b : Bool} {w : World} {e : Ending} {w' : World} (h : e = .returned (.bool b) /\ Ext w w') : Gv (.one (blV b)) w e w' := ⟨_, h.1, rv_v.2 ⟨rfl, rfl⟩, h.2⟩
theorem gv_in {z : Int} {B : Nat} {w : World} {e : Ending} {w' : World} (hB : z.natAbs <= B /\ I64 z) (h : e = .returned (.int .i64 z) /\ Ext w w') : Gv (.one (inV z B)) w e w' := ⟨_, h.1, rv_i.2 ⟨hB, rfl⟩, h.2⟩
end Go.Proofs.YtighahcllmoajaaGreat

namespace Go.Proofs.YtighahcllmoajaaGreat
theorem guess_dec {U V P u0 u2 high v0 v1 v2 q r : Nat} (hu0 : u0 < P) (hU : U = u0 + P * (u2 + 4294967296 * high)) (hV : V = v0 + P * (v2 + 4294967296 * v1)) (hlt : U < 4294967296 * V)
  (hq : q * v1 + r = high) (hle : U / V <= q) (h : 4294967296 <= q \/ r * 4294967296 + u2 < q * v2) : 1 <= q /\ U / V <= q - 1 := by
 have hV0 : 0 < V := by
  rcases Nat.eq_zero_or_pos V with e | e
  ·rw [e] at hlt; omega
  ·exact e
 rcases h with h | h
 ·have : U / V < 4294967296 := (Nat.div_lt_iff_lt_mul hV0).2 hlt
  omega
 ·have h1 : 1 <= q := by
   rcases Nat.eq_zero_or_pos q with e | e
   ·subst e; simp at h
   ·exact e
  refine ⟨h1, ?_⟩
  have : ¬ q <= U / V := by
   intro hc
   rw [Nat.le_div_iff_mul_le hV0] at hc
   have e1 : q * V = q * v0 + P * (q * v2) + P * (4294967296 * (q * v1)) := by rw [hV]; grind
   have e2 : U = u0 + P * u2 + P * (4294967296 * (q * v1)) + P * (r * 4294967296) := by rw [hU, <- hq]; grind
   have h2 := Nat.mul_le_mul_left P (Nat.succ_le_of_lt h)
   have e3 : P * Nat.succ (r * 4294967296 + u2) = P * (r * 4294967296) + P * u2 + P := by rw [Nat.succ_eq_add_one]; grind
   rw [e3] at h2
   rw [e1, e2] at hc
   generalize P * (4294967296 * (q * v1)) = x1 at *
   generalize P * (q * v2) = x2 at *
   generalize P * (r * 4294967296) = x3 at *
   generalize P * u2 = x4 at *
   generalize q * v0 = x5 at *
   omega
  omega
theorem guess_start {U V P w high v1 vr : Nat} (hw : w < P) (hU : U = w + P * high) (hV : V = vr + P * v1) (hv1 : 0 < v1) : U / V <= high / v1 := by
 have hP : 0 < P := by omega
 have hV0 : 0 < V := by
  have := Nat.mul_pos hP hv1
  omega
 rw [Nat.le_div_iff_mul_le hv1]
 have h := Nat.div_mul_le_self U V
 generalize U / V = q at *
 have e1 : q * V = q * vr + P * (q * v1) := by rw [hV]; grind
 have : P * (q * v1) < P * (high + 1) := by
  have e2 : P * (high + 1) = P * high + P := by grind
  rw [e1] at h
  rw [e2]
  generalize P * (q * v1) = x1 at *
  generalize P * high = x2 at *
  generalize q * vr = x3 at *
  omega
 have := Nat.lt_of_mul_lt_mul_left this
 omega
theorem guess_end {U V P u0 u1 u2 ut v0 v1 v2 q r : Nat} (hv0 : v0 < P) (hv1 : 0 < v1) (hv2 : v2 < 4294967296) (hu0 : u0 < P) (hu1 : u1 < 4294967296) (hU : U = u0 + P * (u2 + 4294967296 * (u1 + 4294967296 * ut))) (hV : V = v0 + P * (v2 + 4294967296 * v1)) (hlt : U < 4294967296 * V)
  (hq : q * v1 + r = u1 + 4294967296 * ut) (h : 4294967296 <= r \/ (q < 4294967296 /\ q * v2 <= r * 4294967296 + u2)) : q < 4294967296 /\ q <= U / V + 1 := by
 have hP : 0 < P := by omega
 have hV0 : 0 < V := by
  rcases Nat.eq_zero_or_pos V with e | e
  ·rw [e] at hlt; omega
  ·exact e
 have hut : ut <= v1 := by
  have : ¬ v1 + 1 <= ut := by
   intro hc
   have h1 := Nat.mul_le_mul_left (P * (4294967296 * 4294967296)) hc
   have e1 : P * (4294967296 * 4294967296) * (v1 + 1) = 4294967296 * (P * (4294967296 * v1)) + 4294967296 * (P * 4294967296) := by grind
   have e2 : U = u0 + P * u2 + P * (4294967296 * u1) + P * (4294967296 * 4294967296) * ut := by rw [hU]; grind
   have e3 : 4294967296 * V = 4294967296 * v0 + 4294967296 * (P * v2) + 4294967296 * (P * (4294967296 * v1)) := by rw [hV]; grind
   have h2 : P * v2 + P <= P * 4294967296 := by
    have h9 : P * (v2 + 1) <= P * 4294967296 := Nat.mul_le_mul_left P hv2
    have e9 : P * (v2 + 1) = P * v2 + P := by grind
    omega
   rw [e1] at h1
   rw [e3, e2] at hlt
   omega
  omega
 have hqb : q < 4294967296 := by
  rcases h with h | h
  ·have : ¬ 4294967296 <= q := by
    intro hc
    have h1 := Nat.mul_le_mul_right v1 hc
    have h2 := Nat.mul_le_mul_left 4294967296 hut
    omega
   omega
  ·exact h.1
 have h2 : q * v2 <= r * 4294967296 + u2 := by
  rcases h with h | h
  ·have h1 : q * v2 <= 4294967296 * 4294967296 := Nat.mul_le_mul (by omega) (by omega)
   omega
  ·exact h.2
 refine ⟨hqb, ?_⟩
 rcases Nat.eq_zero_or_pos q with e | e
 ·rw [e]; exact Nat.zero_le _
 ·obtain ⟨p, rfl⟩ : ∃ p, q = p + 1 := ⟨q - 1, by omega⟩
  have : p <= U / V := by
   rw [Nat.le_div_iff_mul_le hV0]
   have e1 : (p + 1) * V = (p + 1) * v0 + P * ((p + 1) * v2) + P * (4294967296 * ((p + 1) * v1)) := by rw [hV]; grind
   have e2 : U = u0 + P * u2 + P * (4294967296 * ((p + 1) * v1)) + P * (r * 4294967296) := by rw [hU, <- hq]; grind
   have e3 : (p + 1) * V = p * V + V := by grind
   have h3 := Nat.mul_le_mul_left P h2
   have e4 : P * (r * 4294967296 + u2) = P * (r * 4294967296) + P * u2 := by grind
   have h5 : (p + 1) * v0 <= V := by
    have h6 : (p + 1) * v0 <= 4294967296 * P := Nat.mul_le_mul (by omega) (by omega)
    have h7 : P * (4294967296 * 1) <= P * (4294967296 * v1) := Nat.mul_le_mul_left _ (Nat.mul_le_mul_left _ hv1)
    have e5 : V = v0 + P * v2 + P * (4294967296 * v1) := by rw [hV]; grind
    have e6 : P * (4294967296 * 1) = 4294967296 * P := by grind
    rw [e5]
    omega
   rw [e4] at h3
   rw [e3] at e1
   omega
  omega
def RedInv (q : Nat) (u v : List Nat) (o : List Nat) (c b : Nat) : Prop :=
 Dig o /\ c <= q /\ b <= 1 /\ val (u.take o.length) + 4294967296 ^ o.length * (c + b) = val o + q * val (v.take o.length)
theorem val_snocK (o : List Nat) (x : Nat) : val (o ++ [x]) = val o + 4294967296 ^ o.length * x := by rw [val_append]; simp [val]
theorem val_take_K (d : List Nat) (k : Nat) : val (d.take (k + 1)) = val (d.take k) + 4294967296 ^ k * (d[k]?.getD 0) := by
 by_cases h : k < d.length
 ·rw [List.take_succ_eq_append_getElem h, val_append, List.length_take, Nat.min_eq_left (by omega), List.getElem?_eq_getElem h]; simp [val]
 ·rw [List.take_of_length_le (by omega), List.take_of_length_le (by omega), List.getElem?_eq_none (by omega)]; simp
theorem red_step {q : Nat} {u v o : List Nat} {c b x d : Nat} (hq : q < 4294967296) (h : RedInv q u v o c b) (hx : u[o.length]?.getD 0 = x) (hd : v[o.length]?.getD 0 = d) (hdb : d < 4294967296) (hxb : x < 4294967296) :
  RedInv q u v (o ++ [(x + 8589934592 - (c + q * d) % 4294967296 - b) % 4294967296]) ((c + q * d) / 4294967296) (if x < (c + q * d) % 4294967296 + b then 1 else 0) /\ c + q * d < 18446744073709551616 := by
 obtain ⟨h1, h2, h3, h4⟩ := h
 have hqd : q * d <= q * 4294967295 := Nat.mul_le_mul_left _ (by omega)
 have hc : c + q * d < 18446744073709551616 := by omega
 refine ⟨⟨?_, by omega, by split <;> omega, ?_⟩, hc⟩
 ·intro y hy
  rcases List.mem_append.1 hy with g | g
  ·exact h1 y g
  ·rw [List.mem_singleton] at g; subst g; exact Nat.mod_lt _ (by omega)
 ·rw [List.length_append, List.length_singleton, val_take_K, val_take_K, val_snocK, hx, hd, Nat.pow_succ]
  have e1 : q * (val (v.take o.length) + 4294967296 ^ o.length * d) = q * val (v.take o.length) + 4294967296 ^ o.length * (q * d) := by grind
  rw [e1]
  generalize q * val (v.take o.length) = a1 at *
  generalize val (u.take o.length) = a2 at *
  generalize val o = a3 at *
  generalize 4294967296 ^ o.length = P at *
  generalize q * d = t at *
  have key : ∀ (b' y : Nat), x + 4294967296 * ((c + t) / 4294967296 + b') + (c + b) = y + t + (c + b) + 0 + (c + b) -> a2 + P * x + P * 4294967296 * ((c + t) / 4294967296 + b') = a3 + P * y + (a1 + P * t) := by
   intro b' y hy
   have e2 : P * x + P * 4294967296 * ((c + t) / 4294967296 + b') = P * (y + t + (c + b)) := by
    have : x + 4294967296 * ((c + t) / 4294967296 + b') = y + t + (c + b) := by omega
    rw [<- this]; grind
   have e3 : P * (y + t + (c + b)) = P * y + P * t + P * (c + b) := by grind
   rw [Nat.add_assoc, e2, e3]
   omega
  apply key
  split <;> omega
end Go.Proofs.YtighahcllmoajaaGreat

namespace Go.Proofs.YtighahcllmoajaaGreat
theorem val_pos_of {b : List Nat} {n x : Nat} (hl : b.length = n + 1) (hx : b[n]?.getD 0 = x) : val b = val (b.take n) + 4294967296 ^ n * x := by
 have h := val_take_K b n
 rw [hx, List.take_of_length_le (by omega)] at h
 exact h
theorem red_keep {q : Nat} {u v o : List Nat} {c b x : Nat} (h : RedInv q u v o c b) (ho : o.length = v.length) (hu : u.length = v.length + 1) (hx : u[v.length]?.getD 0 = x) (hle : c + b <= x) :
  val u = val (o ++ [x - c - b]) + q * val v := by
 obtain ⟨_, _, _, h4⟩ := h
 rw [ho, List.take_of_length_le (Nat.le_refl v.length)] at h4
 rw [val_pos_of hu hx, val_snocK, ho]
 generalize 4294967296 ^ v.length = P at *
 obtain ⟨t, rfl⟩ : ∃ t, x = t + (c + b) := ⟨x - (c + b), by omega⟩
 rw [show t + (c + b) - c - b = t by omega]
 have e : P * (t + (c + b)) = P * t + P * (c + b) := by grind
 omega
theorem red_borrow {q : Nat} {u v o : List Nat} {c b x : Nat} (h : RedInv q u v o c b) (hq : q < 4294967296) (ho : o.length = v.length) (hu : u.length = v.length + 1) (hx : u[v.length]?.getD 0 = x) (hlt : x < c + b) :
  val u + 4294967296 ^ (v.length + 1) = val (o ++ [x + 4294967296 - c - b]) + q * val v := by
 obtain ⟨_, h2, h3, h4⟩ := h
 rw [ho, List.take_of_length_le (Nat.le_refl v.length)] at h4
 rw [val_pos_of hu hx, val_snocK, ho, Nat.pow_succ]
 generalize 4294967296 ^ v.length = P at *
 obtain ⟨t, ht⟩ : ∃ t, x + 4294967296 = t + (c + b) := ⟨x + 4294967296 - (c + b), by omega⟩
 rw [show x + 4294967296 - c - b = t by omega]
 have e : P * (x + 4294967296) = P * t + P * (c + b) := by rw [ht]; grind
 have e2 : P * (x + 4294967296) = P * x + P * 4294967296 := by grind
 omega
theorem quot_of {U V W q : Nat} (hV : 0 < V) (h : U = W + q * V) (hq : U / V <= q) : q = U / V /\ W = U % V := by
 have h1 : q <= U / V := by rw [Nat.le_div_iff_mul_le hV]; omega
 obtain rfl : q = U / V := by omega
 refine ⟨rfl, ?_⟩
 have := Nat.div_add_mod U V
 rw [Nat.mul_comm V] at this
 omega
theorem red_back {q : Nat} {u v o o2 : List Nat} {y c2 : Nat} (h : val u + 4294967296 ^ (v.length + 1) = val (o ++ [y]) + q * val v) (ho : o.length = v.length) (ho2 : o2.length = v.length) (hs : sumInv (o ++ [y]) v o2 c2)
  (hy : y < 4294967296) (dd : Dig o) (du : Dig u) (hu : u.length = v.length + 1) (hV : 0 < val v) (hq : q <= val u / val v + 1) : y + c2 = 4294967296 /\ q - 1 = val u / val v /\ 1 <= q /\ val o2 = val u % val v := by
 obtain ⟨d2, hc2, hs2⟩ := hs
 have hlu := val_lt du
 rw [hu] at hlu
 have hlo2 := val_lt d2
 have hlo : val (o ++ [y]) < 4294967296 ^ (v.length + 1) := by
  have := val_lt (dd.append (Dig.cons hy Dig.nil))
  rwa [List.length_append, List.length_singleton, ho] at this
 have hqV : val u < q * val v := by omega
 have hq1 : val u / val v < q := (Nat.div_lt_iff_lt_mul hV).2 hqV
 obtain rfl : q = val u / val v + 1 := by omega
 have hm := Nat.div_add_mod (val u) (val v)
 rw [Nat.mul_comm] at hm
 have hmlt := Nat.mod_lt (val u) hV
 rw [Nat.add_mul, Nat.one_mul] at h
 rw [ho2, List.take_of_length_le (Nat.le_refl v.length), <- ho, List.take_left, ho] at hs2
 rw [val_snocK, ho, Nat.pow_succ] at h
 rw [ho2] at hlo2
 have key : val o2 + 4294967296 ^ v.length * (c2 + y) = val u % val v + 4294967296 ^ v.length * 4294967296 := by
  have e : 4294967296 ^ v.length * (c2 + y) = 4294967296 ^ v.length * c2 + 4294967296 ^ v.length * y := by grind
  omega
 have hvl : val u % val v < 4294967296 ^ v.length * (c2 + y + 1) := by
  have e : 4294967296 ^ v.length * (c2 + y + 1) = 4294967296 ^ v.length * (c2 + y) + 4294967296 ^ v.length := by grind
  rw [e]
  omega
 have hb : ¬ c2 + y < 4294967296 := by
  intro hc
  have h9 : 4294967296 ^ v.length * (c2 + y + 1) <= 4294967296 ^ v.length * 4294967296 := Nat.mul_le_mul_left _ hc
  have e : 4294967296 ^ v.length * (c2 + y + 1) = 4294967296 ^ v.length * (c2 + y) + 4294967296 ^ v.length := by grind
  omega
 have hb2 : y + c2 = 4294967296 := by omega
 refine ⟨hb2, Nat.add_sub_cancel _ _, Nat.le_add_left _ _, ?_⟩
 rw [show c2 + y = 4294967296 by omega] at key
 omega
theorem sum_take {a v o : List Nat} {s n : Nat} (h : sumInv a v o s) (hl : o.length = n) : o.length = n := hl
def ShInv (s : Nat) (a o : List Nat) (c : Nat) : Prop := Dig o /\ c < s /\ val o + 4294967296 ^ o.length * c = s * val (a.take o.length)
theorem sh_step {s e : Nat} (hse : s * e = 4294967296) {a o : List Nat} {c d : Nat} (h : ShInv s a o c) (hd : a[o.length]?.getD 0 = d) (hdb : d < 4294967296) :
  ShInv s a (o ++ [d % e * s + c]) (d / e) /\ d % e * s + c < 4294967296 := by
 obtain ⟨h1, h2, h3⟩ := h
 have he : 0 < e := by
  rcases Nat.eq_zero_or_pos e with g | g
  ·subst g; simp at hse
  ·exact g
 have hm := Nat.mod_lt d he
 have hlt : d % e * s + c < 4294967296 := by
  have h4 : (d % e + 1) * s <= e * s := Nat.mul_le_mul_right _ hm
  rw [Nat.mul_comm e, hse, Nat.add_mul, Nat.one_mul] at h4
  omega
 refine ⟨⟨h1.append (Dig.cons hlt Dig.nil), ?_, ?_⟩, hlt⟩
 ·rw [Nat.div_lt_iff_lt_mul he, hse]; exact hdb
 ·rw [List.length_append, List.length_singleton, val_snocK, val_take_K, hd, Nat.pow_succ]
  have e1 : s * (val (a.take o.length) + 4294967296 ^ o.length * d) = s * val (a.take o.length) + 4294967296 ^ o.length * (s * d) := by grind
  have e2 : s * d = d % e * s + 4294967296 * (d / e) := by
   have := Nat.div_add_mod d e
   rw [<- hse]
   conv => lhs; rw [<- this]
   grind
  rw [e1, e2, <- h3]
  generalize 4294967296 ^ o.length = P
  grind
theorem sh_end {s : Nat} {a o : List Nat} {c : Nat} (h : ShInv s a o c) (hl : o.length = a.length) : val (o ++ [c]) = s * val a := by
 obtain ⟨_, _, h3⟩ := h
 rw [hl, List.take_of_length_le (Nat.le_refl a.length)] at h3
 rw [val_snocK, hl]
 exact h3
theorem shr_digit {s e : Nat} (hse : s * e = 4294967296) {u1 u0 : Nat} (h0 : u0 < 4294967296) :
  s * ((u1 * 4294967296 + u0) / s % 4294967296) = u1 % s * 4294967296 + s * (u0 / s) := by
 have hs : 0 < s := by
  rcases Nat.eq_zero_or_pos s with g | g
  ·subst g; simp at hse
  ·exact g
 have he : 0 < e := by
  rcases Nat.eq_zero_or_pos e with g | g
  ·subst g; simp at hse
  ·exact g
 have e1 : (u1 * 4294967296 + u0) / s = u1 * e + u0 / s := by
  rw [<- hse, show u1 * (s * e) + u0 = s * (u1 * e) + u0 by grind, Nat.mul_add_div hs]
 have e2 : u1 * e = u1 % s * e + 4294967296 * (u1 / s) := by
  have := Nat.div_add_mod u1 s
  rw [<- hse]
  conv => lhs; rw [<- this]
  grind
 have h3 : u0 / s < e := by rw [Nat.div_lt_iff_lt_mul hs, Nat.mul_comm, hse]; exact h0
 have h4 : (u1 % s + 1) * e <= s * e := Nat.mul_le_mul_right _ (Nat.mod_lt u1 hs)
 rw [hse, Nat.add_mul, Nat.one_mul] at h4
 have e3 : (u1 * 4294967296 + u0) / s % 4294967296 = u1 % s * e + u0 / s := by
  rw [e1, e2]
  rw [show u1 % s * e + 4294967296 * (u1 / s) + u0 / s = (u1 % s * e + u0 / s) + 4294967296 * (u1 / s) by omega, Nat.add_mul_mod_self_left, Nat.mod_eq_of_lt]
  generalize u0 / s = g at *
  omega
 rw [e3, <- hse]
 grind
def ShrInv (s : Nat) (u o : List Nat) : Prop := Dig o /\ s * val o + val u % s = val (u.take o.length) + 4294967296 ^ o.length * (u[o.length]?.getD 0 % s)
theorem shr_start {s e : Nat} (hse : s * e = 4294967296) (u : List Nat) (h0 : 0 < u.length) : ShrInv s u [] := by
 refine ⟨Dig.nil, ?_⟩
 cases u with
 | nil => simp at h0
 | cons x r =>
  simp only [val_nil, List.length_nil, List.take_zero, List.getElem?_cons_zero, Option.getD_some, val_cons]
  rw [<- hse, Nat.mul_assoc, Nat.add_mul_mod_self_left]
  simp
theorem shr_step {s e : Nat} (hse : s * e = 4294967296) {u o : List Nat} (h : ShrInv s u o) {u0 u1 : Nat} (h0 : u[o.length]?.getD 0 = u0) (h1 : u[o.length + 1]?.getD 0 = u1) (hb : u0 < 4294967296) :
  ShrInv s u (o ++ [(u1 * 4294967296 + u0) / s % 4294967296]) := by
 obtain ⟨d, h2⟩ := h
 refine ⟨d.append (Dig.cons (Nat.mod_lt _ (by omega)) Dig.nil), ?_⟩
 rw [List.length_append, List.length_singleton, val_snocK, val_take_K, h0, h1, Nat.pow_succ]
 rw [h0] at h2
 have k := shr_digit hse (u1 := u1) hb
 generalize (u1 * 4294967296 + u0) / s % 4294967296 = r at *
 have e1 : s * (val o + 4294967296 ^ o.length * r) = s * val o + 4294967296 ^ o.length * (s * r) := by grind
 rw [e1, k]
 have e2 : u0 = s * (u0 / s) + u0 % s := (Nat.div_add_mod u0 s).symm
 generalize 4294967296 ^ o.length = P at *
 generalize u0 / s = g at *
 generalize u0 % s = g2 at *
 rw [e2]
 grind
theorem shr_end {s : Nat} {u o : List Nat} (h : ShrInv s u o) {n R : Nat} (hs : 0 < s) (hl : o.length = n) (hu : val u < 4294967296 ^ n) (hd : Dig u) (hul : n < u.length) (hR : val u = s * R) : val o = R := by
 obtain ⟨_, h2⟩ := h
 rw [hl] at h2
 have h3 := val_take_drop u n (by omega)
 have h4 : val (u.drop n) = 0 := by
  rcases Nat.eq_zero_or_pos (val (u.drop n)) with g | g
  ·exact g
  ·have := Nat.mul_le_mul_left (4294967296 ^ n) g
   omega
 have h5 : u[n]?.getD 0 = 0 := by
  rw [List.drop_eq_getElem_cons hul, val_cons] at h4
  rw [List.getElem?_eq_getElem hul, Option.getD_some]
  omega
 rw [h5, Nat.zero_mod, Nat.mul_zero, Nat.add_zero] at h2
 rw [h4, Nat.mul_zero, Nat.add_zero] at h3
 rw [<- h3, hR, Nat.mul_mod_right, Nat.add_zero] at h2
 exact Nat.eq_of_mul_eq_mul_left hs h2
structure LongInv (A V k : Nat) (u qs : List Nat) : Prop where
 du : Dig u
 dq : Dig qs
 eq : val u + 4294967296 ^ k * (val qs * V) = A
 lt : val u < 4294967296 ^ k * V
theorem long_part {A V k n : Nat} {pre part post qs : List Nat} (hl : pre.length = k) (hp : part.length = n + 1) (hV : V < 4294967296 ^ n) (h : LongInv A V (k + 1) (pre ++ (part ++ post)) qs) :
  val post = 0 /\ val part < 4294967296 * V := by
 have h1 := h.lt
 have ek : (4294967296 : Nat) ^ (k + 1) = 4294967296 ^ k * 4294967296 := Nat.pow_succ _ _
 rw [val_append, val_append, hl, hp, ek] at h1
 have h2 : val part + 4294967296 ^ (n + 1) * val post < 4294967296 * V := by
  have : 4294967296 ^ k * (val part + 4294967296 ^ (n + 1) * val post) < 4294967296 ^ k * (4294967296 * V) := by
   rw [<- Nat.mul_assoc]; omega
  exact Nat.lt_of_mul_lt_mul_left this
 refine ⟨?_, by omega⟩
 rcases Nat.eq_zero_or_pos (val post) with g | g
 ·exact g
 ·have h3 : 4294967296 ^ (n + 1) * 1 <= 4294967296 ^ (n + 1) * val post := Nat.mul_le_mul_left _ g
  rw [Nat.mul_one, Nat.pow_succ] at h3
  rw [Nat.pow_succ] at h2
  omega
theorem long_step {A V k n : Nat} {pre part post qs part' : List Nat} (hl : pre.length = k) (hp : part.length = n + 1) (hp' : part'.length = n + 1) (hV : V < 4294967296 ^ n) (hV0 : 0 < V) (h : LongInv A V (k + 1) (pre ++ (part ++ post)) qs)
  (d' : Dig part') (he : val part' = val part % V) : LongInv A V k (pre ++ (part' ++ post)) (val part / V :: qs) := by
 obtain ⟨h1, h2⟩ := long_part hl hp hV h
 have dpre : Dig pre := fun x hx => h.du x (List.mem_append_left _ hx)
 have dpost : Dig post := fun x hx => h.du x (List.mem_append_right _ (List.mem_append_right _ hx))
 refine ⟨dpre.append (d'.append dpost), Dig.cons ((Nat.div_lt_iff_lt_mul hV0).2 h2) h.dq, ?_, ?_⟩
 ·have h3 := h.eq
  rw [val_append, val_append, h1, hl, Nat.mul_zero, Nat.add_zero, Nat.pow_succ] at h3
  rw [val_append, val_append, h1, hl, Nat.mul_zero, Nat.add_zero, he, val_cons, <- h3]
  have h4 := Nat.div_add_mod (val part) V
  conv => rhs; rw [<- h4]
  generalize val part % V = m
  generalize val part / V = g
  generalize 4294967296 ^ k = P
  grind
 ·rw [val_append, val_append, h1, hl, Nat.mul_zero, Nat.add_zero, he]
  have h3 := val_lt dpre
  rw [hl] at h3
  have h4 := Nat.mul_le_mul_left (4294967296 ^ k) (Nat.succ_le_of_lt (Nat.mod_lt (val part) hV0))
  have e : 4294967296 ^ k * (val part % V).succ = 4294967296 ^ k * (val part % V) + 4294967296 ^ k := by rw [Nat.succ_eq_add_one]; grind
  omega
theorem long_end {A V : Nat} {u qs : List Nat} (hV0 : 0 < V) (h : LongInv A V 0 u qs) : val qs = A / V /\ val u = A % V := by
 have h1 := h.eq
 have h2 := h.lt
 rw [Nat.pow_zero, Nat.one_mul] at h1 h2
 refine quot_of hV0 h1.symm ?_
 rw [<- Nat.lt_succ_iff, Nat.div_lt_iff_lt_mul hV0, <- h1, Nat.succ_eq_add_one]
 have : (val qs + 1) * V = val qs * V + V := by grind
 omega
end Go.Proofs.YtighahcllmoajaaGreat
