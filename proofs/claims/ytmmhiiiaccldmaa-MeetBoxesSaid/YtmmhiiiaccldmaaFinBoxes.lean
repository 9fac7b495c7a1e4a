/- The law MeetBoxes holds of every input: edges whose boxes have no common point do not meet, and edges that have an integer point in common do. (The frame follows the kit's proof-skeleton.) -/
import Derived.Test.YtmmhiiiaccldmaaJ42
import Derived.Test.YtmmhiiiaccldmaaJ41
import Derived.Test.YtmmhiiiaccldmaaJ36
import Derived.Test.YtmmhiiiaccldmaaRows
import Derived.WalkKit
import Derived.ProofKit
import Derived.OpenShut
import Derived.ShutString
import Derived.ChangeOld
import Derived.Below
import Derived.Lib.SmallJoins
set_option linter.unusedVariables false
set_option linter.unusedSimpArgs false

namespace Go.Proofs.Ytmmhiiiaccldmaa.meetBoxes
open Go.ChangeShapes Go.WideShapes Go.ChangeAt Go.RowKit Go.Joins
set_option linter.unusedVariables false

theorem own : ownKnob Try.prog.godebug = none := by kernel_rfl
theorem laidOut : laidOutB Try.prog = true := by kernel_rfl
theorem cells25 : Try.prog.cellsOf 25 = 2 := by kernel_rfl

/-- WHAT THE WALK IS TOLD OF A SLICE OF INTEGERS THAT CAME IN: it is nil; or it leads to a row of 'cap' cells, the numbers 'zs' (the first 'len' are its elements, the rest its spare room), each fitting its kind. -/
def IsRow (k : IntKind) (w : World) (a : Option Addr) (len cap : Nat) (zs : List Int) : Prop :=
  (a = none ∧ len = 0 ∧ cap = 0 ∧ zs = []) ∨
  ∃ x, a = some x ∧ len ≤ cap ∧ cap ≤ maxLen ∧ zs.length = cap ∧ (∀ i, i < zs.length → w.cell? (x.add i) = some (.int k (zs.getD i 0))) ∧ ∀ n ∈ zs, (Lit.int k n).wf = true

theorem IsRow.ints {w : World} {a : Option Addr} {len cap : Nat} {zs : List Int} (h : IsRow .i64 w a len cap zs) : Ints w a len (zs.take len) ∧ len ≤ cap ∧ cap ≤ 9223372036854775807 := by
  rcases h with ⟨rfl, rfl, rfl, rfl⟩ | ⟨x, rfl, hl, hm, hz, hc, _⟩
  · exact ⟨⟨rfl, by omega, fun h => absurd h (by omega)⟩, by omega, by omega⟩
  · unfold maxLen at hm
    refine ⟨⟨by rw [List.length_take, hz]; omega, by omega, fun h0 => ?_⟩, hl, by omega⟩
    obtain ⟨b, o, rfl, hd⟩ := ints_at hc (by omega)
    refine ⟨b, o, rfl, ?_, fun i hi => ?_⟩
    · exact World.block_lt_of_cell? w _ (hd 0 (by omega))
    · rw [hd i (by omega), List.getElem?_take_of_lt hi]
      rfl
theorem made (L : List Int) (a : Option Addr) (len cp : Nat) (w : World) (hL : Ints w a len L) (hcp : len ≤ cp ∧ cp ≤ 9223372036854775807) (W : World) (hx : Ext w W) : Calls Try.prog 9 #[.slice a len cp, .int .i64 1] W fun e w' => e = .returned (.agg #[.int .i64 (madeE L 1).k, .int .i64 (madeE L 1).ax, .int .i64 (madeE L 1).ay, .int .i64 (madeE L 1).bx, .int .i64 (madeE L 1).by', .int .i64 (madeE L 1).cx, .int .i64 (madeE L 1).cy]) ∧ Ext W w' :=
  r07_Made L a len cp 1 W (hL.ext hx) hcp (by omega)
set_option maxRecDepth 100000 in
theorem pt_open {H : Type} {enc : TypeId × Value → H} {W : World} {base b0 : Nat} {sp : Nat → Bool} {hd : Bool} {v : Value} {d : DataW H} {p : List MemPlace} (hv : Value.okWide Try.prog W .any base 25 v) (h : DataW.Trod enc Try.prog W b0 sp hd 25 v d p) : ∃ a b : Int, v = .agg #[.int .i64 a, .int .i64 b] := by
  obtain ⟨c0, c1, y0, y1, m, rfl, rfl, rfl, hy0, hy1⟩ := open_agg2 Try.underlying25 (by kernel_rfl) cells25 hv h
  obtain ⟨a, e0, rfl, wa⟩ := DataW.trod_int Try.underlying3 hy0
  obtain ⟨b, e1, rfl, wb⟩ := DataW.trod_int Try.underlying3 hy1
  simp at e0 e1
  subst e0 e1
  exact ⟨a, b, rfl⟩

theorem walk (a0 : Option Addr) (len0 cap0 : Nat) (z0 : List Int) (a1 : Option Addr) (len1 cap1 : Nat) (z1 : List Int) (x y : Int) (w : World) (w0 : IsRow .i64 w a0 len0 cap0 z0) (w1 : IsRow .i64 w a1 len1 cap1 z1) :
    Calls Try.prog 6 #[.slice a0 len0 cap0, .slice a1 len1 cap1, .agg #[.int .i64 x, .int .i64 y]] w fun e w' => e = .returned (.bool true) ∧ Below w.heap.size w w' := by
  obtain ⟨i0, b0⟩ := IsRow.ints w0
  obtain ⟨i1, b1⟩ := IsRow.ints w1
  have oa := madeE_ok (z0.take len0) 1 (by omega)
  have ob := madeE_ok (z1.take len1) 1 (by omega)
  obtain ⟨s1, s2, s3, s4, s5, s6⟩ := madeE_small (z0.take len0)
  obtain ⟨t1, t2, t3, t4, t5, t6⟩ := madeE_small (z1.take len1)
  have g0 := made (z0.take len0) a0 len0 cap0 w i0 b0
  have g1 := made (z1.take len1) a1 len1 cap1 w i1 b1
  generalize madeE (z0.take len0) 1 = A at *
  generalize madeE (z1.take len1) 1 = B at *
  unfold Sm at *
  have q1 := tmod_bd x (m := 40) (by omega)
  have q2 := tmod_bd y (m := 40) (by omega)
  have om : (moveE B (x.tmod 40) (y.tmod 40) 0 false).ok = true := shift_ok ob t1 t2 t3 t4 t5 t6 (by omega) (by omega)
  have mv := fun W => edge_Move B.k B.ax B.ay B.bx B.by' B.cx B.cy (x.tmod 40) (y.tmod 40) 0 false W ob (by omega) (by unfold Lo; omega) (by unfold Lo; omega)
  have e1 : (moveE B (x.tmod 40) (y.tmod 40) 0 false).ax = B.ax + x.tmod 40 := by unfold moveE; simp only [applyP_shift]
  have e2 : (moveE B (x.tmod 40) (y.tmod 40) 0 false).ay = B.ay + y.tmod 40 := by unfold moveE; simp only [applyP_shift]
  have e3 : (moveE B (x.tmod 40) (y.tmod 40) 0 false).bx = B.bx + x.tmod 40 := by unfold moveE; simp only [applyP_shift]
  have e4 : (moveE B (x.tmod 40) (y.tmod 40) 0 false).by' = B.by' + y.tmod 40 := by unfold moveE; simp only [applyP_shift]
  change ∀ W, Calls Try.prog 16 #[.agg #[.int .i64 B.k, .int .i64 B.ax, .int .i64 B.ay, .int .i64 B.bx, .int .i64 B.by', .int .i64 B.cx, .int .i64 B.cy], .agg #[.int .i64 (x.tmod 40), .int .i64 (y.tmod 40), .int .i64 0, .bool false]] W fun e w' => e = .returned (.agg #[.int .i64 (moveE B (x.tmod 40) (y.tmod 40) 0 false).k, .int .i64 (moveE B (x.tmod 40) (y.tmod 40) 0 false).ax, .int .i64 (moveE B (x.tmod 40) (y.tmod 40) 0 false).ay, .int .i64 (moveE B (x.tmod 40) (y.tmod 40) 0 false).bx, .int .i64 (moveE B (x.tmod 40) (y.tmod 40) 0 false).by', .int .i64 (moveE B (x.tmod 40) (y.tmod 40) 0 false).cx, .int .i64 (moveE B (x.tmod 40) (y.tmod 40) 0 false).cy]) ∧ Ext W w' at mv
  generalize moveE B (x.tmod 40) (y.tmod 40) 0 false = T at *
  refine Boxes_core A.k A.ax A.ay A.bx A.by' A.cx A.cy B.k B.ax B.ay B.bx B.by' B.cx B.cy T.k T.ax T.ay T.bx T.by' T.cx T.cy x y _ _ _ _ _ _ _ _ _ _ (fun i j => onE A i j) (fun i j => onE T i j) (!(countE A T == 0)) a0 a1 len0 cap0 len1 cap1 w rfl rfl (wrap_in (by unfold I64; omega)) (wrap_in (by unfold I64; omega)) g0 g1 mv
    (fun W => edge_Box _ _ _ _ _ _ _ W) (fun W => edge_Box _ _ _ _ _ _ _ W) (fun i j W => edge_On _ _ _ _ _ _ _ i j W) (fun i j W => edge_On _ _ _ _ _ _ _ i j W) (fun W => meet_Edges _ _ _ _ _ _ _ _ _ _ _ _ _ _ W) ?_ ?_ (by omega) (by omega) (by omega) (by omega) (by omega) (by omega) (by omega) (by omega)
  · intro h
    rw [boxes_apart (e := A) (f := T) h]
    rfl
  · intro i j h1 h2
    have := common_point h1 h2
    simpa using this

set_option maxRecDepth 100000 in
theorem lifted (os : Os) (started : os.Started) (H : Type) (enc : TypeId × Value → H) :
    ReturnsInHanded {} Try.checked os 6 .any (Rows.meetBoxesSpec.pre6 enc Try.prog Try.f6 Rows.meetBoxesRow.domain false) (Rows.meetBoxesSpec.post enc Try.prog Try.f6 false true false false) := by
  refine returnsInHanded_of_change (C := Try.checked) own started (by kernel_rfl) Try.func6
    (ChangeSpec.witness6 (enc := enc) (C := Try.checked) false ⟨#[], #[.slice none 0 0, .slice none 0 0, .agg #[.int .i64 0, .int .i64 0]], []⟩ 8 (by kernel_rfl) (by kernel_rfl) (by kernel_rfl) (by kernel_rfl)) ?_
  intro W base args ds gs before hval0 hW hcnd _
  have hval : ∀ (j : Nat) t v, Try.f6.params[j]? = some t → args[j]? = some v → Value.okWide Try.prog W .any base t v := hval0
  have hW' := hW
  obtain ⟨p, q, hA0, hV, rfl, hfz, hnd⟩ := hW
  have hA : DataW.TrodAll enc Try.prog W 0 (fun _ => true) true Try.f6.params.toList args.toList ds p := hA0
  rw [Try.params6] at hA hval
  obtain ⟨v0, vs0, d0, ds0, p0, q0, hargs, rfl, rfl, h0, r0⟩ := trodAll_cons hA
  obtain ⟨v1, vs1, d1, ds1, p1, q1, rfl, rfl, rfl, h1, r1⟩ := trodAll_cons r0
  obtain ⟨v2, vs2, d2, ds2, p2, q2, rfl, rfl, rfl, h2, r2⟩ := trodAll_cons r1
  obtain ⟨rfl, rfl, rfl⟩ := trodAll_nil r2
  obtain rfl : args = #[v0, v1, v2] := by cases args; simp_all
  have lt2 : ∀ x ∈ p2, x.block < W.heap.size := by obtain ⟨m, hm⟩ := h2; exact DataW.trod_lt m _ _ _ hm
  obtain ⟨rfl, rfl⟩ := trodVars_none hV
  obtain ⟨a0, len0, cap0, rfl⟩ := okWide_slice Try.underlying22 (hval 0 22 v0 rfl rfl)
  have k0 := h0
  have lt0 : ∀ x ∈ p0, x.block < W.heap.size := by obtain ⟨m, hm⟩ := k0; exact DataW.trod_lt m _ _ _ hm
  obtain ⟨z0, w0⟩ : ∃ zs, IsRow .i64 W a0 len0 cap0 zs := by
    obtain ⟨fuel, hf⟩ := h0
    rcases open_ints Try.underlying22 Try.underlying3 (by kernel_rfl) hf with ⟨hcs, _⟩ | ⟨x, l, c, zs, hcs, _, hl, hm, hz, _, hcell, hwz⟩
    · simp [Value.cells] at hcs
      obtain ⟨rfl, rfl, rfl⟩ := hcs
      exact ⟨[], .inl ⟨rfl, rfl, rfl, rfl⟩⟩
    · simp [Value.cells] at hcs
      obtain ⟨rfl, rfl, rfl⟩ := hcs
      exact ⟨zs, .inr ⟨_, rfl, hl, hm, by simpa using hz, hcell, hwz⟩⟩
  obtain ⟨a1, len1, cap1, rfl⟩ := okWide_slice Try.underlying22 (hval 1 22 v1 rfl rfl)
  have k1 := h1
  have lt1 : ∀ x ∈ p1, x.block < W.heap.size := by obtain ⟨m, hm⟩ := k1; exact DataW.trod_lt m _ _ _ hm
  obtain ⟨z1, w1⟩ : ∃ zs, IsRow .i64 W a1 len1 cap1 zs := by
    obtain ⟨fuel, hf⟩ := h1
    rcases open_ints Try.underlying22 Try.underlying3 (by kernel_rfl) hf with ⟨hcs, _⟩ | ⟨x, l, c, zs, hcs, _, hl, hm, hz, _, hcell, hwz⟩
    · simp [Value.cells] at hcs
      obtain ⟨rfl, rfl, rfl⟩ := hcs
      exact ⟨[], .inl ⟨rfl, rfl, rfl, rfl⟩⟩
    · simp [Value.cells] at hcs
      obtain ⟨rfl, rfl, rfl⟩ := hcs
      exact ⟨zs, .inr ⟨_, rfl, hl, hm, by simpa using hz, hcell, hwz⟩⟩
  obtain ⟨px, py, rfl⟩ := pt_open (hval 2 25 v2 rfl rfl) h2
  clear hA0 hval0
  refine (walk a0 len0 cap0 z0 a1 len1 cap1 z1 px py W w0 w1).mono fun e W' ⟨he, bel⟩ => ?_
  subst he
  exact ⟨_, rfl, _, _, _, [], _, [], hW', trodAll_mk1 (shut_bool Try.underlying4 _), (trodAll_cons_mk (Below.trod laidOut (by kernel_rfl) (of_decide_eq_true (by kernel_rfl)) k0 bel lt0) (trodAll_cons_mk (Below.trod laidOut (by kernel_rfl) (of_decide_eq_true (by kernel_rfl)) k1 bel lt1) (trodAll_cons_mk (Below.trod laidOut (by kernel_rfl) (of_decide_eq_true (by kernel_rfl)) h2 bel lt2) trodAll_mk0))), rfl, bel.frame _, fun h => by cases h⟩

theorem over : Rows.meetBoxesRow.holds Try.pinned (OpenSpec.ofChange Rows.meetBoxesSpec) :=
  OpenClaim.holds_of_wide 6 Try.f6 rfl rfl rfl rfl rfl rfl rfl ⟨rfl, rfl, rfl, rfl, rfl⟩ rfl rfl rfl rfl rfl (by kernel_rfl) Try.func6 (by kernel_rfl)
    (of_decide_eq_true (by kernel_rfl)) (by unfold Func.isWrapper; first | (rw [if_pos (by decide +kernel)]; kernel_rfl) | (rw [if_neg (by decide +kernel)]; exact ⟨rfl, rfl⟩))
    (fun os started H enc _ => lifted os started H enc)

/-- ████ THE STATEMENT ████ -/
theorem proved : Rows.MeetBoxesSaid := over
#print axioms proved
end Go.Proofs.Ytmmhiiiaccldmaa.meetBoxes
