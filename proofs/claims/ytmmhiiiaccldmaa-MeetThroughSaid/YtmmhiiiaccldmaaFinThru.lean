/- The law MeetThrough holds of every input: two lines through a point in different directions meet there alone, and a ray from the centre of an arc crosses it once. (The frame follows the kit's proof-skeleton.) -/
import Derived.Test.YtmmhiiiaccldmaaJ32
import Derived.Test.YtmmhiiiaccldmaaRows
import Derived.WalkKit
import Derived.ProofKit
import Derived.OpenShut
import Derived.ShutString
import Derived.ChangeOld
import Derived.Below
import Derived.Lib.SmallJoins
set_option linter.unusedVariables false
set_option linter.unusedSimpArgs false

namespace Go.Proofs.Ytmmhiiiaccldmaa.meetThrough
open Go.ChangeShapes Go.WideShapes Go.ChangeAt Go.RowKit Go.Joins
set_option linter.unusedVariables false

theorem own : ownKnob Try.prog.godebug = none := by kernel_rfl
theorem laidOut : laidOutB Try.prog = true := by kernel_rfl
theorem cells25 : Try.prog.cellsOf 25 = 2 := by kernel_rfl
theorem cells32 : Try.prog.cellsOf 32 = 3 := by kernel_rfl

theorem walk (ux uy vx vy a0 a1 a2 : Int) (w : World) : Calls Try.prog 4 #[.agg #[.int .i64 ux, .int .i64 uy], .agg #[.int .i64 vx, .int .i64 vy], .agg #[.int .i64 a0, .int .i64 a1, .int .i64 a2]] w fun e w' => e = .returned (.bool true) ∧ Below w.heap.size w w' := by
  have t1 := tmod_bd ux (m := 50) (by omega)
  have t2 := tmod_bd uy (m := 50) (by omega)
  have t3 := tmod_bd vx (m := 50) (by omega)
  have t4 := tmod_bd vy (m := 50) (by omega)
  have t5 := tmod_bd a0 (m := 1000) (by omega)
  have t6 := tmod_bd a1 (m := 1000) (by omega)
  have t7 := modZ_bd a2 (m := 60) (by omega)
  have b1 : -49 ≤ ux.tmod 50 ∧ ux.tmod 50 ≤ 49 := by omega
  have b2 : -49 ≤ uy.tmod 50 ∧ uy.tmod 50 ≤ 49 := by omega
  have b3 : -49 ≤ vx.tmod 50 ∧ vx.tmod 50 ≤ 49 := by omega
  have b4 : -49 ≤ vy.tmod 50 ∧ vy.tmod 50 ≤ 49 := by omega
  have b5 : -999 ≤ a0.tmod 1000 ∧ a0.tmod 1000 ≤ 999 := by omega
  have b6 : -999 ≤ a1.tmod 1000 ∧ a1.tmod 1000 ≤ 999 := by omega
  have b7 : 1 ≤ 1 + modZ a2 60 ∧ 1 + modZ a2 60 ≤ 60 := by omega
  obtain ⟨o1, r1⟩ := thru_ray (px := a0.tmod 1000) (py := a1.tmod 1000) (mx := max (ux.tmod 50) (-(ux.tmod 50))) (my := max (uy.tmod 50) (-(uy.tmod 50))) (r := 1 + modZ a2 60) b5 b6 (by omega) (by omega) b7
  have hck : checkZ (Ed.mk 2 (a0.tmod 1000 + (1 + modZ a2 60)) (a1.tmod 1000) (a0.tmod 1000) (a1.tmod 1000 + (1 + modZ a2 60)) (a0.tmod 1000) (a1.tmod 1000)) = 0 := by unfold checkZ; rw [o1]; rfl
  refine Through_core ux uy vx vy a0 a1 a2 (ux.tmod 50) (uy.tmod 50) (vx.tmod 50) (vy.tmod 50) (a0.tmod 1000) (a1.tmod 1000) (modZ a2 60) (1 + modZ a2 60) _ _ _ w rfl rfl rfl rfl rfl rfl (fun W => r01_Mod a2 60 W (by omega)) (wrap_in (by unfold I64; omega)) b1 b2 b3 b4 b5 b6 b7 rfl rfl (r1.trans ?_) ?_ (fun W => meet_Count _ _ _ _ _ _ _ _ _ _ _ _ _ _ W) ?_
  · by_cases h : ux.tmod 50 = 0 ∧ uy.tmod 50 = 0
    · rw [if_pos h, if_pos (by rw [h.1, h.2]; decide)]
    · rw [if_neg h, if_neg (by omega)]
  · intro hc W
    have := thru_lines (px := a0.tmod 1000) (py := a1.tmod 1000) b5 b6 b1 b2 b3 b4 hc
    have hm := meet_Count 1 (a0.tmod 1000 - ux.tmod 50) (a1.tmod 1000 - uy.tmod 50) (a0.tmod 1000 + ux.tmod 50) (a1.tmod 1000 + uy.tmod 50) 0 0 1 (a0.tmod 1000 - vx.tmod 50) (a1.tmod 1000 - vy.tmod 50) (a0.tmod 1000 + vx.tmod 50) (a1.tmod 1000 + vy.tmod 50) 0 0 W
    rw [this] at hm
    exact hm
  · intro W
    have hm := r06_Check 2 (a0.tmod 1000 + (1 + modZ a2 60)) (a1.tmod 1000) (a0.tmod 1000) (a1.tmod 1000 + (1 + modZ a2 60)) (a0.tmod 1000) (a1.tmod 1000) W
    rw [hck] at hm
    exact hm

set_option maxRecDepth 100000 in
theorem pt_open {H : Type} {enc : TypeId × Value → H} {W : World} {base b0 : Nat} {sp : Nat → Bool} {hd : Bool} {v : Value} {d : DataW H} {p : List MemPlace} (hv : Value.okWide Try.prog W .any base 25 v) (h : DataW.Trod enc Try.prog W b0 sp hd 25 v d p) : ∃ a b : Int, v = .agg #[.int .i64 a, .int .i64 b] := by
  obtain ⟨c0, c1, y0, y1, m, rfl, rfl, rfl, hy0, hy1⟩ := open_agg2 Try.underlying25 (by kernel_rfl) cells25 hv h
  obtain ⟨a, e0, rfl, wa⟩ := DataW.trod_int Try.underlying3 hy0
  obtain ⟨b, e1, rfl, wb⟩ := DataW.trod_int Try.underlying3 hy1
  simp at e0 e1
  subst e0 e1
  exact ⟨a, b, rfl⟩
set_option maxRecDepth 100000 in
theorem arr_open {H : Type} {enc : TypeId × Value → H} {W : World} {base b0 : Nat} {sp : Nat → Bool} {hd : Bool} {v : Value} {d : DataW H} {p : List MemPlace} (hv : Value.okWide Try.prog W .any base 32 v) (h : DataW.Trod enc Try.prog W b0 sp hd 32 v d p) : ∃ a b c : Int, v = .agg #[.int .i64 a, .int .i64 b, .int .i64 c] := by
  unfold Value.okWide at hv
  rw [Try.underlying32] at hv
  obtain ⟨cs, rfl, hsz, _⟩ := hv
  rw [cells32] at hsz
  obtain ⟨c0, c1, c2, rfl⟩ := array3 hsz
  obtain ⟨fuel, hf⟩ := h
  obtain ⟨xs, m, _, _, _, hx, hi⟩ := DataW.trod_array Try.underlying32 hf
  have hc : Try.prog.cellsOf 3 = 1 := by kernel_rfl
  have g0 := hi 0 (by omega)
  have g1 := hi 1 (by omega)
  have g2 := hi 2 (by omega)
  rw [hc] at g0 g1 g2
  rw [List.getElem?_eq_getElem (by omega)] at g0 g1 g2
  obtain ⟨a, e0, _, _⟩ := DataW.trod_int Try.underlying3 g0
  obtain ⟨b, e1, _, _⟩ := DataW.trod_int Try.underlying3 g1
  obtain ⟨c, e2, _, _⟩ := DataW.trod_int Try.underlying3 g2
  simp [Value.cells] at e0 e1 e2
  subst e0 e1 e2
  exact ⟨a, b, c, rfl⟩

set_option maxRecDepth 100000 in
theorem lifted (os : Os) (started : os.Started) (H : Type) (enc : TypeId × Value → H) :
    ReturnsInHanded {} Try.checked os 4 .any (Rows.meetThroughSpec.pre6 enc Try.prog Try.f4 Rows.meetThroughRow.domain false) (Rows.meetThroughSpec.post enc Try.prog Try.f4 false true false false) := by
  refine returnsInHanded_of_change (C := Try.checked) own started (by kernel_rfl) Try.func4
    (ChangeSpec.witness6 (enc := enc) (C := Try.checked) false ⟨#[], #[.agg #[.int .i64 0, .int .i64 0], .agg #[.int .i64 0, .int .i64 0], .agg #[.int .i64 0, .int .i64 0, .int .i64 0]], []⟩ 8 (by kernel_rfl) (by kernel_rfl) (by kernel_rfl) (by kernel_rfl)) ?_
  intro W base args ds gs before hval0 hW hcnd _
  have hval : ∀ (j : Nat) t v, Try.f4.params[j]? = some t → args[j]? = some v → Value.okWide Try.prog W .any base t v := hval0
  have hW' := hW
  obtain ⟨p, q, hA0, hV, rfl, hfz, hnd⟩ := hW
  have hA : DataW.TrodAll enc Try.prog W 0 (fun _ => true) true Try.f4.params.toList args.toList ds p := hA0
  rw [Try.params4] at hA hval
  obtain ⟨v0, vs0, d0, ds0, p0, q0, hargs, rfl, rfl, h0, r0⟩ := trodAll_cons hA
  obtain ⟨v1, vs1, d1, ds1, p1, q1, rfl, rfl, rfl, h1, r1⟩ := trodAll_cons r0
  obtain ⟨v2, vs2, d2, ds2, p2, q2, rfl, rfl, rfl, h2, r2⟩ := trodAll_cons r1
  obtain ⟨rfl, rfl, rfl⟩ := trodAll_nil r2
  obtain rfl : args = #[v0, v1, v2] := by cases args; simp_all
  obtain ⟨rfl, rfl⟩ := trodVars_none hV
  have lt0 : ∀ x ∈ p0, x.block < W.heap.size := by obtain ⟨m, hm⟩ := h0; exact DataW.trod_lt m _ _ _ hm
  have lt1 : ∀ x ∈ p1, x.block < W.heap.size := by obtain ⟨m, hm⟩ := h1; exact DataW.trod_lt m _ _ _ hm
  have lt2 : ∀ x ∈ p2, x.block < W.heap.size := by obtain ⟨m, hm⟩ := h2; exact DataW.trod_lt m _ _ _ hm
  obtain ⟨ux, uy, rfl⟩ := pt_open (hval 0 25 v0 rfl rfl) h0
  obtain ⟨vx, vy, rfl⟩ := pt_open (hval 1 25 v1 rfl rfl) h1
  obtain ⟨a0, a1, a2, rfl⟩ := arr_open (hval 2 32 v2 rfl rfl) h2
  clear hA0 hval0
  refine (walk ux uy vx vy a0 a1 a2 W).mono fun e W' ⟨he, bel⟩ => ?_
  subst he
  exact ⟨_, rfl, _, _, _, [], _, [], hW', trodAll_mk1 (shut_bool Try.underlying4 _), (trodAll_cons_mk (Below.trod laidOut (by kernel_rfl) (of_decide_eq_true (by kernel_rfl)) h0 bel lt0) (trodAll_cons_mk (Below.trod laidOut (by kernel_rfl) (of_decide_eq_true (by kernel_rfl)) h1 bel lt1) (trodAll_cons_mk (Below.trod laidOut (by kernel_rfl) (of_decide_eq_true (by kernel_rfl)) h2 bel lt2) trodAll_mk0))), rfl, bel.frame _, fun h => by cases h⟩

theorem over : Rows.meetThroughRow.holds Try.pinned (OpenSpec.ofChange Rows.meetThroughSpec) :=
  OpenClaim.holds_of_wide 4 Try.f4 rfl rfl rfl rfl rfl rfl rfl ⟨rfl, rfl, rfl, rfl, rfl⟩ rfl rfl rfl rfl rfl (by kernel_rfl) Try.func4 (by kernel_rfl)
    (of_decide_eq_true (by kernel_rfl)) (by unfold Func.isWrapper; first | (rw [if_pos (by decide +kernel)]; kernel_rfl) | (rw [if_neg (by decide +kernel)]; exact ⟨rfl, rfl⟩))
    (fun os started H enc _ => lifted os started H enc)

theorem proved : Rows.MeetThroughSaid := over
#print axioms proved
end Go.Proofs.Ytmmhiiiaccldmaa.meetThrough
