import Derived.Test.YtghemgdfmldoeaaGreatP42
set_option linter.unusedVariables false
set_option linter.unusedSimpArgs false
/- PanelLists: Drawings, Holes, Probes and Single return what the reference returns. (The frame follows the kit's proof-skeleton.) -/
set_option maxRecDepth 100000
namespace Go.Proofs.YtghemgdfmldoeaaGreat.panelLists
open Go.ChangeShapes Go.WideShapes Go.ChangeAt Go.RowKit Go.Joins
open Go.Proofs.YtghemgdfmldoeaaGreat.fin
set_option linter.unusedVariables false
theorem walk (c0 : Cs) (v0 : Value) (p1 : Pnl) (v1 : Value) (x2 : Int) (w : World) (w0 : au w w (λ_ => 0) 0 (tA c0) v0) (w1 : au w w (λ_ => 0) 0 (W.panV p1) v1) (i2 : fin.In64 x2) :
  Calls Tryz.prog 4 #[v0, v1, .int .i64 x2] w λe w' => e = .returned (.bool true) /\ Below w.heap.size w w' :=
 law_true (W.pl_ok c0 p1 x2) (aK.2 ⟨_, w0, _, rfl, aK.2 ⟨_, w1, _, rfl, aK.2 ⟨_, dL.2 ⟨aP i2, rfl⟩, _, rfl, iL.2 rfl⟩⟩⟩)
theorem lifted (os : Os) (started : os.Started) (H : Type) (enc : TypeId × Value -> H) :
  ReturnsInHanded {} Tryz.checked os 4 .any (Rows.panelListsSpec.pre6 enc Tryz.prog Tryz.f4 Rows.panelListsRow.domain false) (Rows.panelListsSpec.post enc Tryz.prog Tryz.f4 false true false false) := by
 refine returnsInHanded_of_change (C := Tryz.checked) own started (by kernel_rfl) Tryz.func4
  (ChangeSpec.witness6 (enc := enc) (C := Tryz.checked) false ⟨#[], #[.agg #[.slice none 0 0, .slice none 0 0, .int .i64 0, .int .i64 0, .int .i64 0, .slice none 0 0, .slice none 0 0], .agg #[.slice none 0 0, .slice none 0 0, .slice none 0 0, .int .i64 0], .int .i64 0], []⟩ 8 (by kernel_rfl) (by kernel_rfl) (by kernel_rfl) (by kernel_rfl)) ?_
 intro W base args ds gs before hval0 hW hcnd _;have hval : ∀ (j : Nat) t v, Tryz.f4.params[j]? = some t -> args[j]? = some v -> Value.okWide Tryz.prog W .any base t v := hval0;have hW' := hW;obtain ⟨p, q, hA0, hV, rfl, hfz, hnd⟩ := hW;have hA : DataW.TrodAll enc Tryz.prog W 0 (λ_ => true) true Tryz.f4.params.toList args.toList ds p := hA0;rw [Tryz.params4] at hA hval;obtain ⟨v0, vs0, d0, ds0, p0, q0, hargs, rfl, rfl, h0, r0⟩ := trodAll_cons hA;obtain ⟨v1, vs1, d1, ds1, p1, q1, rfl, rfl, rfl, h1, r1⟩ := trodAll_cons r0
 obtain ⟨v2, vs2, d2, ds2, p2, q2, rfl, rfl, rfl, h2, r2⟩ := trodAll_cons r1;obtain ⟨rfl, rfl, rfl⟩ := trodAll_nil r2;obtain rfl : args = #[v0, v1, v2] := by cases args; simp_all
 obtain ⟨rfl, rfl⟩ := trodVars_none hV;have k0 := h0;have lt0 : ∀ x ∈ p0, x.block < W.heap.size := by obtain ⟨m, hm⟩ := k0; exact DataW.trod_lt m _ _ _ hm
 obtain ⟨c0, w0⟩ := Xb (hval 0 38 v0 rfl rfl) h0;have k1 := h1;have nJ : ∀ x ∈ p1, x.block < W.heap.size := by obtain ⟨m, hm⟩ := k1; exact DataW.trod_lt m _ _ _ hm
 obtain ⟨c1, w1⟩ := a2Z (hval 1 43 v1 rfl rfl) h1;have k2 := h2;have yW : ∀ x ∈ p2, x.block < W.heap.size := by obtain ⟨m, hm⟩ := k2; exact DataW.trod_lt m _ _ _ hm
 obtain ⟨x2, rfl, i2⟩ := yM (show Cell.okWide Tryz.prog W .any base 3 v2 from by have := (hval 2 3 v2 rfl rfl); unfold Value.okWide at this; rw [Tryz.underlying3] at this; exact this);clear hA0 hval0;refine (walk c0 v0 c1 v1 x2 W w0 w1 i2).mono λe W' ⟨he, bel⟩ => ?_
 subst he;exact ⟨_, rfl, _, _, _, [], _, [], hW', trodAll_mk1 (shut_bool Tryz.underlying4 _), (trodAll_cons_mk (Below.trod laidOut (by kernel_rfl) (of_decide_eq_true (by kernel_rfl)) k0 bel lt0) (trodAll_cons_mk (Below.trod laidOut (by kernel_rfl) (of_decide_eq_true (by kernel_rfl)) k1 bel nJ) (trodAll_cons_mk (Below.trod laidOut (by kernel_rfl) (of_decide_eq_true (by kernel_rfl)) k2 bel yW) trodAll_mk0))), rfl, bel.frame _, λh => by cases h⟩
theorem over : Rows.panelListsRow.holds Tryz.pinned (OpenSpec.ofChange Rows.panelListsSpec) :=
 OpenClaim.holds_of_wide 4 Tryz.f4 rfl rfl rfl rfl rfl rfl rfl ⟨rfl, rfl, rfl, rfl, rfl⟩ rfl rfl rfl rfl rfl (by kernel_rfl) Tryz.func4 (by kernel_rfl)
  (of_decide_eq_true (by kernel_rfl)) (by unfold Func.isWrapper; first | (rw [if_pos (by decide +kernel)]; kernel_rfl) | (rw [if_neg (by decide +kernel)]; exact ⟨rfl, rfl⟩))
  (λos started H enc _ => lifted os started H enc)
theorem proved : Rows.PanelListsSaid := over
#print axioms proved
end Go.Proofs.YtghemgdfmldoeaaGreat.panelLists
