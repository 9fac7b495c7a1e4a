import Derived.Test.YtghemgdfmldoeaaGreatS36
set_option linter.unusedVariables false
set_option linter.unusedSimpArgs false

/- PanelCopies: each copy has all drawings, holes and probes. (The frame follows the kit's proof-skeleton.) -/
set_option maxRecDepth 100000
namespace Go.Proofs.YtghemgdfmldoeaaGreat.panelCopies
open Go.ChangeShapes Go.WideShapes Go.ChangeAt Go.RowKit Go.Joins
open Go.Proofs.YtghemgdfmldoeaaGreat.fin
set_option linter.unusedVariables false
theorem walk (c0 : Cs) (v0 : Value) (w : World) (w0 : RepV w w (fun _ => 0) 0 (csV c0) v0) :
  Calls Tryz.prog 6 #[v0] w fun e w' => e = .returned (.bool true) /\ Below w.heap.size w w' :=
 law_true (pc_ok c0) (rvs_cons.2 ⟨_, w0, _, rfl, rvs_nil.2 rfl⟩)
theorem lifted (os : Os) (started : os.Started) (H : Type) (enc : TypeId × Value -> H) :
  ReturnsInHanded {} Tryz.checked os 6 .any (Rows.panelCopiesSpec.pre6 enc Tryz.prog Tryz.f6 Rows.panelCopiesRow.domain false) (Rows.panelCopiesSpec.post enc Tryz.prog Tryz.f6 false true false false) := by
 refine returnsInHanded_of_change (C := Tryz.checked) own started (by kernel_rfl) Tryz.func6
  (ChangeSpec.witness6 (enc := enc) (C := Tryz.checked) false ⟨#[], #[.agg #[.slice none 0 0, .slice none 0 0, .int .i64 0, .int .i64 0, .int .i64 0, .slice none 0 0, .slice none 0 0]], []⟩ 8 (by kernel_rfl) (by kernel_rfl) (by kernel_rfl) (by kernel_rfl)) ?_
 intro W base args ds gs before hval0 hW hcnd _
 have hval : ∀ (j : Nat) t v, Tryz.f6.params[j]? = some t -> args[j]? = some v -> Value.okWide Tryz.prog W .any base t v := hval0
 have hW' := hW
 obtain ⟨p, q, hA0, hV, rfl, hfz, hnd⟩ := hW
 have hA : DataW.TrodAll enc Tryz.prog W 0 (fun _ => true) true Tryz.f6.params.toList args.toList ds p := hA0
 rw [Tryz.params6] at hA hval
 obtain ⟨v0, vs0, d0, ds0, p0, q0, hargs, rfl, rfl, h0, r0⟩ := trodAll_cons hA
 obtain ⟨rfl, rfl, rfl⟩ := trodAll_nil r0
 obtain rfl : args = #[v0] := by cases args; simp_all
 obtain ⟨rfl, rfl⟩ := trodVars_none hV
 have k0 := h0
 have lt0 : ∀ x ∈ p0, x.block < W.heap.size := by obtain ⟨m, hm⟩ := k0; exact DataW.trod_lt m _ _ _ hm
 obtain ⟨c0, w0⟩ := case_open (hval 0 38 v0 rfl rfl) h0
 clear hA0 hval0
 refine (walk c0 v0 W w0).mono fun e W' ⟨he, bel⟩ => ?_
 subst he
 exact ⟨_, rfl, _, _, _, [], _, [], hW', trodAll_mk1 (shut_bool Tryz.underlying4 _), (trodAll_cons_mk (Below.trod laidOut (by kernel_rfl) (of_decide_eq_true (by kernel_rfl)) k0 bel lt0) trodAll_mk0), rfl, bel.frame _, fun h => by cases h⟩
theorem over : Rows.panelCopiesRow.holds Tryz.pinned (OpenSpec.ofChange Rows.panelCopiesSpec) :=
 OpenClaim.holds_of_wide 6 Tryz.f6 rfl rfl rfl rfl rfl rfl rfl ⟨rfl, rfl, rfl, rfl, rfl⟩ rfl rfl rfl rfl rfl (by kernel_rfl) Tryz.func6 (by kernel_rfl)
  (of_decide_eq_true (by kernel_rfl)) (by unfold Func.isWrapper; first | (rw [if_pos (by decide +kernel)]; kernel_rfl) | (rw [if_neg (by decide +kernel)]; exact ⟨rfl, rfl⟩))
  (fun os started H enc _ => lifted os started H enc)
theorem proved : Rows.PanelCopiesSaid := over
#print axioms proved
end Go.Proofs.YtghemgdfmldoeaaGreat.panelCopies
