import Derived.Test.YtceemiodpccbhaaGreatD35
set_option linter.unusedVariables false
set_option linter.unusedSimpArgs false

/- The law GapDiscs. (The frame follows the kit's proof-skeleton.) -/
set_option maxRecDepth 100000
namespace Go.Proofs.YtceemiodpccbhaaGreat.gapDiscs
open Go.ChangeShapes Go.WideShapes Go.ChangeAt Go.RowKit Go.Joins
open Go.Proofs.YtceemiodpccbhaaGreat.fin
set_option linter.unusedVariables false
theorem walk (x0_0 x0_1 : Int) (x1_0 x1_1 : Int) (x2_0 x2_1 : Int) (w : World) (i0 : ∀ z ∈ [x0_0, x0_1], fin.In64 z) (i1 : ∀ z ∈ [x1_0, x1_1], fin.In64 z) (i2 : ∀ z ∈ [x2_0, x2_1], fin.In8 z) :
  Calls Tryz.prog 4 #[.agg #[.int .i64 x0_0, .int .i64 x0_1], .agg #[.int .i64 x1_0, .int .i64 x1_1], .agg #[.int .u8 x2_0, .int .u8 x2_1]] w fun e w' => e = .returned (.bool true) /\ Below w.heap.size w w' :=
 law_true (discs_fok x0_0 x0_1 x1_0 x1_1 x2_0 x2_1 (i2 x2_0 (by simp)) (i2 x2_1 (by simp))) (rvs_cons.2 ⟨_, rv_st (L := [x0_0, x0_1]) i0, _, rfl, rvs_cons.2 ⟨_, rv_st (L := [x1_0, x1_1]) i1, _, rfl, rvs_cons.2 ⟨_, rv_u8 (L := [x2_0, x2_1]), _, rfl, rvs_nil.2 rfl⟩⟩⟩)
theorem lifted (os : Os) (started : os.Started) (H : Type) (enc : TypeId × Value -> H) :
  ReturnsInHanded {} Tryz.checked os 4 .any (Rows.gapDiscsSpec.pre6 enc Tryz.prog Tryz.f4 Rows.gapDiscsRow.domain false) (Rows.gapDiscsSpec.post enc Tryz.prog Tryz.f4 false true false false) := by
 refine returnsInHanded_of_change (C := Tryz.checked) own started (by kernel_rfl) Tryz.func4
  (ChangeSpec.witness6 (enc := enc) (C := Tryz.checked) false ⟨#[], #[.agg #[.int .i64 0, .int .i64 0], .agg #[.int .i64 0, .int .i64 0], .agg #[.int .u8 0, .int .u8 0]], []⟩ 8 (by kernel_rfl) (by kernel_rfl) (by kernel_rfl) (by kernel_rfl)) ?_
 intro W base args ds gs before hval0 hW hcnd _
 have hval : ∀ (j : Nat) t v, Tryz.f4.params[j]? = some t -> args[j]? = some v -> Value.okWide Tryz.prog W .any base t v := hval0
 have hW' := hW
 obtain ⟨p, q, hA0, hV, rfl, hfz, hnd⟩ := hW
 have hA : DataW.TrodAll enc Tryz.prog W 0 (fun _ => true) true Tryz.f4.params.toList args.toList ds p := hA0
 rw [Tryz.params4] at hA hval
 obtain ⟨v0, vs0, d0, ds0, p0, q0, hargs, rfl, rfl, h0, r0⟩ := trodAll_cons hA
 obtain ⟨v1, vs1, d1, ds1, p1, q1, rfl, rfl, rfl, h1, r1⟩ := trodAll_cons r0
 obtain ⟨v2, vs2, d2, ds2, p2, q2, rfl, rfl, rfl, h2, r2⟩ := trodAll_cons r1
 obtain ⟨rfl, rfl, rfl⟩ := trodAll_nil r2
 obtain rfl : args = #[v0, v1, v2] := by cases args; simp_all
 obtain ⟨rfl, rfl⟩ := trodVars_none hV
 have k0 := h0
 have lt0 : ∀ x ∈ p0, x.block < W.heap.size := by obtain ⟨m, hm⟩ := k0; exact DataW.trod_lt m _ _ _ hm
 obtain ⟨L0, hl0, rfl, i0⟩ := ints_st (n := 2) Tryz.underlying32 (by kernel_rfl) (by kernel_rfl) (hval 0 32 v0 rfl rfl)
 obtain ⟨x0_0, M0_0, rfl, m0_0⟩ := list_cons hl0
 obtain ⟨x0_1, M0_1, rfl, m0_1⟩ := list_cons m0_0
 obtain rfl := List.eq_nil_of_length_eq_zero m0_1
 have k1 := h1
 have lt1 : ∀ x ∈ p1, x.block < W.heap.size := by obtain ⟨m, hm⟩ := k1; exact DataW.trod_lt m _ _ _ hm
 obtain ⟨L1, hl1, rfl, i1⟩ := ints_st (n := 2) Tryz.underlying32 (by kernel_rfl) (by kernel_rfl) (hval 1 32 v1 rfl rfl)
 obtain ⟨x1_0, M1_0, rfl, m1_0⟩ := list_cons hl1
 obtain ⟨x1_1, M1_1, rfl, m1_1⟩ := list_cons m1_0
 obtain rfl := List.eq_nil_of_length_eq_zero m1_1
 have k2 := h2
 have lt2 : ∀ x ∈ p2, x.block < W.heap.size := by obtain ⟨m, hm⟩ := k2; exact DataW.trod_lt m _ _ _ hm
 obtain ⟨L2, hl2, rfl, i2⟩ := ints_arr8 (n := 2) Tryz.underlying33 (by kernel_rfl) (by kernel_rfl) (hval 2 33 v2 rfl rfl)
 obtain ⟨x2_0, M2_0, rfl, m2_0⟩ := list_cons hl2
 obtain ⟨x2_1, M2_1, rfl, m2_1⟩ := list_cons m2_0
 obtain rfl := List.eq_nil_of_length_eq_zero m2_1
 clear hA0 hval0
 refine (walk x0_0 x0_1 x1_0 x1_1 x2_0 x2_1 W i0 i1 i2).mono fun e W' ⟨he, bel⟩ => ?_
 subst he
 exact ⟨_, rfl, _, _, _, [], _, [], hW', trodAll_mk1 (shut_bool Tryz.underlying4 _), (trodAll_cons_mk (Below.trod laidOut (by kernel_rfl) (of_decide_eq_true (by kernel_rfl)) k0 bel lt0) (trodAll_cons_mk (Below.trod laidOut (by kernel_rfl) (of_decide_eq_true (by kernel_rfl)) k1 bel lt1) (trodAll_cons_mk (Below.trod laidOut (by kernel_rfl) (of_decide_eq_true (by kernel_rfl)) k2 bel lt2) trodAll_mk0))), rfl, bel.frame _, fun h => by cases h⟩
theorem over : Rows.gapDiscsRow.holds Tryz.pinned (OpenSpec.ofChange Rows.gapDiscsSpec) :=
 OpenClaim.holds_of_wide 4 Tryz.f4 rfl rfl rfl rfl rfl rfl rfl ⟨rfl, rfl, rfl, rfl, rfl⟩ rfl rfl rfl rfl rfl (by kernel_rfl) Tryz.func4 (by kernel_rfl)
  (of_decide_eq_true (by kernel_rfl)) (by unfold Func.isWrapper; first | (rw [if_pos (by decide +kernel)]; kernel_rfl) | (rw [if_neg (by decide +kernel)]; exact ⟨rfl, rfl⟩))
  (fun os started H enc _ => lifted os started H enc)
theorem proved : Rows.GapDiscsSaid := over
#print axioms proved
end Go.Proofs.YtceemiodpccbhaaGreat.gapDiscs
