import Derived.Test.YteajakbpmeebnaaGreatH38
set_option linter.unusedVariables false
set_option linter.unusedSimpArgs false

/- what an outline holds, with a need that is not negative, touches it, its ends are inside, and so is a greater outline around; with a greater need less is held. (The frame follows the kit's proof-skeleton.) -/
set_option maxRecDepth 100000
namespace Go.Proofs.YteajakbpmeebnaaGreat.gapHolds
open Go.ChangeShapes Go.WideShapes Go.ChangeAt Go.RowKit Go.Joins
open Go.Proofs.YteajakbpmeebnaaGreat.fin
set_option linter.unusedVariables false
theorem walk (a0 : Option Addr) (len0 cap0 : Nat) (z0 : List Int) (a1 : Option Addr) (len1 cap1 : Nat) (z1 : List Int) (x2_0 x2_1 x2_2 : Int) (w : World) (w0 : IsRow .i64 w a0 len0 cap0 z0) (w1 : IsRow .i64 w a1 len1 cap1 z1) (i2 : ∀ z ∈ [x2_0, x2_1, x2_2], fin.In64 z) :
  Calls Tryz.prog 4 #[.slice a0 len0 cap0, .slice a1 len1 cap1, .agg #[.int .i64 x2_0, .int .i64 x2_1, .int .i64 x2_2]] w fun e w' => e = .returned (.bool true) /\ Below w.heap.size w w' :=
 law_true (gholds_fok (z0.take len0) (z1.take len1) x2_0 x2_1 x2_2) (rvs_cons.2 ⟨_, rv_ds w0, _, rfl, rvs_cons.2 ⟨_, rv_ds w1, _, rfl, rvs_cons.2 ⟨_, rv_st (L := [x2_0, x2_1, x2_2]) i2, _, rfl, rvs_nil.2 rfl⟩⟩⟩)
theorem lifted (os : Os) (started : os.Started) (H : Type) (enc : TypeId × Value -> H) :
  ReturnsInHanded {} Tryz.checked os 4 .any (Rows.gapHoldsSpec.pre6 enc Tryz.prog Tryz.f4 Rows.gapHoldsRow.domain false) (Rows.gapHoldsSpec.post enc Tryz.prog Tryz.f4 false true false false) := by
 refine returnsInHanded_of_change (C := Tryz.checked) own started (by kernel_rfl) Tryz.func4
  (ChangeSpec.witness6 (enc := enc) (C := Tryz.checked) false ⟨#[], #[.slice none 0 0, .slice none 0 0, .agg #[.int .i64 0, .int .i64 0, .int .i64 0]], []⟩ 8 (by kernel_rfl) (by kernel_rfl) (by kernel_rfl) (by kernel_rfl)) ?_
 intro W base args ds gs before hval0 hW hcnd _
 have hval : ∀ (j : Nat) t v, Tryz.f4.params[j]? = some t -> args[j]? = some v -> Value.okWide Tryz.prog W .any base t v := hval0
 have hW' := hW
 obtain ⟨p, q, hA0, hV, rfl, hfz, hnd⟩ := hW
 have hA : DataW.TrodAll enc Tryz.prog W 0 (fun _ => true) true Tryz.f4.params.toList args.toList ds p := hA0
 rw [Tryz.params4] at hA hval
 obtain ⟨v0, vs0, d0, ds0, p0, q0, hargs, rfl, rfl, h0, r0⟩ := trodAll_cons hA
 obtain ⟨v1, vs1, d1, ds1, p1, q1, rfl, rfl, rfl, h1, r1⟩ := trodAll_cons r0
 obtain ⟨v2, vs2, d2, ds2, p2, q2, rfl, rfl, rfl, h2, r2⟩ := trodAll_cons r1
 obtain ⟨rfl, rfl, rfl⟩ := trodAll_nil r2
 obtain rfl : args = #[v0, v1, v2] := by cases args; simp_all
 obtain ⟨rfl, rfl⟩ := trodVars_none hV
 have k0 := h0
 have lt0 : ∀ x ∈ p0, x.block < W.heap.size := by obtain ⟨m, hm⟩ := k0; exact DataW.trod_lt m _ _ _ hm
 obtain ⟨a0, len0, cap0, z0, rfl, w0⟩ := ints_in (hval 0 22 v0 rfl rfl) h0
 have k1 := h1
 have lt1 : ∀ x ∈ p1, x.block < W.heap.size := by obtain ⟨m, hm⟩ := k1; exact DataW.trod_lt m _ _ _ hm
 obtain ⟨a1, len1, cap1, z1, rfl, w1⟩ := ints_in (hval 1 22 v1 rfl rfl) h1
 have k2 := h2
 have lt2 : ∀ x ∈ p2, x.block < W.heap.size := by obtain ⟨m, hm⟩ := k2; exact DataW.trod_lt m _ _ _ hm
 obtain ⟨L2, hl2, rfl, i2⟩ := ints_st (n := 3) Tryz.underlying26 (by kernel_rfl) (by kernel_rfl) (hval 2 26 v2 rfl rfl)
 obtain ⟨x2_0, M2_0, rfl, m2_0⟩ := list_cons hl2
 obtain ⟨x2_1, M2_1, rfl, m2_1⟩ := list_cons m2_0
 obtain ⟨x2_2, M2_2, rfl, m2_2⟩ := list_cons m2_1
 obtain rfl := List.eq_nil_of_length_eq_zero m2_2
 clear hA0 hval0
 refine (walk a0 len0 cap0 z0 a1 len1 cap1 z1 x2_0 x2_1 x2_2 W w0 w1 i2).mono fun e W' ⟨he, bel⟩ => ?_
 subst he
 exact ⟨_, rfl, _, _, _, [], _, [], hW', trodAll_mk1 (shut_bool Tryz.underlying4 _), (trodAll_cons_mk (Below.trod laidOut (by kernel_rfl) (of_decide_eq_true (by kernel_rfl)) k0 bel lt0) (trodAll_cons_mk (Below.trod laidOut (by kernel_rfl) (of_decide_eq_true (by kernel_rfl)) k1 bel lt1) (trodAll_cons_mk (Below.trod laidOut (by kernel_rfl) (of_decide_eq_true (by kernel_rfl)) k2 bel lt2) trodAll_mk0))), rfl, bel.frame _, fun h => by cases h⟩
theorem over : Rows.gapHoldsRow.holds Tryz.pinned (OpenSpec.ofChange Rows.gapHoldsSpec) :=
 OpenClaim.holds_of_wide 4 Tryz.f4 rfl rfl rfl rfl rfl rfl rfl ⟨rfl, rfl, rfl, rfl, rfl⟩ rfl rfl rfl rfl rfl (by kernel_rfl) Tryz.func4 (by kernel_rfl)
  (of_decide_eq_true (by kernel_rfl)) (by unfold Func.isWrapper; first | (rw [if_pos (by decide +kernel)]; kernel_rfl) | (rw [if_neg (by decide +kernel)]; exact ⟨rfl, rfl⟩))
  (fun os started H enc _ => lifted os started H enc)
theorem proved : Rows.GapHoldsSaid := over
#print axioms proved
end Go.Proofs.YteajakbpmeebnaaGreat.gapHolds
