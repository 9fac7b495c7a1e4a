/- The law RootBounds holds of every input: comparing agrees with bounds of both roots, wherever these tell which one is greater. The package-level tables are as the program's text lays them (the card ties them). -/
import Derived.Test.YtghgggaimijcaaaDoorJ28
import Derived.Test.YtghgggaimijcaaaDoorJ32
import Derived.Test.YtghgggaimijcaaaDoorRows
import Derived.Test.YtghgggaimijcaaaDoorTie
import Derived.Test.YtghgggaimijcaaaDoorCards
set_option linter.unusedVariables false
set_option linter.unusedSimpArgs false

namespace Go.Proofs.YtghgggaimijcaaaDoor.rootBounds
open Go.ChangeShapes Go.WideShapes Go.ChangeAt Go.RowKit
open Go.ChangeMaps (open_string shut_string)
open Go.Joins
open Go.Proofs.YtghgggaimijcaaaDoor.fin
set_option linter.unusedVariables false

theorem laid_eq : (Rows.laid_internal_strconv_uint64pow10 : DataW Unit) = Lib.tabData .u64 Lib.pow10Tab := by kernel_rfl
/-- The table's condition, as the contracts have it. -/
theorem tab_of {W : World} (h : laidMetH Tryd.prog Rows.rootBoundsRow.laid W) : Tab W := by
  rw [MakeChecks.laidMetH_plain _ _ _ (by kernel_rfl)] at h
  have h2 : laidMet Tryd.prog [("internal/strconv.uint64pow10", Lib.tabData .u64 Lib.pow10Tab)] W := by
    rw [← laid_eq]
    exact h.tail.tail
  exact Lib.tabIs_of_head gP tP Tryd.underlying123 Tryd.underlying68 (by kernel_rfl) (by kernel_rfl) h2
theorem door_met (os : Os) (args : Array Value) : laidMetH Tryd.prog Rows.rootBoundsRow.laid ((World.doorLaid Tryd.prog 400 os).forCall (fun _ _ => 0) ⟨#[], args, []⟩).memory := by
  rw [MakeChecks.laidMetH_plain _ _ _ (by kernel_rfl)]
  exact laidMet_of_run' 8 (by kernel_rfl) (by kernel_rfl)
set_option maxRecDepth 100000 in
theorem lifted (os : Os) (started : os.Started) (H : Type) (enc : TypeId × Value → H) :
    ReturnsInHanded {} Tryd.checked os 4 .any (fun w args => (Rows.rootBoundsSpec.pre enc Tryd.prog Tryd.f4 [] false w args ∧ laidMetH Tryd.prog Rows.rootBoundsRow.laid w) ∧ sizedMet enc Tryd.prog Tryd.f4 (OpenSpec.ofChange Rows.rootBoundsSpec) false w args)
      (Rows.rootBoundsSpec.post enc Tryd.prog Tryd.f4 false true false false) := by
  refine returnsInHanded_of_change_and (C := Tryd.checked) (X := fun w _ => laidMetH Tryd.prog Rows.rootBoundsRow.laid w) (fun _ _ _ hh h => h.of_heap hh) own started (by kernel_rfl) Tryd.func4
    (ChangeSpec.witness_shaped (enc := enc) (C := Tryd.checked) (os := os) (X := fun w _ => laidMetH Tryd.prog Rows.rootBoundsRow.laid w) false (World.doorLaid Tryd.prog 400 os) #[.agg #[.int .i64 0, .int .i64 0, .int .i64 0, .int .i64 0, .int .i64 0, .int .i64 0]] 8 rfl (World.shaped_of_RefB (by kernel_rfl) (by kernel_rfl)) (by kernel_rfl) (by kernel_rfl) (by kernel_rfl) (door_met os _)) ?_
  intro W base args ds gs before hval0 hW _ _ hL _
  have hval : ∀ (j : Nat) t v, Tryd.f4.params[j]? = some t → args[j]? = some v → Value.okWide Tryd.prog W .any base t v := hval0
  have hW' := hW
  obtain ⟨p, q, hA0, hV, rfl, hfz, hnd⟩ := hW
  have hA : DataW.TrodAll enc Tryd.prog W 0 (fun _ => true) true Tryd.f4.params.toList args.toList ds p := hA0
  rw [Tryd.params4] at hA hval
  obtain ⟨v0, vs0, d0, ds0, p0, q0, hargs, rfl, rfl, h0, r0⟩ := trodAll_cons hA
  obtain ⟨rfl, rfl, rfl⟩ := trodAll_nil r0
  obtain rfl : args = #[v0] := by cases args; simp_all
  obtain ⟨rfl, rfl⟩ := trodVars_none hV
  have lt0 : ∀ x ∈ p0, x.block < W.heap.size := by obtain ⟨m, hm⟩ := h0; exact DataW.trod_lt m _ _ _ hm
  obtain ⟨L0, hl0, rfl, i0⟩ := ints_arr (n := 6) Tryd.underlying36 (by kernel_rfl) (by kernel_rfl) (hval 0 36 v0 rfl rfl)
  obtain ⟨x0_0, M0_0, rfl, m0_0⟩ := list_cons hl0
  obtain ⟨x0_1, M0_1, rfl, m0_1⟩ := list_cons m0_0
  obtain ⟨x0_2, M0_2, rfl, m0_2⟩ := list_cons m0_1
  obtain ⟨x0_3, M0_3, rfl, m0_3⟩ := list_cons m0_2
  obtain ⟨x0_4, M0_4, rfl, m0_4⟩ := list_cons m0_3
  obtain ⟨x0_5, M0_5, rfl, m0_5⟩ := list_cons m0_4
  obtain rfl := List.eq_nil_of_length_eq_zero m0_5
  clear hA0 hval0
  refine (Bounds_core x0_0 x0_1 x0_2 x0_3 x0_4 x0_5 W (tab_of hL)).mono fun e W' ⟨he, bel⟩ => ?_
  subst he
  exact ⟨_, rfl, _, _, _, [], _, [], hW', trodAll_mk1 (shut_bool Tryd.underlying4 _), (trodAll_cons_mk (Below.trod laidOut (by kernel_rfl) (of_decide_eq_true (by kernel_rfl)) h0 bel lt0) trodAll_mk0), rfl, bel.frame _, fun h => by cases h⟩

theorem over : Rows.RootBoundsSaid :=
  OpenClaim.holds_of_wide 4 Tryd.f4 rfl rfl rfl rfl rfl rfl rfl ⟨rfl, rfl, rfl, rfl, rfl⟩ rfl rfl rfl rfl rfl (by kernel_rfl) Tryd.func4 (by kernel_rfl)
    (of_decide_eq_true (by kernel_rfl)) (by unfold Func.isWrapper; first | (rw [if_pos (by decide +kernel)]; kernel_rfl) | (rw [if_neg (by decide +kernel)]; exact ⟨rfl, rfl⟩))
    (fun os started H enc _ => lifted os started H enc)

/-- The statement: the tied card. -/
theorem proved : Rows.RootBoundsCardSaid :=
  Claim7.holds_tied_plain_at .later [] [.data, .data, .data] true (true, "938a6ba4b6d1b9d58cd18a21fcbcc71eb884eca0d6622e9c2ba1d72db6af7c79") true
    over (fun _ h => by cases h) (by kernel_rfl) (fun _ h => by cases h) rootBounds_row_tie rfl ⟨rfl, rfl⟩ (by kernel_rfl) rfl
    (fun f fn hf hfn => by
      obtain rfl : f = 4 := Option.some.inj ((show Tryd.prog.funcNamed "etchant/etchantlaw02.RootBounds" = some 4 by kernel_rfl).symm.trans hf) |>.symm
      obtain rfl : fn = Tryd.f4 := (Option.some.inj (Tryd.func4.symm.trans hfn)).symm
      exact ⟨by kernel_rfl, fun j t ht => by
        rw [Tryd.params4] at ht
        rcases j with _ | j
        · obtain rfl : t = 36 := by simpa using ht.symm
          exact (show Tryd.prog.wantsStandIn 36 = false by kernel_rfl)
        · simp at ht⟩)
    (by kernel_rfl)
#print axioms proved
end Go.Proofs.YtghgggaimijcaaaDoor.rootBounds
