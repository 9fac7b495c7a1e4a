/- The law RootSigns holds of every input: signs of a + b √c are those of the reference, for any numbers (the first 22 digits), small ones and ints. The package-level tables are as the program's text lays them (the card ties them). -/
import Derived.Test.YtghgggaimijcaaaGreatDoorJ28
import Derived.Test.YtghgggaimijcaaaGreatDoorJ35
import Derived.Test.YtghgggaimijcaaaGreatDoorRows
import Derived.Test.YtghgggaimijcaaaGreatDoorTie
import Derived.Test.YtghgggaimijcaaaGreatDoorCards
set_option linter.unusedVariables false
set_option linter.unusedSimpArgs false

namespace Go.Proofs.YtghgggaimijcaaaGreatDoor.rootSigns
open Go.ChangeShapes Go.WideShapes Go.ChangeAt Go.RowKit
open Go.ChangeMaps (open_string shut_string)
open Go.Joins
open Go.Proofs.YtghgggaimijcaaaGreatDoor.fin
set_option linter.unusedVariables false

theorem laid_eq : (Rows.laid_internal_strconv_uint64pow10 : DataW Unit) = Lib.tabData .u64 Lib.pow10Tab := by kernel_rfl
/-- The table's condition, as the contracts have it. -/
theorem tab_of {W : World} (h : laidMetH Tryz.prog Rows.rootSignsRow.laid W) : Tab W := by
  rw [MakeChecks.laidMetH_plain _ _ _ (by kernel_rfl)] at h
  have h2 : laidMet Tryz.prog [("internal/strconv.uint64pow10", Lib.tabData .u64 Lib.pow10Tab)] W := by
    rw [← laid_eq]
    exact h.tail.tail
  exact Lib.tabIs_of_head gP tP Tryz.underlying133 Tryz.underlying77 (by kernel_rfl) (by kernel_rfl) h2
theorem door_met (os : Os) (args : Array Value) : laidMetH Tryz.prog Rows.rootSignsRow.laid ((World.doorLaid Tryz.prog 400 os).forCall (fun _ _ => 0) ⟨#[], args, []⟩).memory := by
  rw [MakeChecks.laidMetH_plain _ _ _ (by kernel_rfl)]
  exact laidMet_of_run' 8 (by kernel_rfl) (by kernel_rfl)
set_option maxRecDepth 100000 in
theorem lifted (os : Os) (started : os.Started) (H : Type) (enc : TypeId × Value → H) :
    ReturnsInHanded {} Tryz.checked os 4 .any (fun w args => (Rows.rootSignsSpec.pre enc Tryz.prog Tryz.f4 [] false w args ∧ laidMetH Tryz.prog Rows.rootSignsRow.laid w) ∧ sizedMet enc Tryz.prog Tryz.f4 (OpenSpec.ofChange Rows.rootSignsSpec) false w args)
      (Rows.rootSignsSpec.post enc Tryz.prog Tryz.f4 false true false false) := by
  refine returnsInHanded_of_change_and (C := Tryz.checked) (X := fun w _ => laidMetH Tryz.prog Rows.rootSignsRow.laid w) (fun _ _ _ hh h => h.of_heap hh) own started (by kernel_rfl) Tryz.func4
    (ChangeSpec.witness_shaped (enc := enc) (C := Tryz.checked) (os := os) (X := fun w _ => laidMetH Tryz.prog Rows.rootSignsRow.laid w) false (World.doorLaid Tryz.prog 400 os) #[.agg #[.bool false, .slice none 0 0, .bool false, .slice none 0 0, .bool false, .slice none 0 0], .agg #[.int .i64 0, .int .i64 0, .int .i64 0]] 8 rfl (World.shaped_of_RefB (by kernel_rfl) (by kernel_rfl)) (by kernel_rfl) (by kernel_rfl) (by kernel_rfl) (door_met os _)) ?_
  intro W base args ds gs before hval0 hW _ _ hL _
  have hval : ∀ (j : Nat) t v, Tryz.f4.params[j]? = some t → args[j]? = some v → Value.okWide Tryz.prog W .any base t v := hval0
  have hW' := hW
  obtain ⟨p, q, hA0, hV, rfl, hfz, hnd⟩ := hW
  have hA : DataW.TrodAll enc Tryz.prog W 0 (fun _ => true) true Tryz.f4.params.toList args.toList ds p := hA0
  rw [Tryz.params4] at hA hval
  obtain ⟨v0, vs0, d0, ds0, p0, q0, hargs, rfl, rfl, h0, r0⟩ := trodAll_cons hA
  obtain ⟨v1, vs1, d1, ds1, p1, q1, rfl, rfl, rfl, h1, r1⟩ := trodAll_cons r0
  obtain ⟨rfl, rfl, rfl⟩ := trodAll_nil r1
  obtain rfl : args = #[v0, v1] := by cases args; simp_all
  obtain ⟨rfl, rfl⟩ := trodVars_none hV
  have lt0 : ∀ x ∈ p0, x.block < W.heap.size := by obtain ⟨m, hm⟩ := h0; exact DataW.trod_lt m _ _ _ hm
  have lt1 : ∀ x ∈ p1, x.block < W.heap.size := by obtain ⟨m, hm⟩ := h1; exact DataW.trod_lt m _ _ _ hm
  obtain ⟨n0_0, u0_0, l0_0, c0_0, X0_0, n0_1, u0_1, l0_1, c0_1, X0_1, n0_2, u0_2, l0_2, c0_2, X0_2, rfl, nX0_0, nX0_1, nX0_2⟩ := nums3 (hval 0 40 v0 rfl rfl) h0
  obtain ⟨L1, hl1, rfl, i1⟩ := ints_arr (n := 3) Tryz.underlying41 (by kernel_rfl) (by kernel_rfl) (hval 1 41 v1 rfl rfl)
  obtain ⟨x1_0, M1_0, rfl, m1_0⟩ := list_cons hl1
  obtain ⟨x1_1, M1_1, rfl, m1_1⟩ := list_cons m1_0
  obtain ⟨x1_2, M1_2, rfl, m1_2⟩ := list_cons m1_1
  obtain rfl := List.eq_nil_of_length_eq_zero m1_2
  clear hA0 hval0
  refine (Signs_core x1_0 x1_1 x1_2 n0_0 n0_1 n0_2 u0_0 u0_1 u0_2 l0_0 c0_0 l0_1 c0_1 l0_2 c0_2 X0_0 X0_1 X0_2 W i1 nX0_0 nX0_1 nX0_2 (tab_of hL)).mono fun e W' ⟨he, bel⟩ => ?_
  subst he
  exact ⟨_, rfl, _, _, _, [], _, [], hW', trodAll_mk1 (shut_bool Tryz.underlying4 _), (trodAll_cons_mk (Below.trod laidOut (by kernel_rfl) (of_decide_eq_true (by kernel_rfl)) h0 bel lt0) (trodAll_cons_mk (Below.trod laidOut (by kernel_rfl) (of_decide_eq_true (by kernel_rfl)) h1 bel lt1) trodAll_mk0)), rfl, bel.frame _, fun h => by cases h⟩

theorem over : Rows.RootSignsSaid :=
  OpenClaim.holds_of_wide 4 Tryz.f4 rfl rfl rfl rfl rfl rfl rfl ⟨rfl, rfl, rfl, rfl, rfl⟩ rfl rfl rfl rfl rfl (by kernel_rfl) Tryz.func4 (by kernel_rfl)
    (of_decide_eq_true (by kernel_rfl)) (by unfold Func.isWrapper; first | (rw [if_pos (by decide +kernel)]; kernel_rfl) | (rw [if_neg (by decide +kernel)]; exact ⟨rfl, rfl⟩))
    (fun os started H enc _ => lifted os started H enc)

/-- The statement: the tied card. -/
theorem proved : Rows.RootSignsCardSaid :=
  Claim7.holds_tied_plain_at .later [] [.data, .data, .data] true (true, "2d765eb56f043bbab15605c96fd9d3bb254b4bd732771e5ab5a3cd539cb55c83") true
    over (fun _ h => by cases h) (by kernel_rfl) (fun _ h => by cases h) rootSigns_row_tie rfl ⟨rfl, rfl⟩ (by kernel_rfl) rfl
    (fun f fn hf hfn => by
      obtain rfl : f = 4 := Option.some.inj ((show Tryz.prog.funcNamed "etchant/etchantlaw02.RootSigns" = some 4 by kernel_rfl).symm.trans hf) |>.symm
      obtain rfl : fn = Tryz.f4 := (Option.some.inj (Tryz.func4.symm.trans hfn)).symm
      exact ⟨by kernel_rfl, fun j t ht => by
        rw [Tryz.params4] at ht
        rcases j with _ | _ | j
        · obtain rfl : t = 40 := by simpa using ht.symm
          exact (show Tryz.prog.wantsStandIn 40 = false by kernel_rfl)
        · obtain rfl : t = 41 := by simpa using ht.symm
          exact (show Tryz.prog.wantsStandIn 41 = false by kernel_rfl)
        · simp at ht⟩)
    (by kernel_rfl)
#print axioms proved
end Go.Proofs.YtghgggaimijcaaaGreatDoor.rootSigns
