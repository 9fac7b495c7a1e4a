/- The law RootOrder holds of every input: comparing made roots is an order, and a number added to both changes nothing. The package-level tables are as the program's text lays them (the card ties them). -/
import Derived.Test.YtghgggaimijcaaaGreatDoorJ28
import Derived.Test.YtghgggaimijcaaaGreatDoorJ30
import Derived.Test.YtghgggaimijcaaaGreatDoorRows
import Derived.Test.YtghgggaimijcaaaGreatDoorTie
import Derived.Test.YtghgggaimijcaaaGreatDoorCards
set_option linter.unusedVariables false
set_option linter.unusedSimpArgs false

namespace Go.Proofs.YtghgggaimijcaaaGreatDoor.rootOrder
open Go.ChangeShapes Go.WideShapes Go.ChangeAt Go.RowKit
open Go.ChangeMaps (open_string shut_string)
open Go.Joins
open Go.Proofs.YtghgggaimijcaaaGreatDoor.fin
set_option linter.unusedVariables false

theorem laid_eq : (Rows.laid_internal_strconv_uint64pow10 : DataW Unit) = Lib.tabData .u64 Lib.pow10Tab := by kernel_rfl
/-- The table's condition, as the contracts have it. -/
theorem tab_of {W : World} (h : laidMetH Tryz.prog Rows.rootOrderRow.laid W) : Tab W := by
  rw [MakeChecks.laidMetH_plain _ _ _ (by kernel_rfl)] at h
  have h2 : laidMet Tryz.prog [("internal/strconv.uint64pow10", Lib.tabData .u64 Lib.pow10Tab)] W := by
    rw [← laid_eq]
    exact h.tail.tail
  exact Lib.tabIs_of_head gP tP Tryz.underlying133 Tryz.underlying77 (by kernel_rfl) (by kernel_rfl) h2
theorem door_met (os : Os) (args : Array Value) : laidMetH Tryz.prog Rows.rootOrderRow.laid ((World.doorLaid Tryz.prog 400 os).forCall (fun _ _ => 0) ⟨#[], args, []⟩).memory := by
  rw [MakeChecks.laidMetH_plain _ _ _ (by kernel_rfl)]
  exact laidMet_of_run' 8 (by kernel_rfl) (by kernel_rfl)
set_option maxRecDepth 100000 in
theorem lifted (os : Os) (started : os.Started) (H : Type) (enc : TypeId × Value → H) :
    ReturnsInHanded {} Tryz.checked os 6 .any (fun w args => (Rows.rootOrderSpec.pre enc Tryz.prog Tryz.f6 [] false w args ∧ laidMetH Tryz.prog Rows.rootOrderRow.laid w) ∧ sizedMet enc Tryz.prog Tryz.f6 (OpenSpec.ofChange Rows.rootOrderSpec) false w args)
      (Rows.rootOrderSpec.post enc Tryz.prog Tryz.f6 false true false false) := by
  refine returnsInHanded_of_change_and (C := Tryz.checked) (X := fun w _ => laidMetH Tryz.prog Rows.rootOrderRow.laid w) (fun _ _ _ hh h => h.of_heap hh) own started (by kernel_rfl) Tryz.func6
    (ChangeSpec.witness_shaped (enc := enc) (C := Tryz.checked) (os := os) (X := fun w _ => laidMetH Tryz.prog Rows.rootOrderRow.laid w) false (World.doorLaid Tryz.prog 400 os) #[.agg #[.int .i64 0, .int .i64 0, .int .i64 0, .int .i64 0, .int .i64 0, .int .i64 0, .int .i64 0, .int .i64 0, .int .i64 0, .int .i64 0, .int .i64 0, .int .i64 0]] 8 rfl (World.shaped_of_RefB (by kernel_rfl) (by kernel_rfl)) (by kernel_rfl) (by kernel_rfl) (by kernel_rfl) (door_met os _)) ?_
  intro W base args ds gs before hval0 hW _ _ hL _
  have hval : ∀ (j : Nat) t v, Tryz.f6.params[j]? = some t → args[j]? = some v → Value.okWide Tryz.prog W .any base t v := hval0
  have hW' := hW
  obtain ⟨p, q, hA0, hV, rfl, hfz, hnd⟩ := hW
  have hA : DataW.TrodAll enc Tryz.prog W 0 (fun _ => true) true Tryz.f6.params.toList args.toList ds p := hA0
  rw [Tryz.params6] at hA hval
  obtain ⟨v0, vs0, d0, ds0, p0, q0, hargs, rfl, rfl, h0, r0⟩ := trodAll_cons hA
  obtain ⟨rfl, rfl, rfl⟩ := trodAll_nil r0
  obtain rfl : args = #[v0] := by cases args; simp_all
  obtain ⟨rfl, rfl⟩ := trodVars_none hV
  have lt0 : ∀ x ∈ p0, x.block < W.heap.size := by obtain ⟨m, hm⟩ := h0; exact DataW.trod_lt m _ _ _ hm
  obtain ⟨L0, hl0, rfl, i0⟩ := ints_arr (n := 12) Tryz.underlying51 (by kernel_rfl) (by kernel_rfl) (hval 0 51 v0 rfl rfl)
  obtain ⟨x0_0, M0_0, rfl, m0_0⟩ := list_cons hl0
  obtain ⟨x0_1, M0_1, rfl, m0_1⟩ := list_cons m0_0
  obtain ⟨x0_2, M0_2, rfl, m0_2⟩ := list_cons m0_1
  obtain ⟨x0_3, M0_3, rfl, m0_3⟩ := list_cons m0_2
  obtain ⟨x0_4, M0_4, rfl, m0_4⟩ := list_cons m0_3
  obtain ⟨x0_5, M0_5, rfl, m0_5⟩ := list_cons m0_4
  obtain ⟨x0_6, M0_6, rfl, m0_6⟩ := list_cons m0_5
  obtain ⟨x0_7, M0_7, rfl, m0_7⟩ := list_cons m0_6
  obtain ⟨x0_8, M0_8, rfl, m0_8⟩ := list_cons m0_7
  obtain ⟨x0_9, M0_9, rfl, m0_9⟩ := list_cons m0_8
  obtain ⟨x0_10, M0_10, rfl, m0_10⟩ := list_cons m0_9
  obtain ⟨x0_11, M0_11, rfl, m0_11⟩ := list_cons m0_10
  obtain rfl := List.eq_nil_of_length_eq_zero m0_11
  clear hA0 hval0
  refine (Order_core x0_0 x0_1 x0_2 x0_3 x0_4 x0_5 x0_6 x0_7 x0_8 x0_9 x0_10 x0_11 W i0 (tab_of hL)).mono fun e W' ⟨he, bel⟩ => ?_
  subst he
  exact ⟨_, rfl, _, _, _, [], _, [], hW', trodAll_mk1 (shut_bool Tryz.underlying4 _), (trodAll_cons_mk (Below.trod laidOut (by kernel_rfl) (of_decide_eq_true (by kernel_rfl)) h0 bel lt0) trodAll_mk0), rfl, bel.frame _, fun h => by cases h⟩

theorem over : Rows.RootOrderSaid :=
  OpenClaim.holds_of_wide 6 Tryz.f6 rfl rfl rfl rfl rfl rfl rfl ⟨rfl, rfl, rfl, rfl, rfl⟩ rfl rfl rfl rfl rfl (by kernel_rfl) Tryz.func6 (by kernel_rfl)
    (of_decide_eq_true (by kernel_rfl)) (by unfold Func.isWrapper; first | (rw [if_pos (by decide +kernel)]; kernel_rfl) | (rw [if_neg (by decide +kernel)]; exact ⟨rfl, rfl⟩))
    (fun os started H enc _ => lifted os started H enc)

/-- The statement: the tied card. -/
theorem proved : Rows.RootOrderCardSaid :=
  Claim7.holds_tied_plain_at .later [] [.data, .data, .data] true (true, "2d765eb56f043bbab15605c96fd9d3bb254b4bd732771e5ab5a3cd539cb55c83") true
    over (fun _ h => by cases h) (by kernel_rfl) (fun _ h => by cases h) rootOrder_row_tie rfl ⟨rfl, rfl⟩ (by kernel_rfl) rfl
    (fun f fn hf hfn => by
      obtain rfl : f = 6 := Option.some.inj ((show Tryz.prog.funcNamed "etchant/etchantlaw02.RootOrder" = some 6 by kernel_rfl).symm.trans hf) |>.symm
      obtain rfl : fn = Tryz.f6 := (Option.some.inj (Tryz.func6.symm.trans hfn)).symm
      exact ⟨by kernel_rfl, fun j t ht => by
        rw [Tryz.params6] at ht
        rcases j with _ | j
        · obtain rfl : t = 51 := by simpa using ht.symm
          exact (show Tryz.prog.wantsStandIn 51 = false by kernel_rfl)
        · simp at ht⟩)
    (by kernel_rfl)
#print axioms proved
end Go.Proofs.YtghgggaimijcaaaGreatDoor.rootOrder
